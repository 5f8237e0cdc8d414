/- Vaults: slices.Insert of one, at any place. -/
import Derived.Test.YthdbobnebpoolaaVltK
import Derived.RangeFuncNested
import Derived.RangeFuncLeaves
import Derived.Test.YthdbobnebpoolaaCredTy
import Derived.Deep.LoopGhost
namespace Go.Proofs.Ythdbobnebpoolaa
set_option linter.unusedSimpArgs false
set_option linter.unusedVariables false
open Go Go.RowKit
section
variable {fr al : Nat → Prop} {w0 w : World}
theorem sgnInsert_c {va : Option Addr} {n c i bv : Nat} {ss : List SgnT} (x : SgnT) (st : Own fr al w0 [rowI 35 10 (.slice va n c) n (cellsL ss), blkI bv (sgC x)] w) (hi : i ≤ n) (hn : n ≤ 1000000) :
    Calls Try.prog 30 #[.slice va n c, .int .i64 (i : Int), .slice (some ⟨bv, 0, none⟩) 1 1] w (InsGot fr al w0 bv x (n + 1) (ss.take i ++ x :: ss.drop i)) := by
  have hlen : n = ss.length := (rowFl' (α := SgnT) st (i := 0) get0).2.1
  by_cases hin : i = n
  · have hsn : ss.take i ++ x :: ss.drop i = ss ++ [x] := by
      rw [List.take_of_length_le (by omega), List.drop_of_length_le (by omega)]
    rw [hsn, hin]
    exact sgnInsertEnd_c x st hn
  · rcases (st.row (i := 0) get0).2 with ⟨h5, h6⟩ | ⟨g', cap, cur, hv, _⟩
    · cases h5
      omega
    cases hv
    by_cases hc : n + 1 ≤ c
    · exact sgnInsertRoom_c x st (by omega) hc hn
    · exact sgnInsertGrow_c x st (by omega) (by omega) hn
end
end Go.Proofs.Ythdbobnebpoolaa

namespace Go.Proofs.Ythdbobnebpoolaa
set_option linter.unusedSimpArgs false
set_option linter.unusedVariables false
open Go Go.RowKit

/-- One object that is no cells. -/
def objI (b : Nat) (o : Obj) : It where
  P e _ w := e b ∧ w.heap[b]? = some o
  st h hb := ⟨h.1, (hb b (.inl h.1)).trans h.2⟩
  facts _ := True
  ok _ := trivial
section
variable {fr al : Nat → Prop} {w0 w : World} {L : List It}
theorem Own.obj (st : Own fr al w0 L w) {i b : Nat} {o : Obj} (hi : L[i]? = some (objI b o)) : w.heap[b]? = some o := let ⟨_, _, h, _⟩ := st.get hi; h.2
theorem Own.newObj (st : Own fr al w0 L w) (o : Obj) {b : Nat} (hb : b = w.heap.size) : Own fr al w0 (L ++ [objI b o]) (w.alloc o) := by
  subst hb
  exact st.new (Ext.new w o) (e' := fun k => k = w.heap.size) (s' := fun _ => False) ⟨rfl, World.alloc_heap_new w o⟩ (fun b h => ⟨by rw [h]; show _ < (w.heap.push _).size; simp, Nat.le_of_eq h.symm⟩) (fun b h => h.elim) (fun _ _ h => h)
theorem Own.setObj (st : Own fr al w0 L w) {i b : Nat} {o : Obj} (hi : L[i]? = some (objI b o)) (o' : Obj) : Own fr al w0 (L.set i (objI b o')) (w.putObj b o') := by
  refine st.upd hi fun e s ⟨h1, h2⟩ h3 h4 => ⟨e, s, ⟨h1, World.putObj_heap_same (h3 b (.inl h1))⟩, fun k hk => ⟨?_, .inl hk⟩, fun k hk => ⟨?_, .inr (.inl hk)⟩, h4, ?_⟩
  · have := h3 k (.inl hk); show k < (w.heap.setIfInBounds b o').size; simpa using this
  · have := h3 k (.inr hk); show k < (w.heap.setIfInBounds b o').size; simpa using this
  · exact ⟨rfl, rfl, rfl, by show w.heap.size ≤ (w.heap.setIfInBounds b o').size; simp, .of (Nat.le_refl _), fun k _ hk => World.putObj_heap_other (fun q => hk (q ▸ h1))⟩
/-- Many items in one. -/
def bunI (L : List It) : It where
  P e s w := ∃ e' s', Foot e (fun b => e b ∨ s b) w L w e' s'
  st := by
    rintro e s w w' ⟨e', s', F⟩ hag
    have hsub : ∀ i b, i < L.length → (e' i b ∨ s' i b) → e b ∨ s b := fun i b hi hb => F.al i b hi hb (F.lo i b hi hb)
    have hlo : ∀ i b, i < L.length → (e' i b ∨ s' i b) → b < w'.heap.size := fun i b hi hb => by
      have h1 := F.lo i b hi hb
      have h2 := hag b (hsub i b hi hb)
      rw [Array.getElem?_eq_getElem h1] at h2
      exact (Array.getElem?_eq_some_iff.1 h2).1
    exact ⟨e', s', fun i I hi => I.st (F.holds i I hi) fun b hb => hag b (hsub i b (get_lt hi) hb), hlo, fun i b hi hb _ => F.fr i b hi hb (F.lo i b hi (.inl hb)), fun i b hi hb _ => F.al i b hi hb (F.lo i b hi hb), F.ee, F.es⟩
  facts _ := True
  ok _ := trivial
end

/-- The wide fence, in a round or in none. -/
def wfc : Option Nat → Fence
  | none => Fence.wide
  | some l => Fence.wide.inRound l
def noDefer (o : Oper) : Bool := match o.op with | .defer _ => false | _ => true
section
variable {P : Program} {l : Option Nat} {n : Nat}
theorem callsIn_wf {f : FuncId} {args : Array Value} {w : World} {R : Ending → World → Prop} (h : Calls P f args w R) : CallsIn (wfc l) n P f args w R := by
  cases l with
  | none => exact callsIn_wide.2 h
  | some l => exact CallsIn.inRound l (callsIn_wide.2 h)
theorem rowsIn_wf {row : String} {args : Array Value} {w : World} {R : Value → World → Prop} (h : Rows P row args w R) : RowsIn (wfc l) n P row args w R := by
  have h0 : RowsIn Fence.wide n P row args w R := fun c cs _ => let ⟨v, w', r, s⟩ := h c cs; ⟨v, w', r, stepsIn_wide.2 s⟩
  cases l with
  | none => exact h0
  | some l => exact h0
theorem wfc_fn (f : FuncId) : (wfc l).fn f := by cases l <;> exact trivial
theorem wfc_depth : (wfc l).depth = none := by cases l <;> rfl
theorem semAt_wf {ρ : Operand → Value} {o : Oper} (hd : noDefer o = true) : Oper.semAt (wfc l).round ρ o = execOp ρ o := by
  have hn : ∀ c, o.op ≠ .defer c := fun c hc => by
    unfold noDefer at hd
    rw [hc] at hd
    cases hd
  cases l with
  | none => exact Oper.semAt_none ..
  | some l => exact Oper.semAt_some l ρ o hn
theorem opIn_of_wp {o : Oper} {a : Act} {w : World} {next next' : Act → World → Prop} {Q Q' : Exit → Act → World → Prop} (hd : noDefer o = true) (h : o.wp P a w next Q) (hn : ∀ a w, next a w → next' a w) (hp : ∀ c a w, Q (.panic c) a w → Q' (.panic c) a w) (ho : LetsOut Q → LetsOut Q') :
    o.wpIn (wfc l) n P a w next' Q' := by
  refine ⟨fun f _ => wfc_fn f, ?_⟩
  have hs : Oper.semAt (wfc l).round a.eval o = execOp a.eval o := semAt_wf hd
  have hdp : ∀ {p : Prop}, ((wfc l).depth.isSome = true → p) := fun h => by rw [wfc_depth] at h; cases h
  rw [hs]
  unfold Oper.wp at h
  cases hr : (execOp a.eval o).run P w with
  | ok nx w' =>
    rw [hr] at h
    cases nx with
    | value v => exact hn _ _ h
    | skip => exact hn _ _ h
    | defer d => exact hn _ _ h
    | enter f args =>
      refine ⟨hdp, callsIn_wf (Calls.mono h ?_)⟩
      intro e w'' q
      cases e with
      | returned v => exact hn _ _ q
      | panicked c => exact hp _ _ _ q
      | outgrown => exact ho q
    | row row args => exact ⟨hdp, rowsIn_wf (Rows.mono h fun v w'' q => hn _ _ q)⟩
    | _ => exact h.elim
  | halt hh w' =>
    rw [hr] at h
    cases hh <;> first | exact hp _ _ _ h | exact h.elim
theorem listIn_of_wp {ops : Array Oper} {Q Q' : Exit → Act → World → Prop} {rest : List Oper} (hp : ∀ c a w, Q (.panic c) a w → Q' (.panic c) a w) (ho : ¬ LetsOut Q) (hk : ∀ a w, Q .normal a w → wpListIn (wfc l) n P ops Q' rest a w) :
    ∀ (pre : List Oper) (a : Act) (w : World), (pre.all noDefer = true) → wpList P ops Q pre a w → wpListIn (wfc l) n P ops Q' (pre ++ rest) a w := by
  intro pre
  induction pre with
  | nil => exact fun a w _ h => hk a w h
  | cons o pre ih =>
    intro a w hd h
    rw [List.all_cons, Bool.and_eq_true] at hd
    rw [List.cons_append]
    unfold wpListIn
    unfold wpList at h
    by_cases hw : Region.wanted o (yielded ops a.tmps) = true
    · rw [if_pos hw] at h ⊢
      rcases h with h | ⟨_, h⟩
      · exact opIn_of_wp hd.1 h (fun a w q => ih a w hd.2 q) hp (fun q => absurd q ho)
      · exact absurd h ho
    · rw [if_neg hw] at h ⊢
      exact ⟨fun f _ => wfc_fn f, ih _ _ hd.2 h⟩
/-- A region in a round. -/
theorem wpIn_region_of {id : Nat} {Q : Exit → Act → World → Prop} {a : Act} {w : World} {ops : List Oper} (hd : ops.all noDefer = true) (ho : ¬ LetsOut Q) (h : wpList P ops.toArray Q ops a w) : (Code.region id ops.toArray false).wpIn (wfc l) n P Q a w := by
  refine wpIn_region_lit ?_
  have := listIn_of_wp (l := l) (n := n) (ops := ops.toArray) (Q := Q) (Q' := Q) (rest := []) (fun _ _ _ q => q) ho (fun a w q => wpListIn_nil q) ops a w hd h
  rwa [List.append_nil] at this
/-- A region, cut ahead of an operation that the plain walk does not know. -/
theorem wp_region_cut {id : Nat} {Q : Exit → Act → World → Prop} {a : Act} {w : World} {ops : List Oper} (k : Nat) (hd : (ops.take k).all noDefer = true) (ho : ¬ LetsOut Q) (h : wpList P ops.toArray (Exit.then (fun a w => wpListIn (wfc none) 0 P ops.toArray Q (ops.drop k) a w) Q) (ops.take k) a w) : (Code.region id ops.toArray false).wp P Q a w := by
  refine wpIn_wide.1 (wpIn_region_lit (F := Fence.wide) (n := 0) ?_)
  have := listIn_of_wp (l := none) (n := 0) (ops := ops.toArray) (Q := Exit.then (fun a w => wpListIn (wfc none) 0 P ops.toArray Q (ops.drop k) a w) Q) (Q' := Q) (rest := ops.drop k) (fun _ _ _ q => q) (fun q => ho q) (fun a w q => q) (ops.take k) a w hd h
  rwa [List.take_append_drop] at this

/-- Whatever is done behind it: a call of yv at x comes back with true. -/
def YOk (P : Program) (yv x : Value) (W : World) (R : World → Prop) : Prop :=
  ∀ (o : Oper) (c y : Operand) (ts : Array TypeId) (a : Act) (next : Act → World → Prop) (Q : Exit → Act → World → Prop), o.op = .call { callee := .value c, args := #[y], argTypes := ts } → a.eval c = yv → a.eval y = x → (∀ W', R W' → next (a.put o.dst (.bool true)) W') → o.wpIn (wfc none) 0 P a W next Q
theorem YOk.mono {yv x : Value} {W : World} {R R' : World → Prop} (h : YOk P yv x W R) (hr : ∀ W', R W' → R' W') : YOk P yv x W R' := fun o c y ts a next Q h1 h2 h3 h4 => h o c y ts a next Q h1 h2 h3 fun W' q => h4 W' (hr W' q)
theorem YOk.of_round {lo : Nat} {x : Value} {W : World} {R : World → Prop} (h : YieldAt Fence.wide 0 P lo #[x] W fun e W' => e = .returned (.bool true) ∧ R W') : YOk P (.func (.yield lo) #[] #[]) x W R := by
  intro o c y ts a next Q ho hc hy hn
  obtain ⟨fn, tmps, assign, body, h1, h2⟩ := h
  refine ⟨fun f _ => wfc_fn f, ?_⟩
  have hs : Oper.semAt (wfc none).round a.eval o = execOp a.eval o := semAt_wf (by unfold noDefer; rw [ho])
  have hr : (execOp a.eval o).run P W = .ok (.round lo fn tmps assign body) W := by
    simp [execOp, ho, resolve, invoke, hc, hy, h1, Result.andThen, Sem.run_bind, Deferred.ofValue]
  rw [hs, hr]
  refine ⟨fun h => (by cases h), ?_⟩
  exact h2.mono fun e W' ⟨q1, q2⟩ => by subst q1; exact hn _ q2
theorem YOk.of_calls {g : Nat} {lb : Array Value} {x : Value} {W : World} {R : World → Prop} (eg : ∀ args w, (callFunc g args).run P w = .ok (.enter g args) w) (h : Calls P g (#[x] ++ lb) W fun e W' => e = .returned (.bool true) ∧ R W') : YOk P (.func (.func g) #[] lb) x W R := by
  intro o c y ts a next Q ho hc hy hn
  refine ⟨fun f _ => wfc_fn f, ?_⟩
  have hs : Oper.semAt (wfc none).round a.eval o = execOp a.eval o := semAt_wf (by unfold noDefer; rw [ho])
  have hr : (execOp a.eval o).run P W = .ok (.enter g (#[x] ++ lb)) W := by
    simp [execOp, ho, resolve, invoke, hc, hy, eg, Result.andThen, Sem.run_bind, Deferred.ofValue]
  rw [hs, hr]
  exact ⟨fun h => (by cases h), callsIn_wf (l := none) (h.mono fun e W' ⟨q1, q2⟩ => by subst q1; exact hn _ q2)⟩
/-- A round: the assignments to the loop's left sides, then its body, with the record busy. -/
theorem yieldAt_c {lo : Nat} {r : Loop} {args : Array Value} {w : World} {R : World → Prop} (hl : w.heap[lo]? = some (.loop r)) (hr : r.state = .ready) (hp : r.pending = none) (hs : args.size = r.params.size)
    (h : r.assign.wpIn (wfc (some lo)) 0 P (Exit.then (fun a1 w1 => w1.heap[lo]? = some (.loop r) ∧ r.body.wpIn (wfc (some lo)) 0 P (fun e _ w2 => e = .normal ∧ w2.heap[lo]? = some (.loop { r with state := .busy }) ∧ R (w2.putObj lo (.loop r))) a1 (w1.putObj lo (.loop { r with state := .busy }))) (fun _ _ _ => False))
      { tmps := (r.params.zip args).foldl (fun t (p, v) => t.setIfInBounds p v) r.tmps, defers := [] } w) :
    YieldAt Fence.wide 0 P lo args w fun e W' => e = .returned (.bool true) ∧ R W' := by
  refine ⟨_, _, _, _, run_yield hl hs, roundIn_of_wpIn trivial (wpIn_mono h ?_)⟩
  intro e a1 w1 q
  cases e with
  | normal =>
    obtain ⟨q1, q2⟩ := q
    refine ⟨_, run_beginRound q1 hr, wpIn_mono q2 ?_⟩
    rintro e a2 w2 ⟨rfl, h1, h2⟩
    have he := run_endRound (P := P) none h1
    refine ⟨_, _, he, rfl, ?_⟩
    cases r
    simp only at hr hp
    subst hr hp
    exact h2
  | _ => exact q.elim
/-- The statement. -/
theorem wp_rangeFunc_c {g : Operand} {ps : Array Tmp} {assign body : Code} {Q : Exit → Act → World → Prop} {a : Act} {w : World} {gf : Nat} {lb : Array Value} (hg : a.eval g = .func (.func gf) #[] lb) (eg : ∀ args w, (callFunc gf args).run P w = .ok (.enter gf args) w)
    (h : ∀ fn, Calls P gf (#[.func (.yield (w.heap.size + 1)) #[] #[]] ++ lb) ((w.alloc (.deferred (some []))).alloc (.loop { state := .ready, pending := none, fn, tmps := a.tmps, params := ps, assign, body, defers := w.heap.size })) fun e w2 =>
      (∃ v, e = .returned v) ∧ ∃ r : Loop, w2.heap[w.heap.size + 1]? = some (.loop r) ∧ r.state = .ready ∧ r.pending = none ∧ Q .normal { a with defers := { target := .collected w.heap.size, args := #[] } :: a.defers } (w2.putObj (w.heap.size + 1) (.loop { r with state := .exhausted }))) :
    (Code.rangeFunc g ps assign body).wp P Q a w := by
  refine wpIn_wide.1 (wpIn_rangeFunc (F := Fence.wide) (n := 0) ?_)
  intro fn _
  obtain ⟨W1, hW1⟩ : ∃ W1, (w.alloc (.deferred (some []))).alloc (.loop { state := .ready, pending := none, fn, tmps := a.tmps, params := ps, assign, body, defers := w.heap.size }) = W1 := ⟨_, rfl⟩
  refine ⟨w.heap.size + 1, [{ target := .collected w.heap.size, args := #[] }], W1, { target := .fn (.func gf) lb, args := #[.func (.yield (w.heap.size + 1)) #[] #[]] }, W1, gf, #[.func (.yield (w.heap.size + 1)) #[] #[]] ++ lb, W1, ?_, ?_, fun _ _ => trivial, ?_, fun h => (by cases h), callsIn_wide.2 ?_⟩
  · rw [← hW1]; exact run_enterLoop_outer _ _ _ _ _
  · simp only [resolve, hg]
    simp [go_sem]
  · simp [invoke, go_sem, eg]
  · have hc := h fn
    rw [hW1] at hc
    refine Calls.mono hc ?_
    rintro e w2 ⟨⟨v, rfl⟩, r, h1, h2, h3, h4⟩
    have hrun := run_endLoop (P := P) h1 (by rw [h2]; simp)
    have e1 : ∀ q, q = r.pending → (Instr.endLoop (w.heap.size + 1)).run P w2 = .ok q (w2.putObj (w.heap.size + 1) (.loop { r with state := .exhausted })) := fun q hq => by rw [hq]; exact hrun
    exact ⟨none, _, e1 none h3.symm, h4⟩
theorem calls_of_wp_marks {f : FuncId} {fn : Func} {c : Code} {args : Array Value} {w : World} {R : Ending → World → Prop} (hf : P.funcs[f]? = some fn) (hb : fn.body = some c)
    (h : c.wp P (bodyPostM Fence.wide 0 P fn R) { tmps := args ++ Array.replicate (fn.ntmps - args.size) undef, defers := [] } w) : Calls P f args w R :=
  callsIn_wide.1 (callsIn_of_wp_marks (F := Fence.wide) (n := 0) hf hb trivial (wpIn_wide.2 h) rfl)
end
end Go.Proofs.Ythdbobnebpoolaa

namespace Go.Proofs.Ythdbobnebpoolaa
set_option linter.unusedSimpArgs false
set_option linter.unusedVariables false
open Go Go.RowKit
section
variable {fr al : Nat → Prop} {w0 w : World} {L M : List It}
theorem Own.fold (L : List It) (st : Own fr al w0 (L ++ M) w) : Own fr al w0 (bunI L :: M) w := by
  obtain ⟨hm, e, s, F⟩ := st
  have hL : ∀ {i}, i < L.length → i < (L ++ M).length := fun {i} h => by simp; omega
  have hM : ∀ {j}, j + 1 < (bunI L :: M).length → L.length + j < (L ++ M).length := fun {j} h => by simp at h ⊢; omega
  refine ⟨hm, fun j => match j with | 0 => fun b => ∃ i, i < L.length ∧ e i b | j + 1 => e (L.length + j), fun j => match j with | 0 => fun b => ∃ i, i < L.length ∧ s i b | j + 1 => s (L.length + j), ?_, ?_, ?_, ?_, ?_, ?_⟩
  · intro j I hj
    cases j with
    | zero =>
      simp only [List.getElem?_cons_zero] at hj
      injection hj with hj
      subst hj
      exact ⟨e, s, fun i I hi => F.holds i I (by rw [List.getElem?_append_left (get_lt hi)]; exact hi), fun i b hi => F.lo i b (hL hi), fun i b hi hb _ => ⟨i, hi, hb⟩, fun i b hi hb _ => hb.imp (fun h => ⟨i, hi, h⟩) (fun h => ⟨i, hi, h⟩), fun i j b hi hj => F.ee i j b (hL hi) (hL hj), fun i j b hi hj => F.es i j b (hL hi) (hL hj)⟩
    | succ j =>
      simp only [List.getElem?_cons_succ] at hj
      exact F.holds (L.length + j) I (by rw [List.getElem?_append_right (by omega)]; simpa using hj)
  · intro j b hj hb
    cases j with
    | zero =>
      rcases hb with ⟨i, hi, hb⟩ | ⟨i, hi, hb⟩
      · exact F.lo i b (hL hi) (.inl hb)
      · exact F.lo i b (hL hi) (.inr hb)
    | succ j => exact F.lo _ b (hM hj) hb
  · intro j b hj hb hb0
    cases j with
    | zero => obtain ⟨i, hi, hb⟩ := hb; exact F.fr i b (hL hi) hb hb0
    | succ j => exact F.fr _ b (hM hj) hb hb0
  · intro j b hj hb hb0
    cases j with
    | zero =>
      rcases hb with ⟨i, hi, hb⟩ | ⟨i, hi, hb⟩
      · exact F.al i b (hL hi) (.inl hb) hb0
      · exact F.al i b (hL hi) (.inr hb) hb0
    | succ j => exact F.al _ b (hM hj) hb hb0
  · intro j k b hj hk hjk hb hb'
    cases j with
    | zero =>
      cases k with
      | zero => exact hjk rfl
      | succ k => obtain ⟨i, hi, hb⟩ := hb; exact F.ee i _ b (hL hi) (hM hk) (by omega) hb hb'
    | succ j =>
      cases k with
      | zero => obtain ⟨i, hi, hb'⟩ := hb'; exact F.ee _ i b (hM hj) (hL hi) (by omega) hb hb'
      | succ k => exact F.ee _ _ b (hM hj) (hM hk) (by omega) hb hb'
  · intro j k b hj hk hb hb'
    cases j with
    | zero =>
      obtain ⟨i, hi, hb⟩ := hb
      cases k with
      | zero => obtain ⟨i', hi', hb'⟩ := hb'; exact F.es i i' b (hL hi) (hL hi') hb hb'
      | succ k => exact F.es i _ b (hL hi) (hM hk) hb hb'
    | succ j =>
      cases k with
      | zero => obtain ⟨i', hi', hb'⟩ := hb'; exact F.es _ i' b (hM hj) (hL hi') hb hb'
      | succ k => exact F.es _ _ b (hM hj) (hM hk) hb hb'
theorem Own.unfoldB (st : Own fr al w0 (bunI L :: M) w) : Own fr al w0 (L ++ M) w := by
  obtain ⟨hm, e, s, F⟩ := st
  obtain ⟨e', s', G⟩ := F.holds 0 _ rfl
  have h0 : 0 < (bunI L :: M).length := by simp
  have hz : ∀ {i}, i < (L ++ M).length → i < L.length ∨ ∃ j, i = L.length + j ∧ j + 1 < (bunI L :: M).length := fun {i} h => by
    by_cases q : i < L.length
    · exact .inl q
    · exact .inr ⟨i - L.length, by omega, by simp at h ⊢; omega⟩
  have ge : ∀ {i b}, i < L.length → e' i b → e 0 b := fun {i b} hi hb => G.fr i b hi hb (G.lo i b hi (.inl hb))
  have gs : ∀ {i b}, i < L.length → (e' i b ∨ s' i b) → e 0 b ∨ s 0 b := fun {i b} hi hb => G.al i b hi hb (G.lo i b hi hb)
  obtain ⟨ee, hee⟩ : ∃ ee : Nat → Nat → Prop, ee = fun i => if i < L.length then e' i else e (i - L.length + 1) := ⟨_, rfl⟩
  obtain ⟨ss, hss⟩ : ∃ ss : Nat → Nat → Prop, ss = fun i => if i < L.length then s' i else s (i - L.length + 1) := ⟨_, rfl⟩
  have e1 : ∀ {i}, i < L.length → ee i = e' i := fun {i} h => by rw [hee]; simp only [h, if_true]
  have e2 : ∀ j, ee (L.length + j) = e (j + 1) := fun j => by
    have h : ¬ L.length + j < L.length := by omega
    have h' : L.length + j - L.length + 1 = j + 1 := by omega
    rw [hee]; simp only [h, if_false, h']
  have s1 : ∀ {i}, i < L.length → ss i = s' i := fun {i} h => by rw [hss]; simp only [h, if_true]
  have s2 : ∀ j, ss (L.length + j) = s (j + 1) := fun j => by
    have h : ¬ L.length + j < L.length := by omega
    have h' : L.length + j - L.length + 1 = j + 1 := by omega
    rw [hss]; simp only [h, if_false, h']
  clear hee hss
  refine ⟨hm, ee, ss, ?_, ?_, ?_, ?_, ?_, ?_⟩
  · intro i I hi
    rcases hz (get_lt hi) with h | ⟨j, rfl, hj⟩
    · rw [List.getElem?_append_left h] at hi
      rw [e1 h, s1 h]
      exact G.holds i I hi
    · rw [List.getElem?_append_right (by omega)] at hi
      rw [e2, s2]
      exact F.holds (j + 1) I (by simpa using hi)
  · intro i b hi hb
    rcases hz hi with h | ⟨j, rfl, hj⟩
    · rw [e1 h, s1 h] at hb; exact G.lo i b h hb
    · rw [e2, s2] at hb; exact F.lo _ b hj hb
  · intro i b hi hb hb0
    rcases hz hi with h | ⟨j, rfl, hj⟩
    · rw [e1 h] at hb; exact F.fr 0 b h0 (ge h hb) hb0
    · rw [e2] at hb; exact F.fr _ b hj hb hb0
  · intro i b hi hb hb0
    rcases hz hi with h | ⟨j, rfl, hj⟩
    · rw [e1 h, s1 h] at hb; exact F.al 0 b h0 (gs h hb) hb0
    · rw [e2, s2] at hb; exact F.al _ b hj hb hb0
  · intro i k b hi hk hik hb hb'
    rcases hz hi with h | ⟨j, rfl, hj⟩ <;> rcases hz hk with h' | ⟨j', rfl, hj'⟩
    · rw [e1 h] at hb; rw [e1 h'] at hb'; exact G.ee i k b h h' hik hb hb'
    · rw [e1 h] at hb; rw [e2] at hb'; exact F.ee 0 _ b h0 hj' (by omega) (ge h hb) hb'
    · rw [e2] at hb; rw [e1 h'] at hb'; exact F.ee _ 0 b hj h0 (by omega) hb (ge h' hb')
    · rw [e2] at hb hb'; exact F.ee _ _ b hj hj' (by omega) hb hb'
  · intro i k b hi hk hb hb'
    rcases hz hi with h | ⟨j, rfl, hj⟩ <;> rcases hz hk with h' | ⟨j', rfl, hj'⟩
    · rw [e1 h] at hb; rw [s1 h'] at hb'; exact G.es i k b h h' hb hb'
    · rw [e1 h] at hb; rw [s2] at hb'; exact F.es 0 _ b h0 hj' (ge h hb) hb'
    · rw [e2] at hb; rw [s1 h'] at hb'
      rcases gs h' (.inr hb') with q | q
      · exact F.ee _ 0 b hj h0 (by omega) hb q
      · exact F.es _ 0 b hj h0 hb q
    · rw [e2] at hb; rw [s2] at hb'; exact F.es _ _ b hj hj' hb hb'
end
end Go.Proofs.Ythdbobnebpoolaa

namespace Go.Proofs.Ythdbobnebpoolaa
set_option linter.unusedSimpArgs false
set_option linter.unusedVariables false
open Go Go.RowKit
/-- An item, and something that is so. -/
def ifI (p : Prop) (I : It) : It where
  P e s w := p ∧ I.P e s w
  st := fun h hag => ⟨h.1, I.st h.2 hag⟩
  facts _ := True
  ok _ := trivial
/-- A vault in memory. -/
def vltI (v room : Nat) (l : List Hd) : It := exI fun q : Option Addr × Nat × List SgnT => ifI (q.2.2.map hdOf = l) (bunI [blkI v [.slice q.1 q.2.2.length q.2.1, .int .i64 (room : Int)], rowI 35 10 (.slice q.1 q.2.2.length q.2.1) q.2.2.length (cellsL q.2.2), sgsI q.2.2])
section
variable {fr al : Nat → Prop} {w0 w : World} {L M : List It}
theorem Own.vltOpen {v room : Nat} {l : List Hd} (st : Own fr al w0 (vltI v room l :: M) w) : ∃ va c ss, ss.map hdOf = l ∧ Own fr al w0 (blkI v [.slice va ss.length c, .int .i64 (room : Int)] :: rowI 35 10 (.slice va ss.length c) ss.length (cellsL ss) :: sgsI ss :: M) w := by
  obtain ⟨q, st⟩ := st.unex (i := 0) get0
  simp only [List.set] at st
  obtain ⟨e, s, h, _⟩ := st.get (i := 0) get0
  refine ⟨q.1, q.2.1, q.2.2, h.1, ?_⟩
  have st2 := st.conv (i := 0) (I' := bunI [blkI v [.slice q.1 q.2.2.length q.2.1, .int .i64 (room : Int)], rowI 35 10 (.slice q.1 q.2.2.length q.2.1) q.2.2.length (cellsL q.2.2), sgsI q.2.2]) get0 fun e s h h3 => ⟨e, s, h.2, fun _ q => q, fun _ q => .inr q, h3⟩
  simp only [List.set] at st2
  exact st2.unfoldB
theorem Own.vltShut {v room n c : Nat} {va : Option Addr} {l : List Hd} {ss : List SgnT} (st : Own fr al w0 (blkI v [.slice va n c, .int .i64 (room : Int)] :: rowI 35 10 (.slice va n c) n (cellsL ss) :: sgsI ss :: M) w) (hl : ss.map hdOf = l) (hn : n = ss.length) : Own fr al w0 (vltI v room l :: M) w := by
  subst hn
  have st2 := Own.fold [blkI v [.slice va ss.length c, .int .i64 (room : Int)], rowI 35 10 (.slice va ss.length c) ss.length (cellsL ss), sgsI ss] st
  have st3 := st2.conv (i := 0) (I' := ifI (ss.map hdOf = l) (bunI [blkI v [.slice va ss.length c, .int .i64 (room : Int)], rowI 35 10 (.slice va ss.length c) ss.length (cellsL ss), sgsI ss])) get0 fun e s h h3 => ⟨e, s, ⟨hl, h⟩, fun _ q => q, fun _ q => .inr q, h3⟩
  simp only [List.set] at st3
  exact st3.ex (i := 0) (F := fun q : Option Addr × Nat × List SgnT => ifI (q.2.2.map hdOf = l) (bunI [blkI v [.slice q.1 q.2.2.length q.2.1, .int .i64 (room : Int)], rowI 35 10 (.slice q.1 q.2.2.length q.2.1) q.2.2.length (cellsL q.2.2), sgsI q.2.2])) (va, c, ss) get0
/-- A tag out of many. -/
theorem Own.sgBy (st : Own fr al w0 L w) {i : Nat} {ss : List SgnT} (hi : L[i]? = some (sgsI ss)) {x : SgnT} (hx : x ∈ ss) : Own fr al w0 (L ++ [byI x.a x.n x.xs]) w :=
  st.share hi fun e s h => ⟨(h x hx).1.2, fun h0 ad ha => (h x hx).2 h0 ad ha⟩
theorem hd_len {ss : List SgnT} {l : List Hd} (h : ss.map hdOf = l) : ss.length = l.length := by rw [← h, List.length_map]
/-- What is held is not too long. -/
def SmallV (l : List Hd) : Prop := ∀ x ∈ l, CredL 100000 x.1
theorem SmallV.creds {ss : List SgnT} {l : List Hd} (hs : SmallV l) (h : ss.map hdOf = l) : CredsL ss := fun s hm => hs (hdOf s) (by rw [← h]; exact List.mem_map_of_mem hm)
end
section
variable {fr al : Nat → Prop} {w0 w : World}
set_option maxRecDepth 100000 in
set_option maxHeartbeats 2000000 in
theorem vLen_c {v room : Nat} {l : List Hd} (st : Own fr al w0 [vltI v room l] w) (hl : l.length ≤ 1000000) :
    Calls Try.prog 9 #[.pointer (some ⟨v, 0, none⟩)] w fun e w' => e = .returned (.int .i64 (l.length : Int)) ∧ Own fr al w0 [vltI v room l] w' := by
  obtain ⟨va, c, ss, hss, st⟩ := st.vltOpen
  have hlen := hd_len hss
  rw [← hlen] at hl ⊢
  clear hlen
  have HS := Lib.hid hss
  clear hss
  (try simp only [nsl, Value.cells, unB] at st)
  (try clear hc); have hc := st.facts; (try simp only [nfl, nft, Nat.reduceAdd] at hc)
  go_enter Try.func9, Try.ntmps9
  go_wp2_with fail
  go_ret
  exact ⟨rfl, st.vltShut HS.out rfl⟩
set_option maxRecDepth 100000 in
set_option maxHeartbeats 2000000 in
theorem vRoom_c {v room : Nat} {l : List Hd} (st : Own fr al w0 [vltI v room l] w) (hl : l.length ≤ 1000000) (hr : room ≤ 1000000) :
    Calls Try.prog 10 #[.pointer (some ⟨v, 0, none⟩)] w fun e w' => e = .returned (.int .i64 ((room : Int) - (l.length : Int))) ∧ Own fr al w0 [vltI v room l] w' := by
  obtain ⟨va, c, ss, hss, st⟩ := st.vltOpen
  have hlen := hd_len hss
  rw [← hlen] at hl ⊢
  clear hlen
  have HS := Lib.hid hss
  clear hss
  obtain ⟨n, hn⟩ : ∃ n, ss.length = n := ⟨_, rfl⟩
  have HN := Lib.hid hn
  rw [hn] at st hl ⊢
  clear hn
  have hw1 : IntKind.i64.wrap ((room : Int) - (n : Int)) = (room : Int) - (n : Int) := IntWalk.i64_in _ ⟨by omega, by omega⟩
  (try simp only [nsl, Value.cells, unB] at st)
  (try clear hc); have hc := st.facts; (try simp only [nfl, nft, Nat.reduceAdd] at hc)
  go_enter Try.func10, Try.ntmps10
  go_wp2_with fail
  refine Rg4.wp_region4_eq #[0, 1, 3, 7, 0, 16, 48, 112, 240, 511, 1023] [] [3, 7] (fun W' => Blk W' v [.slice va n c, .int .i64 (room : Int)]) [0, 1, 2, 3, 4, 5, 6, 7, 8, 9, 10] (by kernel_rfl) (by kernel_rfl) (by kernel_rfl) (by kernel_rfl) (show Rg4.PB _ by repeat (first | with_reducible exact Rg4.pb_body | with_reducible exact Rg4.pb_bodyD rfl | with_reducible refine Rg4.pb_then ?_ | with_reducible refine Rg4.pb_inBlock ?_ | with_reducible refine Rg4.pb_noGoto ?_ | with_reducible assumption)) (st.drew.blk (i := 0) get0) ?_
  replace st := st.drew
  change Rg4.wp4 _ _ _ _ _ _ _ _ _ (World.drew _) _ _
  generalize World.drew _ = w at st ⊢
  (try clear hc); have hc := st.facts; (try simp only [nfl, nft, Nat.reduceAdd] at hc)
  iterate 3 (refine Rg4.w4_any (Rg4.want_none rfl) rfl ?_; apply Exists.intro; refine ⟨fun w' => ?_, ?_⟩; (focus (first | (go_simp; done) | (go_simp; first | rfl | (rw [if_neg] <;> first | rfl | omega) | (rw [if_pos] <;> first | rfl | omega)))); (try simp only [Rg4.nrm]))
  (refine Rg4.w4_read (Rg4.want_none rfl) rfl rfl ?_; apply Exists.intro; refine ⟨fun w' hw' hcl' => ?_, ?_⟩; focus (subst hw'; (focus (first | (go_simp; done) | (go_simp; first | rfl | (rw [if_neg] <;> first | rfl | omega) | (rw [if_pos] <;> first | rfl | omega))))); (try simp only [Rg4.nrm]))
  iterate 3 (refine Rg4.w4_any (Rg4.want_none rfl) rfl ?_; apply Exists.intro; refine ⟨fun w' => ?_, ?_⟩; (focus (first | (go_simp; done) | (go_simp; first | rfl | (rw [if_neg] <;> first | rfl | omega) | (rw [if_pos] <;> first | rfl | omega)))); (try simp only [Rg4.nrm]))
  (refine Rg4.w4_read (Rg4.want_none rfl) rfl rfl ?_; apply Exists.intro; refine ⟨fun w' hw' hcl' => ?_, ?_⟩; focus (subst hw'; (focus (first | (go_simp; done) | (go_simp; first | rfl | (rw [if_neg] <;> first | rfl | omega) | (rw [if_pos] <;> first | rfl | omega))))); (try simp only [Rg4.nrm]))
  iterate 3 (refine Rg4.w4_any (Rg4.want_none rfl) rfl ?_; apply Exists.intro; refine ⟨fun w' => ?_, ?_⟩; (focus (first | (go_simp; done) | (go_simp; first | rfl | (rw [if_neg] <;> first | rfl | omega) | (rw [if_pos] <;> first | rfl | omega)))); (try simp only [Rg4.nrm]))
  refine Rg4.w4_nil (fun w' hw' hcl' _ => ?_); subst hw'; clear hcl'
  go_wp2_with fail
  go_ret
  exact ⟨rfl, st.vltShut HS.out HN.out.symm⟩
end
end Go.Proofs.Ythdbobnebpoolaa

namespace Go.Proofs.Ythdbobnebpoolaa
set_option linter.unusedSimpArgs false
set_option linter.unusedVariables false
open Go Go.RowKit
/-- What is read of a signed credential. -/
def getHd (o : Option Hd) (x : SgnT) : Prop := match o with | none => x = zSg | some h => x.c = h.1 ∧ x.xs = h.2
/-- How Get ends. -/
def GetGot (fr al : Nat → Prop) (w0 : World) (L : List It) (o : Option Hd) (e : Ending) (w' : World) : Prop := ∃ x : SgnT, e = .returned (.tuple #[sgV x, .bool o.isSome]) ∧ getHd o x ∧ (x.n ≤ x.m ∧ x.m ≤ maxLen) ∧ Own fr al w0 (L ++ [byI x.a x.n x.xs]) w'
section
variable {fr al : Nat → Prop} {w0 w : World}
set_option maxRecDepth 100000 in
set_option maxHeartbeats 4000000 in
theorem vGet_c {v room : Nat} {l : List Hd} (x : CredT) (st : Own fr al w0 [vltI v room l] w) (hn : l.length ≤ 1000000) (hs : SrtV l) (hl : SmallV l) (hx : CredL 100000 x) :
    Calls Try.prog 6 #[.pointer (some ⟨v, 0, none⟩), cV x] w (GetGot fr al w0 [vltI v room l] (getV l x)) := by
  obtain ⟨va, c, ss, hss, st⟩ := st.vltOpen
  obtain ⟨n, hsn⟩ : ∃ n, ss.length = n := ⟨_, rfl⟩
  rw [hsn] at st
  have hnl : n = l.length := by rw [← hsn]; exact hd_len hss
  have HFI := Lib.hid (fun (W' : World) (hb : Blk W' v [.slice va n c, .int .i64 (room : Int)]) (hf : Fl W' va n ss) => find_any v room va n c ss x W' hb hf (by omega) (by rw [hss]; exact hs) (hl.creds hss) hx)
  rw [hss] at HFI
  have HS := Lib.hid hss
  have HT := Lib.hid (fun s (hm : s ∈ ss) => (hs.2 (hdOf s) (by rw [← hss]; exact List.mem_map_of_mem hm)).2)
  have HSN := Lib.hid hsn
  have hn' : n ≤ 1000000 := by omega
  have HPL := Lib.hid (held_at hs x)
  obtain ⟨p, hp⟩ : ∃ p, posV l x = p := ⟨_, rfl⟩
  obtain ⟨hv, hhv⟩ : ∃ q, heldV l x = q := ⟨_, rfl⟩
  have HG : Hid (getV l x = if hv = true then l[p]? else none) := Lib.hid (by rw [← hp, ← hhv]; rfl)
  rw [hp, hhv] at HFI
  rw [hhv] at HPL
  have HPP := Lib.hid hp
  obtain ⟨xk, ⟨xo, xd⟩, xw, ⟨yo, yd⟩, ⟨zo, zd⟩, xe⟩ := x
  unfold cV S at HFI ⊢
  simp only at HFI ⊢
  clear hss hsn hs hl hx hp hhv
  (try simp only [nsl, Value.cells, unB] at st)
  (try clear hc); have hc := st.facts; (try simp only [nfl, nft, Nat.reduceAdd] at hc)
  cases hv with
  | false =>
    have HGN : Hid (getV l ⟨xk, (xo, xd), xw, (yo, yd), (zo, zd), xe⟩ = none) := Lib.hid (by rw [HG.out]; simp)
    clear HPL HG HPP
    go_enter Try.func6, Try.ntmps6
    go_wp2_with ((first
          | ((with_reducible refine wl_box ?_ (fun K hK => ?_)); rfl; refine owp_box (o := ⟨some 3, _, _, _, _, _⟩) rfl st ?_; apply Exists.intro; refine ⟨?_, ?_⟩; (focus (go_simp; try rfl)); (clear st; intro b3 w hb st; clear hb))
          | ((with_reducible refine wl_alloc ?_ (fun K hK => ?_)); rfl; refine owp_alloc (o := ⟨some 4, _, _, _, _, _⟩) rfl st ?_; apply Exists.intro; apply Exists.intro; refine ⟨?_, ?_⟩; (focus (first | (go_simp; done) | (go_simp; rfl))); (clear st; intro b4 w hb st; clear hb))
          | ((with_reducible refine wl_store ?_ (fun K hK => ?_)); rfl; refine owp_store rfl st ?_; apply Exists.intro; apply Exists.intro; refine ⟨?_, ?_, ?_⟩; (focus (go_simp; try rfl)); (focus (go_simp; try rfl)); (first | (with_reducible refine ⟨0, _, _, _, _, get0, rfl, rfl, ?_, ?_, ?_, ?_⟩) | (with_reducible refine ⟨1, _, _, _, _, get1, rfl, rfl, ?_, ?_, ?_, ?_⟩) | (with_reducible refine ⟨2, _, _, _, _, get2, rfl, rfl, ?_, ?_, ?_, ?_⟩) | (with_reducible refine ⟨3, _, _, _, _, get3, rfl, rfl, ?_, ?_, ?_, ?_⟩) | (with_reducible refine ⟨4, _, _, _, _, get4, rfl, rfl, ?_, ?_, ?_, ?_⟩) | (with_reducible refine ⟨5, _, _, _, _, get5, rfl, rfl, ?_, ?_, ?_, ?_⟩)); (kernel_rfl); (simp [Value.cells]); (rfl); (clear st; intro w st))); (try simp only [nsl, Value.cells, unB] at st); (try clear hc); have hc := st.facts; (try simp only [nfl, nft, Nat.reduceAdd] at hc))
    refine (HFI.out _ (st.blk (i := 0) get0) (rowFl' (α := SgnT) st (i := 1) get1).2).mono ?_
    rintro en w ⟨rfl, hx⟩
    replace st := st.ext hx
    clear hx
    (try clear hc); have hc := st.facts; (try simp only [nfl, nft, Nat.reduceAdd] at hc)
    go_wp2_with ((first
          | ((with_reducible refine wl_box ?_ (fun K hK => ?_)); rfl; refine owp_box (o := ⟨some 3, _, _, _, _, _⟩) rfl st ?_; apply Exists.intro; refine ⟨?_, ?_⟩; (focus (go_simp; try rfl)); (clear st; intro b3 w hb st; clear hb))
          | ((with_reducible refine wl_alloc ?_ (fun K hK => ?_)); rfl; refine owp_alloc (o := ⟨some 4, _, _, _, _, _⟩) rfl st ?_; apply Exists.intro; apply Exists.intro; refine ⟨?_, ?_⟩; (focus (first | (go_simp; done) | (go_simp; rfl))); (clear st; intro b4 w hb st; clear hb))
          | ((with_reducible refine wl_store ?_ (fun K hK => ?_)); rfl; refine owp_store rfl st ?_; apply Exists.intro; apply Exists.intro; refine ⟨?_, ?_, ?_⟩; (focus (go_simp; try rfl)); (focus (go_simp; try rfl)); (first | (with_reducible refine ⟨0, _, _, _, _, get0, rfl, rfl, ?_, ?_, ?_, ?_⟩) | (with_reducible refine ⟨1, _, _, _, _, get1, rfl, rfl, ?_, ?_, ?_, ?_⟩) | (with_reducible refine ⟨2, _, _, _, _, get2, rfl, rfl, ?_, ?_, ?_, ?_⟩) | (with_reducible refine ⟨3, _, _, _, _, get3, rfl, rfl, ?_, ?_, ?_, ?_⟩) | (with_reducible refine ⟨4, _, _, _, _, get4, rfl, rfl, ?_, ?_, ?_, ?_⟩) | (with_reducible refine ⟨5, _, _, _, _, get5, rfl, rfl, ?_, ?_, ?_, ?_⟩)); (kernel_rfl); (simp [Value.cells]); (rfl); (clear st; intro w st))); (try simp only [nsl, Value.cells, unB] at st); (try clear hc); have hc := st.facts; (try simp only [nfl, nft, Nat.reduceAdd] at hc))
    (try simp only [Exit.inBlock, Exit.then])
    refine bodyPost_cell2 rfl rfl (st.blk (i := 4) get4) Try.underlying35 rfl (by kernel_rfl) rfl ?_
    rw [HGN.out]
    have st2 := st.keep [0, 1, 2] (by decide) (by simp)
    simp only [pick, List.map, List.getElem?_cons_zero, List.getElem?_cons_succ, Option.getD_some] at st2
    have st3 := st2.vltShut HS.out HSN.out.symm
    exact ⟨zSg, rfl, rfl, by decide, st3.bare ⟨By.nil _ _, fun h => absurd h (by decide)⟩⟩
  | true =>
    obtain ⟨hpl, hpc⟩ := HPL.out.1 rfl
    have hps : p < ss.length := by rw [hd_len HS.out, ← HPP.out]; exact hpl
    have hpn : p < n := by rw [← HSN.out]; exact hps
    have hgs : ss[p]? = some ss[p] := List.getElem?_eq_getElem hps
    have hgl : l[p]? = some (hdOf ss[p]) := by rw [← HS.out, List.getElem?_map, hgs]; rfl
    have HGN : Hid (getV l ⟨xk, (xo, xd), xw, (yo, yd), (zo, zd), xe⟩ = some (hdOf ss[p])) := Lib.hid (by rw [HG.out]; simpa using hgl)
    have hmem : ss[p] ∈ ss := List.getElem_mem hps
    generalize ss[p] = y at HGN hgs hmem
    clear HPL HG HPP hpl hpc hps hgl
    replace st := st.sgBy (i := 2) get2 hmem
    obtain ⟨b, rfl⟩ : ∃ b, va = some ⟨b, 0, none⟩ := by
      rcases (st.row (i := 1) get1).2 with ⟨h5, h6⟩ | ⟨g', cap, cur, hv, _⟩
      · cases h5; omega
      · cases hv; exact ⟨_, rfl⟩
    have HSO := Lib.hid ((st.sgsAt (i := 2) get2) y hmem)
    have HTN : Hid (y.n ≤ 8) := Lib.hid (by have h1 := HT.out y hmem; have h2 := HSO.out.2.1; rw [h2]; exact Nat.le_of_eq h1)
    clear HT
    obtain ⟨⟨ck, ⟨ho, hd⟩, cw, ⟨bo, bd⟩, ⟨co, cd⟩, we⟩, ta, tn, tm, ts⟩ := y
    skip
    clear hmem
    go_enter Try.func6, Try.ntmps6
    go_wp2_with ((first
          | ((with_reducible refine wl_box ?_ (fun K hK => ?_)); rfl; refine owp_box (o := ⟨some 3, _, _, _, _, _⟩) rfl st ?_; apply Exists.intro; refine ⟨?_, ?_⟩; (focus (go_simp; try rfl)); (clear st; intro b3 w hb st; clear hb))
          | ((with_reducible refine wl_alloc ?_ (fun K hK => ?_)); rfl; refine owp_alloc (o := ⟨some 4, _, _, _, _, _⟩) rfl st ?_; apply Exists.intro; apply Exists.intro; refine ⟨?_, ?_⟩; (focus (first | (go_simp; done) | (go_simp; rfl))); (clear st; intro b4 w hb st; clear hb))
          | ((with_reducible refine wl_store ?_ (fun K hK => ?_)); rfl; refine owp_store rfl st ?_; apply Exists.intro; apply Exists.intro; refine ⟨?_, ?_, ?_⟩; (focus (go_simp; try rfl)); (focus (go_simp; try rfl)); (first | (with_reducible refine ⟨0, _, _, _, _, get0, rfl, rfl, ?_, ?_, ?_, ?_⟩) | (with_reducible refine ⟨1, _, _, _, _, get1, rfl, rfl, ?_, ?_, ?_, ?_⟩) | (with_reducible refine ⟨2, _, _, _, _, get2, rfl, rfl, ?_, ?_, ?_, ?_⟩) | (with_reducible refine ⟨3, _, _, _, _, get3, rfl, rfl, ?_, ?_, ?_, ?_⟩) | (with_reducible refine ⟨4, _, _, _, _, get4, rfl, rfl, ?_, ?_, ?_, ?_⟩) | (with_reducible refine ⟨5, _, _, _, _, get5, rfl, rfl, ?_, ?_, ?_, ?_⟩)); (kernel_rfl); (simp [Value.cells]); (rfl); (clear st; intro w st))); (try simp only [nsl, Value.cells, unB] at st); (try clear hc); have hc := st.facts; (try simp only [nfl, nft, Nat.reduceAdd] at hc))
    refine (HFI.out _ (st.blk (i := 0) get0) (rowFl' (α := SgnT) st (i := 1) get1).2).mono ?_
    rintro en w ⟨rfl, hx⟩
    replace st := st.ext hx
    clear hx
    (try clear hc); have hc := st.facts; (try simp only [nfl, nft, Nat.reduceAdd] at hc)
    obtain ⟨b', off', ha, hcell⟩ := (rowFl' (α := SgnT) st (i := 1) get1).2.sgn (by omega)
    injection ha with ha
    injection ha with h1 h2
    subst h1 h2
    obtain ⟨r0, r1, r2, r3, r4, r5, r6, r7, r8, r9⟩ := hcell p _ hgs
    simp only [Nat.zero_add, S] at r0 r1 r2 r3 r4 r5 r6 r7 r8 r9
    clear hcell
    go_wp2_with ((first
          | ((with_reducible refine wl_box ?_ (fun K hK => ?_)); rfl; refine owp_box (o := ⟨some 3, _, _, _, _, _⟩) rfl st ?_; apply Exists.intro; refine ⟨?_, ?_⟩; (focus (go_simp; try rfl)); (clear st; intro b3 w hb st; clear hb))
          | ((with_reducible refine wl_alloc ?_ (fun K hK => ?_)); rfl; refine owp_alloc (o := ⟨some 4, _, _, _, _, _⟩) rfl st ?_; apply Exists.intro; apply Exists.intro; refine ⟨?_, ?_⟩; (focus (first | (go_simp; done) | (go_simp; rfl))); (clear st; intro b4 w hb st; clear hb))
          | ((with_reducible refine wl_store ?_ (fun K hK => ?_)); rfl; refine owp_store rfl st ?_; apply Exists.intro; apply Exists.intro; refine ⟨?_, ?_, ?_⟩; (focus (go_simp; try rfl)); (focus (go_simp; try rfl)); (first | (with_reducible refine ⟨0, _, _, _, _, get0, rfl, rfl, ?_, ?_, ?_, ?_⟩) | (with_reducible refine ⟨1, _, _, _, _, get1, rfl, rfl, ?_, ?_, ?_, ?_⟩) | (with_reducible refine ⟨2, _, _, _, _, get2, rfl, rfl, ?_, ?_, ?_, ?_⟩) | (with_reducible refine ⟨3, _, _, _, _, get3, rfl, rfl, ?_, ?_, ?_, ?_⟩) | (with_reducible refine ⟨4, _, _, _, _, get4, rfl, rfl, ?_, ?_, ?_, ?_⟩) | (with_reducible refine ⟨5, _, _, _, _, get5, rfl, rfl, ?_, ?_, ?_, ?_⟩)); (kernel_rfl); (simp [Value.cells]); (rfl); (clear st; intro w st))); (try simp only [nsl, Value.cells, unB] at st); (try clear hc); have hc := st.facts; (try simp only [nfl, nft, Nat.reduceAdd] at hc))
    obtain ⟨fr', al', st', back⟩ := st.sub [3] (by decide) (by simp)
    (try simp only [nsl, Value.cells, unB] at st')
    refine (copied_c ⟨⟨ck, (ho, hd), cw, (bo, bd), (co, cd), we⟩, ta, tn, tm, ts⟩ st' HSO.out.1 (Nat.le_trans HTN.out (by decide))).mono ?_
    clear st'
    rintro en w ⟨⟨sc, sa, sn, sm, sx⟩, rfl, ⟨hq1, hq2, hq3⟩, hq4, st'⟩
    replace st := back _ _ (by simp) st'
    clear back st'
    (try simp only [nsl, Value.cells, unB] at st)
    (try clear hc); have hc := st.facts; (try simp only [nfl, nft, Nat.reduceAdd] at hc)
    simp only at hq1 hq2 hq3 hq4
    subst hq1 hq2
    have HQ := Lib.hid hq4
    clear hq3 hq4
    unfold sgV S
    simp only
    go_wp2_with ((first
          | ((with_reducible refine wl_box ?_ (fun K hK => ?_)); rfl; refine owp_box (o := ⟨some 3, _, _, _, _, _⟩) rfl st ?_; apply Exists.intro; refine ⟨?_, ?_⟩; (focus (go_simp; try rfl)); (clear st; intro b3 w hb st; clear hb))
          | ((with_reducible refine wl_alloc ?_ (fun K hK => ?_)); rfl; refine owp_alloc (o := ⟨some 4, _, _, _, _, _⟩) rfl st ?_; apply Exists.intro; apply Exists.intro; refine ⟨?_, ?_⟩; (focus (first | (go_simp; done) | (go_simp; rfl))); (clear st; intro b4 w hb st; clear hb))
          | ((with_reducible refine wl_store ?_ (fun K hK => ?_)); rfl; refine owp_store rfl st ?_; apply Exists.intro; apply Exists.intro; refine ⟨?_, ?_, ?_⟩; (focus (go_simp; try rfl)); (focus (go_simp; try rfl)); (first | (with_reducible refine ⟨0, _, _, _, _, get0, rfl, rfl, ?_, ?_, ?_, ?_⟩) | (with_reducible refine ⟨1, _, _, _, _, get1, rfl, rfl, ?_, ?_, ?_, ?_⟩) | (with_reducible refine ⟨2, _, _, _, _, get2, rfl, rfl, ?_, ?_, ?_, ?_⟩) | (with_reducible refine ⟨3, _, _, _, _, get3, rfl, rfl, ?_, ?_, ?_, ?_⟩) | (with_reducible refine ⟨4, _, _, _, _, get4, rfl, rfl, ?_, ?_, ?_, ?_⟩) | (with_reducible refine ⟨5, _, _, _, _, get5, rfl, rfl, ?_, ?_, ?_, ?_⟩)); (kernel_rfl); (simp [Value.cells]); (rfl); (clear st; intro w st))); (try simp only [nsl, Value.cells, unB] at st); (try clear hc); have hc := st.facts; (try simp only [nfl, nft, Nat.reduceAdd] at hc))
    (try simp only [Exit.inBlock, Exit.then])
    refine bodyPost_cell2 rfl rfl (st.blk (i := 5) get5) Try.underlying35 rfl (by kernel_rfl) rfl ?_
    rw [HGN.out]
    have st2 := st.keep [0, 1, 2, 6] (by decide) (by simp)
    simp only [pick, List.map, List.getElem?_cons_zero, List.getElem?_cons_succ, Option.getD_some] at st2
    exact ⟨⟨⟨ck, (ho, hd), cw, (bo, bd), (co, cd), we⟩, sa, sn, sm, sx⟩, rfl, ⟨rfl, rfl⟩, HQ.out, st2.vltShut HS.out HSN.out.symm⟩
end
end Go.Proofs.Ythdbobnebpoolaa

namespace Go.Proofs.Ythdbobnebpoolaa
set_option linter.unusedSimpArgs false
set_option linter.unusedVariables false
open Go Go.RowKit
section
variable {fr al : Nat → Prop} {w0 w : World}
theorem sgnDel_c {g m c j : Nat} {l : List SgnT} (st : Own fr al w0 [rowI 35 10 (.slice (some ⟨g, 0, none⟩) (m + 1) c) (m + 1) (cellsL l)] w) (hj : j ≤ m) (hn : m ≤ 1000000) :
    Calls Try.prog 31 #[.slice (some ⟨g, 0, none⟩) (m + 1) c, .int .i64 (j : Int), .int .i64 ((j : Int) + 1)] w fun e w' => e = .returned (.slice (some ⟨g, 0, none⟩) m c) ∧ Own fr al w0 [rowI 35 10 (.slice (some ⟨g, 0, none⟩) m c) m (cellsL (l.take j ++ l.drop (j + 1)))] w' := by
  rcases Nat.lt_or_eq_of_le hj with h | h
  · exact sgnDelete_c st h hn
  · subst h
    have hl : j + 1 = l.length := (rowFl' (α := SgnT) st (i := 0) get0).2.1
    have e : l.drop (j + 1) = [] := List.drop_of_length_le (by omega)
    rw [e, List.append_nil]
    exact sgnDeleteLast_c st hn
set_option maxRecDepth 100000 in
set_option maxHeartbeats 4000000 in
theorem vDrop_c {v room : Nat} {l : List Hd} (x : CredT) (st : Own fr al w0 [vltI v room l] w) (hn : l.length ≤ 1000000) (hs : SrtV l) (hl : SmallV l) (hx : CredL 100000 x) :
    Calls Try.prog 8 #[.pointer (some ⟨v, 0, none⟩), cV x] w fun e w' => e = .returned (.int .i64 (dropV l x).2) ∧ Own fr al w0 [vltI v room (dropV l x).1] w' := by
  obtain ⟨va, c, ss, hss, st⟩ := st.vltOpen
  obtain ⟨n, hsn⟩ : ∃ n, ss.length = n := ⟨_, rfl⟩
  rw [hsn] at st
  have hnl : n = l.length := by rw [← hsn]; exact hd_len hss
  have HFI := Lib.hid (fun (W' : World) (hb : Blk W' v [.slice va n c, .int .i64 (room : Int)]) (hf : Fl W' va n ss) => find_any v room va n c ss x W' hb hf (by omega) (by rw [hss]; exact hs) (hl.creds hss) hx)
  rw [hss] at HFI
  have HS := Lib.hid hss
  have HSN := Lib.hid hsn
  have hn' : n ≤ 1000000 := by omega
  have HPL := Lib.hid (held_at hs x)
  obtain ⟨p, hp⟩ : ∃ p, posV l x = p := ⟨_, rfl⟩
  obtain ⟨hv, hhv⟩ : ∃ q, heldV l x = q := ⟨_, rfl⟩
  have HG : Hid (dropV l x = if hv = true then (l.take p ++ l.drop (p + 1), 0) else (l, 42)) := Lib.hid (by rw [← hp, ← hhv]; rfl)
  rw [hp, hhv] at HFI
  rw [hhv] at HPL
  have HPP := Lib.hid hp
  obtain ⟨xk, ⟨xo, xd⟩, xw, ⟨yo, yd⟩, ⟨zo, zd⟩, xe⟩ := x
  unfold cV S at HFI ⊢
  simp only at HFI ⊢
  clear hss hsn hs hl hx hp hhv
  (try simp only [nsl, Value.cells, unB] at st)
  (try clear hc); have hc := st.facts; (try simp only [nfl, nft, Nat.reduceAdd] at hc)
  cases hv with
  | false =>
    rw [HG.out]
    simp only [Bool.false_eq_true, if_false]
    clear HPL HG HPP
    go_enter Try.func8, Try.ntmps8
    go_wp2_with ((first
          | ((with_reducible refine wl_box ?_ (fun K hK => ?_)); rfl; refine owp_box (o := ⟨some 3, _, _, _, _, _⟩) rfl st ?_; apply Exists.intro; refine ⟨?_, ?_⟩; (focus (go_simp; try rfl)); (clear st; intro b3 w hb st; clear hb))
          | ((with_reducible refine wl_store ?_ (fun K hK => ?_)); rfl; refine owp_store rfl st ?_; apply Exists.intro; apply Exists.intro; refine ⟨?_, ?_, ?_⟩; (focus (go_simp; try rfl)); (focus (go_simp; try rfl)); (first | (with_reducible refine ⟨0, _, _, _, _, get0, rfl, rfl, ?_, ?_, ?_, ?_⟩) | (with_reducible refine ⟨1, _, _, _, _, get1, rfl, rfl, ?_, ?_, ?_, ?_⟩) | (with_reducible refine ⟨2, _, _, _, _, get2, rfl, rfl, ?_, ?_, ?_, ?_⟩) | (with_reducible refine ⟨3, _, _, _, _, get3, rfl, rfl, ?_, ?_, ?_, ?_⟩) | (with_reducible refine ⟨4, _, _, _, _, get4, rfl, rfl, ?_, ?_, ?_, ?_⟩) | (with_reducible refine ⟨5, _, _, _, _, get5, rfl, rfl, ?_, ?_, ?_, ?_⟩)); (kernel_rfl); (simp [Value.cells]); (rfl); (clear st; intro w st))); (try simp only [nsl, Value.cells, unB] at st); (try clear hc); have hc := st.facts; (try simp only [nfl, nft, Nat.reduceAdd] at hc))
    refine (HFI.out _ (st.blk (i := 0) get0) (rowFl' (α := SgnT) st (i := 1) get1).2).mono ?_
    rintro en w ⟨rfl, hx⟩
    replace st := st.ext hx
    clear hx
    (try clear hc); have hc := st.facts; (try simp only [nfl, nft, Nat.reduceAdd] at hc)
    go_wp2_with ((first
          | ((with_reducible refine wl_box ?_ (fun K hK => ?_)); rfl; refine owp_box (o := ⟨some 3, _, _, _, _, _⟩) rfl st ?_; apply Exists.intro; refine ⟨?_, ?_⟩; (focus (go_simp; try rfl)); (clear st; intro b3 w hb st; clear hb))
          | ((with_reducible refine wl_store ?_ (fun K hK => ?_)); rfl; refine owp_store rfl st ?_; apply Exists.intro; apply Exists.intro; refine ⟨?_, ?_, ?_⟩; (focus (go_simp; try rfl)); (focus (go_simp; try rfl)); (first | (with_reducible refine ⟨0, _, _, _, _, get0, rfl, rfl, ?_, ?_, ?_, ?_⟩) | (with_reducible refine ⟨1, _, _, _, _, get1, rfl, rfl, ?_, ?_, ?_, ?_⟩) | (with_reducible refine ⟨2, _, _, _, _, get2, rfl, rfl, ?_, ?_, ?_, ?_⟩) | (with_reducible refine ⟨3, _, _, _, _, get3, rfl, rfl, ?_, ?_, ?_, ?_⟩) | (with_reducible refine ⟨4, _, _, _, _, get4, rfl, rfl, ?_, ?_, ?_, ?_⟩) | (with_reducible refine ⟨5, _, _, _, _, get5, rfl, rfl, ?_, ?_, ?_, ?_⟩)); (kernel_rfl); (simp [Value.cells]); (rfl); (clear st; intro w st))); (try simp only [nsl, Value.cells, unB] at st); (try clear hc); have hc := st.facts; (try simp only [nfl, nft, Nat.reduceAdd] at hc))
    go_ret
    have st2 := st.keep [0, 1, 2] (by decide) (by simp)
    simp only [pick, List.map, List.getElem?_cons_zero, List.getElem?_cons_succ, Option.getD_some] at st2
    exact ⟨rfl, st2.vltShut HS.out HSN.out.symm⟩
  | true =>
    obtain ⟨hpl, hpc⟩ := HPL.out.1 rfl
    have hpn : p < n := by rw [hnl, ← HPP.out]; exact hpl
    rw [HG.out]
    simp only [if_true]
    clear HPL HG hpl hpc HPP
    obtain ⟨b, rfl⟩ : ∃ b, va = some ⟨b, 0, none⟩ := by
      rcases (st.row (i := 1) get1).2 with ⟨h5, h6⟩ | ⟨g', cap, cur, hv, _⟩
      · cases h5; omega
      · cases hv; exact ⟨_, rfl⟩
    obtain ⟨m, rfl⟩ : ∃ m, n = m + 1 := ⟨n - 1, by omega⟩
    have hpw : IntKind.i64.wrap ((p : Int) + 1) = (p : Int) + 1 := IntWalk.i64_in _ ⟨by omega, by omega⟩
    have hpm : p ≤ m := by omega
    have hm1 : m ≤ 1000000 := by omega
    have HLM : Hid (m + 1 = ss.length) := Lib.hid HSN.out.symm
    clear hnl HSN
    go_enter Try.func8, Try.ntmps8
    go_wp2_with ((first
          | ((with_reducible refine wl_box ?_ (fun K hK => ?_)); rfl; refine owp_box (o := ⟨some 3, _, _, _, _, _⟩) rfl st ?_; apply Exists.intro; refine ⟨?_, ?_⟩; (focus (go_simp; try rfl)); (clear st; intro b3 w hb st; clear hb))
          | ((with_reducible refine wl_store ?_ (fun K hK => ?_)); rfl; refine owp_store rfl st ?_; apply Exists.intro; apply Exists.intro; refine ⟨?_, ?_, ?_⟩; (focus (go_simp; try rfl)); (focus (go_simp; try rfl)); (first | (with_reducible refine ⟨0, _, _, _, _, get0, rfl, rfl, ?_, ?_, ?_, ?_⟩) | (with_reducible refine ⟨1, _, _, _, _, get1, rfl, rfl, ?_, ?_, ?_, ?_⟩) | (with_reducible refine ⟨2, _, _, _, _, get2, rfl, rfl, ?_, ?_, ?_, ?_⟩) | (with_reducible refine ⟨3, _, _, _, _, get3, rfl, rfl, ?_, ?_, ?_, ?_⟩) | (with_reducible refine ⟨4, _, _, _, _, get4, rfl, rfl, ?_, ?_, ?_, ?_⟩) | (with_reducible refine ⟨5, _, _, _, _, get5, rfl, rfl, ?_, ?_, ?_, ?_⟩)); (kernel_rfl); (simp [Value.cells]); (rfl); (clear st; intro w st))); (try simp only [nsl, Value.cells, unB] at st); (try clear hc); have hc := st.facts; (try simp only [nfl, nft, Nat.reduceAdd] at hc))
    refine (HFI.out _ (st.blk (i := 0) get0) (rowFl' (α := SgnT) st (i := 1) get1).2).mono ?_
    rintro en w ⟨rfl, hx⟩
    replace st := st.ext hx
    clear hx
    (try clear hc); have hc := st.facts; (try simp only [nfl, nft, Nat.reduceAdd] at hc)
    go_wp2_with ((first
          | ((with_reducible refine wl_box ?_ (fun K hK => ?_)); rfl; refine owp_box (o := ⟨some 3, _, _, _, _, _⟩) rfl st ?_; apply Exists.intro; refine ⟨?_, ?_⟩; (focus (go_simp; try rfl)); (clear st; intro b3 w hb st; clear hb))
          | ((with_reducible refine wl_store ?_ (fun K hK => ?_)); rfl; refine owp_store rfl st ?_; apply Exists.intro; apply Exists.intro; refine ⟨?_, ?_, ?_⟩; (focus (go_simp; try rfl)); (focus (go_simp; try rfl)); (first | (with_reducible refine ⟨0, _, _, _, _, get0, rfl, rfl, ?_, ?_, ?_, ?_⟩) | (with_reducible refine ⟨1, _, _, _, _, get1, rfl, rfl, ?_, ?_, ?_, ?_⟩) | (with_reducible refine ⟨2, _, _, _, _, get2, rfl, rfl, ?_, ?_, ?_, ?_⟩) | (with_reducible refine ⟨3, _, _, _, _, get3, rfl, rfl, ?_, ?_, ?_, ?_⟩) | (with_reducible refine ⟨4, _, _, _, _, get4, rfl, rfl, ?_, ?_, ?_, ?_⟩) | (with_reducible refine ⟨5, _, _, _, _, get5, rfl, rfl, ?_, ?_, ?_, ?_⟩)); (kernel_rfl); (simp [Value.cells]); (rfl); (clear st; intro w st))); (try simp only [nsl, Value.cells, unB] at st); (try clear hc); have hc := st.facts; (try simp only [nfl, nft, Nat.reduceAdd] at hc))
    obtain ⟨fr', al', st', back⟩ := st.sub [1] (by decide) (by simp)
    (try simp only [nsl, Value.cells, unB] at st')
    refine (sgnDel_c (l := ss) st' hpm hm1).mono ?_
    clear st'
    rintro en w ⟨rfl, st'⟩
    replace st := back _ _ (by simp) st'
    clear back st'
    (try simp only [nsl, Value.cells, unB] at st)
    (try clear hc); have hc := st.facts; (try simp only [nfl, nft, Nat.reduceAdd] at hc)
    go_wp2_with ((first
          | ((with_reducible refine wl_box ?_ (fun K hK => ?_)); rfl; refine owp_box (o := ⟨some 3, _, _, _, _, _⟩) rfl st ?_; apply Exists.intro; refine ⟨?_, ?_⟩; (focus (go_simp; try rfl)); (clear st; intro b3 w hb st; clear hb))
          | ((with_reducible refine wl_store ?_ (fun K hK => ?_)); rfl; refine owp_store rfl st ?_; apply Exists.intro; apply Exists.intro; refine ⟨?_, ?_, ?_⟩; (focus (go_simp; try rfl)); (focus (go_simp; try rfl)); (first | (with_reducible refine ⟨0, _, _, _, _, get0, rfl, rfl, ?_, ?_, ?_, ?_⟩) | (with_reducible refine ⟨1, _, _, _, _, get1, rfl, rfl, ?_, ?_, ?_, ?_⟩) | (with_reducible refine ⟨2, _, _, _, _, get2, rfl, rfl, ?_, ?_, ?_, ?_⟩) | (with_reducible refine ⟨3, _, _, _, _, get3, rfl, rfl, ?_, ?_, ?_, ?_⟩) | (with_reducible refine ⟨4, _, _, _, _, get4, rfl, rfl, ?_, ?_, ?_, ?_⟩) | (with_reducible refine ⟨5, _, _, _, _, get5, rfl, rfl, ?_, ?_, ?_, ?_⟩)); (kernel_rfl); (simp [Value.cells]); (rfl); (clear st; intro w st))); (try simp only [nsl, Value.cells, unB] at st); (try clear hc); have hc := st.facts; (try simp only [nfl, nft, Nat.reduceAdd] at hc))
    go_ret
    have st2 := st.keep [0, 1, 2] (by decide) (by simp)
    simp only [pick, List.map, List.getElem?_cons_zero, List.getElem?_cons_succ, Option.getD_some] at st2
    have st3 := st2.conv (i := 2) (I' := sgsI (ss.take p ++ ss.drop (p + 1))) rfl fun e s h h3 => ⟨e, s, fun x hx => h x (by
      rcases List.mem_append.1 hx with q | q
      · exact List.mem_of_mem_take q
      · exact List.mem_of_mem_drop q), fun _ q => q, fun _ q => .inr q, h3⟩
    simp only [List.set] at st3
    refine ⟨rfl, st3.vltShut ?_ ?_⟩
    · rw [List.map_append, List.map_take, List.map_drop, HS.out]
    · have := HLM.out; rw [List.length_append, List.length_take, List.length_drop]; omega
end
end Go.Proofs.Ythdbobnebpoolaa

namespace Go.Proofs.Ythdbobnebpoolaa
set_option linter.unusedSimpArgs false
set_option linter.unusedVariables false
open Go Go.RowKit
section
variable {fr al : Nat → Prop} {w0 w : World} {L : List It}
theorem Own.withBy (st : Own fr al w0 L w) {i n : Nat} {a : Option Addr} {xs : List UInt8} (hi : L[i]? = some (byI a n xs)) :
    ∃ al' : Nat → Prop, Own (fun _ => False) al' w [byI a n xs] w ∧ ∀ M w', Own (fun _ => False) al' w M w' → Own fr al w0 (L ++ M) w' := by
  obtain ⟨hm, e, s, F⟩ := st
  have hil := get_lt hi
  have h1 : By w a n xs ∧ (0 < n → ∀ ad, a = some ad → s i ad.block) := F.holds i _ hi
  refine ⟨s i, Own.mk1 (MutO.refl _ _) (I := byI a n xs) (e := fun _ => False) (s := s i) h1 (fun b hb => F.lo i b hil (.inr (hb.resolve_left id))) (fun b hb => hb.elim) (fun b hb _ => hb.resolve_left id) (fun b hb => hb.elim), ?_⟩
  rintro M w' ⟨hm', eM, sM, G⟩
  have hx : Ext w w' := ⟨⟨hm'.os, hm'.tape, hm'.output, hm'.size, fun k hk => hm'.block k hk id⟩, hm'.drawn⟩
  have hle := hx.le
  have hz : ∀ {j}, j < (L ++ M).length → j < L.length ∨ ∃ k, j = L.length + k ∧ k < M.length := fun {j} h => by
    by_cases q : j < L.length
    · exact .inl q
    · exact .inr ⟨j - L.length, by omega, by simp at h; omega⟩
  obtain ⟨ee, hee⟩ : ∃ ee : Nat → Nat → Prop, ee = fun j => if j < L.length then e j else eM (j - L.length) := ⟨_, rfl⟩
  obtain ⟨ss, hss⟩ : ∃ ss : Nat → Nat → Prop, ss = fun j => if j < L.length then s j else sM (j - L.length) := ⟨_, rfl⟩
  have e1 : ∀ {j}, j < L.length → ee j = e j := fun {j} h => by rw [hee]; simp only [h, if_true]
  have s1 : ∀ {j}, j < L.length → ss j = s j := fun {j} h => by rw [hss]; simp only [h, if_true]
  have e2 : ∀ k, ee (L.length + k) = eM k := fun k => by
    have h : ¬ L.length + k < L.length := by omega
    have h' : L.length + k - L.length = k := by omega
    rw [hee]; simp only [h, if_false, h']
  have s2 : ∀ k, ss (L.length + k) = sM k := fun k => by
    have h : ¬ L.length + k < L.length := by omega
    have h' : L.length + k - L.length = k := by omega
    rw [hss]; simp only [h, if_false, h']
  clear hee hss
  have en : ∀ {k b}, k < M.length → eM k b → w.heap.size ≤ b := fun {k b} hk hb => Nat.le_of_not_lt fun q => G.fr k b hk hb q
  have sn : ∀ {k b}, k < M.length → sM k b → w.heap.size ≤ b ∨ s i b := fun {k b} hk hb => by
    by_cases q : b < w.heap.size
    · exact .inr (G.al k b hk (.inr hb) q)
    · exact .inl (by omega)
  refine ⟨hm.trans hm' fun b _ hb => hb.elim, ee, ss, ?_, ?_, ?_, ?_, ?_, ?_⟩
  · intro j J hj
    rcases hz (get_lt hj) with h | ⟨k, rfl, hk⟩
    · rw [List.getElem?_append_left h] at hj
      rw [e1 h, s1 h]
      exact J.st (F.holds j J hj) fun b hb => Below.block hx.bel b (F.lo j b h hb)
    · rw [List.getElem?_append_right (by omega)] at hj
      rw [e2, s2]
      exact G.holds k J (by simpa using hj)
  · intro j b hj hb
    rcases hz hj with h | ⟨k, rfl, hk⟩
    · rw [e1 h, s1 h] at hb; exact Nat.lt_of_lt_of_le (F.lo j b h hb) hle
    · rw [e2, s2] at hb; exact G.lo k b hk hb
  · intro j b hj hb hb0
    rcases hz hj with h | ⟨k, rfl, hk⟩
    · rw [e1 h] at hb; exact F.fr j b h hb hb0
    · rw [e2] at hb
      have := en hk hb; have := hm.size; omega
  · intro j b hj hb hb0
    rcases hz hj with h | ⟨k, rfl, hk⟩
    · rw [e1 h, s1 h] at hb; exact F.al j b h hb hb0
    · rw [e2, s2] at hb
      have hsz := hm.size
      rcases hb with hb | hb
      · have := en hk hb; omega
      · rcases sn hk hb with q | q
        · omega
        · exact F.al i b hil (.inr q) hb0
  · intro j k b hj hk hjk hb hb'
    rcases hz hj with h | ⟨j', rfl, hj'⟩ <;> rcases hz hk with h' | ⟨k', rfl, hk'⟩
    · rw [e1 h] at hb; rw [e1 h'] at hb'; exact F.ee j k b h h' hjk hb hb'
    · rw [e1 h] at hb; rw [e2] at hb'
      have h1 := F.lo j b h (.inl hb); have h2 := en hk' hb'; omega
    · rw [e2] at hb; rw [e1 h'] at hb'
      have h1 := F.lo k b h' (.inl hb'); have h2 := en hj' hb; omega
    · rw [e2] at hb hb'; exact G.ee j' k' b hj' hk' (by omega) hb hb'
  · intro j k b hj hk hb hb'
    rcases hz hj with h | ⟨j', rfl, hj'⟩ <;> rcases hz hk with h' | ⟨k', rfl, hk'⟩
    · rw [e1 h] at hb; rw [s1 h'] at hb'; exact F.es j k b h h' hb hb'
    · rw [e1 h] at hb; rw [s2] at hb'
      have h1 := F.lo j b h (.inl hb)
      rcases sn hk' hb' with q | q
      · omega
      · exact F.es j i b h hil hb q
    · rw [e2] at hb; rw [s1 h'] at hb'
      have h1 := F.lo k b h' (.inr hb'); have h2 := en hj' hb; omega
    · rw [e2] at hb; rw [s2] at hb'; exact G.es j' k' b hj' hk' hb hb'
end
end Go.Proofs.Ythdbobnebpoolaa

namespace Go.Proofs.Ythdbobnebpoolaa
set_option linter.unusedSimpArgs false
set_option linter.unusedVariables false
open Go Go.RowKit
theorem sgV_cells {s s' : SgnT} (h : sgV s = sgV s') : sgC s = sgC s' := by
  have h1 : (.agg (sgC s).toArray : Value) = .agg (sgC s').toArray := h
  injection h1 with h1
  simpa using h1
def CopS (fr al : Nat → Prop) (w0 : World) (L : List It) (s : SgnT) (v : Value) (w : World) : Prop := ∃ s' : SgnT, v = sgV s' ∧ (s'.c = s.c ∧ s'.xs = s.xs) ∧ (s'.n ≤ s'.m ∧ s'.m ≤ maxLen) ∧ Own fr al w0 (L ++ [byI s.a s.n s.xs, byI s'.a s'.n s'.xs]) w
theorem CopS.ext {fr al : Nat → Prop} {w0 : World} {L : List It} {s : SgnT} {v : Value} {w w' : World} (h : CopS fr al w0 L s v w) (hx : Ext w w') : CopS fr al w0 L s v w' := let ⟨s', h1, h2, h3, h4⟩ := h; ⟨s', h1, h2, h3, h4.ext hx⟩
def BldS (fr al : Nat → Prop) (w0 : World) (L : List It) (s : SgnT) (v : Value) (w : World) : Prop := ∃ (s' : SgnT) (g : Nat), v = .slice (some ⟨g, 0, none⟩) 1 1 ∧ (s'.c = s.c ∧ s'.xs = s.xs) ∧ (s'.n ≤ s'.m ∧ s'.m ≤ maxLen) ∧ Own fr al w0 (L ++ [byI s.a s.n s.xs, byI s'.a s'.n s'.xs] ++ [blkI g (sgC s')]) w
theorem BldS.ext {fr al : Nat → Prop} {w0 : World} {L : List It} {s : SgnT} {v : Value} {w w' : World} (h : BldS fr al w0 L s v w) (hx : Ext w w') : BldS fr al w0 L s v w' := let ⟨s', g, h1, h2, h3, h4⟩ := h; ⟨s', g, h1, h2, h3, h4.ext hx⟩
section
variable {fr al : Nat → Prop} {w0 w : World}
set_option maxRecDepth 100000 in
set_option maxHeartbeats 4000000 in
theorem vAdd_c {vb room : Nat} {l : List Hd} (x : SgnT) (st : Own fr al w0 [vltI vb room l, byI x.a x.n x.xs] w) (hn : l.length ≤ 1000000) (hr : room ≤ 1000000) (hs : SrtV l) (hl : SmallV l) (hx : CredL 100000 x.c) (hm : x.n ≤ x.m ∧ x.m ≤ maxLen) :
    Calls Try.prog 7 #[.pointer (some ⟨vb, 0, none⟩), sgV x] w fun e w' => e = .returned (.int .i64 (addV room l (hdOf x)).2) ∧ Own fr al w0 [vltI vb room (addV room l (hdOf x)).1, byI x.a x.n x.xs] w' := by
  obtain ⟨va, c, ss, hss, st⟩ := st.vltOpen
  obtain ⟨n, hsn⟩ : ∃ n, ss.length = n := ⟨_, rfl⟩
  rw [hsn] at st
  have hnl : n = l.length := by rw [← hsn]; exact hd_len hss
  have htn : x.n = x.xs.length := (st.by (i := 3) rfl).1
  have HFI := Lib.hid (fun (W' : World) (hb : Blk W' vb [.slice va n c, .int .i64 (room : Int)]) (hf : Fl W' va n ss) => find_any vb room va n c ss x.c W' hb hf (by omega) (by rw [hss]; exact hs) (hl.creds hss) hx)
  have HCR := Lib.hid (fun W => credRight_any x.c W hx)
  rw [hss] at HFI
  have HS := Lib.hid hss
  have HSN := Lib.hid hsn
  have HM := Lib.hid hm
  have hn' : n ≤ 1000000 := by omega
  obtain ⟨p, hp⟩ : ∃ p, posV l x.c = p := ⟨_, rfl⟩
  obtain ⟨hv, hhv⟩ : ∃ q, heldV l x.c = q := ⟨_, rfl⟩
  obtain ⟨cr, hcr⟩ : ∃ q, credR x.c = q := ⟨_, rfl⟩
  have hpn : p ≤ n := by rw [← hp, hnl]; exact pos_le _ _
  have HG : Hid (addV room l (hdOf x) = if (cr && decide (x.n = 8)) = false then (l, 11) else if hv = true then (l, 41) else if room ≤ n then (l, 40) else (l.take p ++ hdOf x :: l.drop p, 0)) := Lib.hid (by unfold addV insV hdOf; simp only; rw [hp, hhv, hcr, htn, hnl])
  rw [hp, hhv] at HFI
  rw [hcr] at HCR
  obtain ⟨⟨xk, ⟨xo, xd⟩, xw, ⟨yo, yd⟩, ⟨zo, zd⟩, xe⟩, ta, tn, tm, ts⟩ := x
  unfold cV S at HFI HCR
  unfold sgV S
  simp only at HFI HCR HG HM st htn ⊢
  clear hss hsn hs hl hx hm hp hhv hcr hnl htn
  (try simp only [nsl, Value.cells, unB] at st)
  (try clear hc); have hc := st.facts; (try simp only [nfl, nft, Nat.reduceAdd] at hc)
  cases cr with
  | false =>
    rw [HG.out]
    simp only [Bool.false_and, if_true]
    clear HG
    go_enter Try.func7, Try.ntmps7
    go_wp2_with ((first
          | ((with_reducible refine wl_box ?_ (fun K hK => ?_)); rfl; refine owp_box (o := ⟨some 3, _, _, _, _, _⟩) rfl st ?_; apply Exists.intro; refine ⟨?_, ?_⟩; (focus (go_simp; try rfl)); (clear st; intro b3 w hb st; clear hb))
          | ((with_reducible refine wl_buildSlice ?_ (fun K hK => ?_)); rfl; refine owp_buildSlice (o := ⟨some 47, _, _, _, _, _⟩) rfl st ?_; apply Exists.intro; apply Exists.intro; apply Exists.intro; apply Exists.intro; refine ⟨?_, ?_⟩; (focus (go_simp; (first | done | exact ⟨⟨rfl, rfl⟩, rfl⟩ | rfl))); (clear st; intro b47 w hb st; clear hb))
          | ((with_reducible refine wl_store ?_ (fun K hK => ?_)); rfl; refine owp_store rfl st ?_; apply Exists.intro; apply Exists.intro; refine ⟨?_, ?_, ?_⟩; (focus (go_simp; try rfl)); (focus (go_simp; try rfl)); (first | (with_reducible refine ⟨0, _, _, _, _, get0, rfl, rfl, ?_, ?_, ?_, ?_⟩) | (with_reducible refine ⟨1, _, _, _, _, get1, rfl, rfl, ?_, ?_, ?_, ?_⟩) | (with_reducible refine ⟨2, _, _, _, _, get2, rfl, rfl, ?_, ?_, ?_, ?_⟩) | (with_reducible refine ⟨3, _, _, _, _, get3, rfl, rfl, ?_, ?_, ?_, ?_⟩) | (with_reducible refine ⟨4, _, _, _, _, get4, rfl, rfl, ?_, ?_, ?_, ?_⟩) | (with_reducible refine ⟨5, _, _, _, _, get5, rfl, rfl, ?_, ?_, ?_, ?_⟩) | (with_reducible refine ⟨6, _, _, _, _, get6, rfl, rfl, ?_, ?_, ?_, ?_⟩)); (kernel_rfl); (simp [Value.cells]); (rfl); (clear st; intro w st))); (try simp only [nsl, Value.cells, unB] at st); (try clear hc); have hc := st.facts; (try simp only [nfl, nft, Nat.reduceAdd] at hc))
    refine (HCR.out _).mono ?_
    rintro en w ⟨rfl, hx⟩
    replace st := st.ext hx
    clear hx
    (try clear hc); have hc := st.facts; (try simp only [nfl, nft, Nat.reduceAdd] at hc)
    go_wp2_with ((first
          | ((with_reducible refine wl_box ?_ (fun K hK => ?_)); rfl; refine owp_box (o := ⟨some 3, _, _, _, _, _⟩) rfl st ?_; apply Exists.intro; refine ⟨?_, ?_⟩; (focus (go_simp; try rfl)); (clear st; intro b3 w hb st; clear hb))
          | ((with_reducible refine wl_buildSlice ?_ (fun K hK => ?_)); rfl; refine owp_buildSlice (o := ⟨some 47, _, _, _, _, _⟩) rfl st ?_; apply Exists.intro; apply Exists.intro; apply Exists.intro; apply Exists.intro; refine ⟨?_, ?_⟩; (focus (go_simp; (first | done | exact ⟨⟨rfl, rfl⟩, rfl⟩ | rfl))); (clear st; intro b47 w hb st; clear hb))
          | ((with_reducible refine wl_store ?_ (fun K hK => ?_)); rfl; refine owp_store rfl st ?_; apply Exists.intro; apply Exists.intro; refine ⟨?_, ?_, ?_⟩; (focus (go_simp; try rfl)); (focus (go_simp; try rfl)); (first | (with_reducible refine ⟨0, _, _, _, _, get0, rfl, rfl, ?_, ?_, ?_, ?_⟩) | (with_reducible refine ⟨1, _, _, _, _, get1, rfl, rfl, ?_, ?_, ?_, ?_⟩) | (with_reducible refine ⟨2, _, _, _, _, get2, rfl, rfl, ?_, ?_, ?_, ?_⟩) | (with_reducible refine ⟨3, _, _, _, _, get3, rfl, rfl, ?_, ?_, ?_, ?_⟩) | (with_reducible refine ⟨4, _, _, _, _, get4, rfl, rfl, ?_, ?_, ?_, ?_⟩) | (with_reducible refine ⟨5, _, _, _, _, get5, rfl, rfl, ?_, ?_, ?_, ?_⟩) | (with_reducible refine ⟨6, _, _, _, _, get6, rfl, rfl, ?_, ?_, ?_, ?_⟩)); (kernel_rfl); (simp [Value.cells]); (rfl); (clear st; intro w st))); (try simp only [nsl, Value.cells, unB] at st); (try clear hc); have hc := st.facts; (try simp only [nfl, nft, Nat.reduceAdd] at hc))
    go_ret
    have st2 := st.keep [0, 1, 2, 3] (by decide) (by simp)
    simp only [pick, List.map, List.getElem?_cons_zero, List.getElem?_cons_succ, Option.getD_some] at st2
    exact ⟨rfl, st2.vltShut HS.out HSN.out.symm⟩
  | true =>
    by_cases h8 : tn = 8
    · subst h8
      cases hv with
      | true =>
        rw [HG.out]
        simp only [decide_true, Bool.and_self, Bool.true_eq_false, if_false, if_true]
        clear HG
        go_enter Try.func7, Try.ntmps7
        go_wp2_with ((first
              | ((with_reducible refine wl_box ?_ (fun K hK => ?_)); rfl; refine owp_box (o := ⟨some 3, _, _, _, _, _⟩) rfl st ?_; apply Exists.intro; refine ⟨?_, ?_⟩; (focus (go_simp; try rfl)); (clear st; intro b3 w hb st; clear hb))
              | ((with_reducible refine wl_buildSlice ?_ (fun K hK => ?_)); rfl; refine owp_buildSlice (o := ⟨some 47, _, _, _, _, _⟩) rfl st ?_; apply Exists.intro; apply Exists.intro; apply Exists.intro; apply Exists.intro; refine ⟨?_, ?_⟩; (focus (go_simp; (first | done | exact ⟨⟨rfl, rfl⟩, rfl⟩ | rfl))); (clear st; intro b47 w hb st; clear hb))
              | ((with_reducible refine wl_store ?_ (fun K hK => ?_)); rfl; refine owp_store rfl st ?_; apply Exists.intro; apply Exists.intro; refine ⟨?_, ?_, ?_⟩; (focus (go_simp; try rfl)); (focus (go_simp; try rfl)); (first | (with_reducible refine ⟨0, _, _, _, _, get0, rfl, rfl, ?_, ?_, ?_, ?_⟩) | (with_reducible refine ⟨1, _, _, _, _, get1, rfl, rfl, ?_, ?_, ?_, ?_⟩) | (with_reducible refine ⟨2, _, _, _, _, get2, rfl, rfl, ?_, ?_, ?_, ?_⟩) | (with_reducible refine ⟨3, _, _, _, _, get3, rfl, rfl, ?_, ?_, ?_, ?_⟩) | (with_reducible refine ⟨4, _, _, _, _, get4, rfl, rfl, ?_, ?_, ?_, ?_⟩) | (with_reducible refine ⟨5, _, _, _, _, get5, rfl, rfl, ?_, ?_, ?_, ?_⟩) | (with_reducible refine ⟨6, _, _, _, _, get6, rfl, rfl, ?_, ?_, ?_, ?_⟩)); (kernel_rfl); (simp [Value.cells]); (rfl); (clear st; intro w st))); (try simp only [nsl, Value.cells, unB] at st); (try clear hc); have hc := st.facts; (try simp only [nfl, nft, Nat.reduceAdd] at hc))
        refine (HCR.out _).mono ?_
        rintro en w ⟨rfl, hx⟩
        replace st := st.ext hx
        clear hx
        (try clear hc); have hc := st.facts; (try simp only [nfl, nft, Nat.reduceAdd] at hc)
        go_wp2_with ((first
              | ((with_reducible refine wl_box ?_ (fun K hK => ?_)); rfl; refine owp_box (o := ⟨some 3, _, _, _, _, _⟩) rfl st ?_; apply Exists.intro; refine ⟨?_, ?_⟩; (focus (go_simp; try rfl)); (clear st; intro b3 w hb st; clear hb))
              | ((with_reducible refine wl_buildSlice ?_ (fun K hK => ?_)); rfl; refine owp_buildSlice (o := ⟨some 47, _, _, _, _, _⟩) rfl st ?_; apply Exists.intro; apply Exists.intro; apply Exists.intro; apply Exists.intro; refine ⟨?_, ?_⟩; (focus (go_simp; (first | done | exact ⟨⟨rfl, rfl⟩, rfl⟩ | rfl))); (clear st; intro b47 w hb st; clear hb))
              | ((with_reducible refine wl_store ?_ (fun K hK => ?_)); rfl; refine owp_store rfl st ?_; apply Exists.intro; apply Exists.intro; refine ⟨?_, ?_, ?_⟩; (focus (go_simp; try rfl)); (focus (go_simp; try rfl)); (first | (with_reducible refine ⟨0, _, _, _, _, get0, rfl, rfl, ?_, ?_, ?_, ?_⟩) | (with_reducible refine ⟨1, _, _, _, _, get1, rfl, rfl, ?_, ?_, ?_, ?_⟩) | (with_reducible refine ⟨2, _, _, _, _, get2, rfl, rfl, ?_, ?_, ?_, ?_⟩) | (with_reducible refine ⟨3, _, _, _, _, get3, rfl, rfl, ?_, ?_, ?_, ?_⟩) | (with_reducible refine ⟨4, _, _, _, _, get4, rfl, rfl, ?_, ?_, ?_, ?_⟩) | (with_reducible refine ⟨5, _, _, _, _, get5, rfl, rfl, ?_, ?_, ?_, ?_⟩) | (with_reducible refine ⟨6, _, _, _, _, get6, rfl, rfl, ?_, ?_, ?_, ?_⟩)); (kernel_rfl); (simp [Value.cells]); (rfl); (clear st; intro w st))); (try simp only [nsl, Value.cells, unB] at st); (try clear hc); have hc := st.facts; (try simp only [nfl, nft, Nat.reduceAdd] at hc))
        refine (HFI.out _ (st.blk (i := 0) get0) (rowFl' (α := SgnT) st (i := 1) get1).2).mono ?_
        rintro en w ⟨rfl, hx⟩
        replace st := st.ext hx
        clear hx
        (try clear hc); have hc := st.facts; (try simp only [nfl, nft, Nat.reduceAdd] at hc)
        go_wp2_with ((first
              | ((with_reducible refine wl_box ?_ (fun K hK => ?_)); rfl; refine owp_box (o := ⟨some 3, _, _, _, _, _⟩) rfl st ?_; apply Exists.intro; refine ⟨?_, ?_⟩; (focus (go_simp; try rfl)); (clear st; intro b3 w hb st; clear hb))
              | ((with_reducible refine wl_buildSlice ?_ (fun K hK => ?_)); rfl; refine owp_buildSlice (o := ⟨some 47, _, _, _, _, _⟩) rfl st ?_; apply Exists.intro; apply Exists.intro; apply Exists.intro; apply Exists.intro; refine ⟨?_, ?_⟩; (focus (go_simp; (first | done | exact ⟨⟨rfl, rfl⟩, rfl⟩ | rfl))); (clear st; intro b47 w hb st; clear hb))
              | ((with_reducible refine wl_store ?_ (fun K hK => ?_)); rfl; refine owp_store rfl st ?_; apply Exists.intro; apply Exists.intro; refine ⟨?_, ?_, ?_⟩; (focus (go_simp; try rfl)); (focus (go_simp; try rfl)); (first | (with_reducible refine ⟨0, _, _, _, _, get0, rfl, rfl, ?_, ?_, ?_, ?_⟩) | (with_reducible refine ⟨1, _, _, _, _, get1, rfl, rfl, ?_, ?_, ?_, ?_⟩) | (with_reducible refine ⟨2, _, _, _, _, get2, rfl, rfl, ?_, ?_, ?_, ?_⟩) | (with_reducible refine ⟨3, _, _, _, _, get3, rfl, rfl, ?_, ?_, ?_, ?_⟩) | (with_reducible refine ⟨4, _, _, _, _, get4, rfl, rfl, ?_, ?_, ?_, ?_⟩) | (with_reducible refine ⟨5, _, _, _, _, get5, rfl, rfl, ?_, ?_, ?_, ?_⟩) | (with_reducible refine ⟨6, _, _, _, _, get6, rfl, rfl, ?_, ?_, ?_, ?_⟩)); (kernel_rfl); (simp [Value.cells]); (rfl); (clear st; intro w st))); (try simp only [nsl, Value.cells, unB] at st); (try clear hc); have hc := st.facts; (try simp only [nfl, nft, Nat.reduceAdd] at hc))
        go_ret
        have st2 := st.keep [0, 1, 2, 3] (by decide) (by simp)
        simp only [pick, List.map, List.getElem?_cons_zero, List.getElem?_cons_succ, Option.getD_some] at st2
        exact ⟨rfl, st2.vltShut HS.out HSN.out.symm⟩
      | false =>
        by_cases hrn : room ≤ n
        · have hrd : decide ((room : Int) ≤ (n : Int)) = true := decide_eq_true (by omega)
          have hri : (room : Int) ≤ (n : Int) := by omega
          rw [HG.out]
          simp only [decide_true, Bool.and_self, Bool.true_eq_false, Bool.false_eq_true, if_false, if_pos hrn]
          clear HG
          go_enter Try.func7, Try.ntmps7
          go_wp2_with ((first
                | ((with_reducible refine wl_box ?_ (fun K hK => ?_)); rfl; refine owp_box (o := ⟨some 3, _, _, _, _, _⟩) rfl st ?_; apply Exists.intro; refine ⟨?_, ?_⟩; (focus (go_simp; try rfl)); (clear st; intro b3 w hb st; clear hb))
                | ((with_reducible refine wl_buildSlice ?_ (fun K hK => ?_)); rfl; refine owp_buildSlice (o := ⟨some 47, _, _, _, _, _⟩) rfl st ?_; apply Exists.intro; apply Exists.intro; apply Exists.intro; apply Exists.intro; refine ⟨?_, ?_⟩; (focus (go_simp; (first | done | exact ⟨⟨rfl, rfl⟩, rfl⟩ | rfl))); (clear st; intro b47 w hb st; clear hb))
                | ((with_reducible refine wl_store ?_ (fun K hK => ?_)); rfl; refine owp_store rfl st ?_; apply Exists.intro; apply Exists.intro; refine ⟨?_, ?_, ?_⟩; (focus (go_simp; try rfl)); (focus (go_simp; try rfl)); (first | (with_reducible refine ⟨0, _, _, _, _, get0, rfl, rfl, ?_, ?_, ?_, ?_⟩) | (with_reducible refine ⟨1, _, _, _, _, get1, rfl, rfl, ?_, ?_, ?_, ?_⟩) | (with_reducible refine ⟨2, _, _, _, _, get2, rfl, rfl, ?_, ?_, ?_, ?_⟩) | (with_reducible refine ⟨3, _, _, _, _, get3, rfl, rfl, ?_, ?_, ?_, ?_⟩) | (with_reducible refine ⟨4, _, _, _, _, get4, rfl, rfl, ?_, ?_, ?_, ?_⟩) | (with_reducible refine ⟨5, _, _, _, _, get5, rfl, rfl, ?_, ?_, ?_, ?_⟩) | (with_reducible refine ⟨6, _, _, _, _, get6, rfl, rfl, ?_, ?_, ?_, ?_⟩)); (kernel_rfl); (simp [Value.cells]); (rfl); (clear st; intro w st))); (try simp only [nsl, Value.cells, unB] at st); (try clear hc); have hc := st.facts; (try simp only [nfl, nft, Nat.reduceAdd] at hc))
          refine (HCR.out _).mono ?_
          rintro en w ⟨rfl, hx⟩
          replace st := st.ext hx
          clear hx
          (try clear hc); have hc := st.facts; (try simp only [nfl, nft, Nat.reduceAdd] at hc)
          go_wp2_with ((first
                | ((with_reducible refine wl_box ?_ (fun K hK => ?_)); rfl; refine owp_box (o := ⟨some 3, _, _, _, _, _⟩) rfl st ?_; apply Exists.intro; refine ⟨?_, ?_⟩; (focus (go_simp; try rfl)); (clear st; intro b3 w hb st; clear hb))
                | ((with_reducible refine wl_buildSlice ?_ (fun K hK => ?_)); rfl; refine owp_buildSlice (o := ⟨some 47, _, _, _, _, _⟩) rfl st ?_; apply Exists.intro; apply Exists.intro; apply Exists.intro; apply Exists.intro; refine ⟨?_, ?_⟩; (focus (go_simp; (first | done | exact ⟨⟨rfl, rfl⟩, rfl⟩ | rfl))); (clear st; intro b47 w hb st; clear hb))
                | ((with_reducible refine wl_store ?_ (fun K hK => ?_)); rfl; refine owp_store rfl st ?_; apply Exists.intro; apply Exists.intro; refine ⟨?_, ?_, ?_⟩; (focus (go_simp; try rfl)); (focus (go_simp; try rfl)); (first | (with_reducible refine ⟨0, _, _, _, _, get0, rfl, rfl, ?_, ?_, ?_, ?_⟩) | (with_reducible refine ⟨1, _, _, _, _, get1, rfl, rfl, ?_, ?_, ?_, ?_⟩) | (with_reducible refine ⟨2, _, _, _, _, get2, rfl, rfl, ?_, ?_, ?_, ?_⟩) | (with_reducible refine ⟨3, _, _, _, _, get3, rfl, rfl, ?_, ?_, ?_, ?_⟩) | (with_reducible refine ⟨4, _, _, _, _, get4, rfl, rfl, ?_, ?_, ?_, ?_⟩) | (with_reducible refine ⟨5, _, _, _, _, get5, rfl, rfl, ?_, ?_, ?_, ?_⟩) | (with_reducible refine ⟨6, _, _, _, _, get6, rfl, rfl, ?_, ?_, ?_, ?_⟩)); (kernel_rfl); (simp [Value.cells]); (rfl); (clear st; intro w st))); (try simp only [nsl, Value.cells, unB] at st); (try clear hc); have hc := st.facts; (try simp only [nfl, nft, Nat.reduceAdd] at hc))
          refine (HFI.out _ (st.blk (i := 0) get0) (rowFl' (α := SgnT) st (i := 1) get1).2).mono ?_
          rintro en w ⟨rfl, hx⟩
          replace st := st.ext hx
          clear hx
          (try clear hc); have hc := st.facts; (try simp only [nfl, nft, Nat.reduceAdd] at hc)
          go_wp2_with ((first
                | ((with_reducible refine wl_box ?_ (fun K hK => ?_)); rfl; refine owp_box (o := ⟨some 3, _, _, _, _, _⟩) rfl st ?_; apply Exists.intro; refine ⟨?_, ?_⟩; (focus (go_simp; try rfl)); (clear st; intro b3 w hb st; clear hb))
                | ((with_reducible refine wl_buildSlice ?_ (fun K hK => ?_)); rfl; refine owp_buildSlice (o := ⟨some 47, _, _, _, _, _⟩) rfl st ?_; apply Exists.intro; apply Exists.intro; apply Exists.intro; apply Exists.intro; refine ⟨?_, ?_⟩; (focus (go_simp; (first | done | exact ⟨⟨rfl, rfl⟩, rfl⟩ | rfl))); (clear st; intro b47 w hb st; clear hb))
                | ((with_reducible refine wl_store ?_ (fun K hK => ?_)); rfl; refine owp_store rfl st ?_; apply Exists.intro; apply Exists.intro; refine ⟨?_, ?_, ?_⟩; (focus (go_simp; try rfl)); (focus (go_simp; try rfl)); (first | (with_reducible refine ⟨0, _, _, _, _, get0, rfl, rfl, ?_, ?_, ?_, ?_⟩) | (with_reducible refine ⟨1, _, _, _, _, get1, rfl, rfl, ?_, ?_, ?_, ?_⟩) | (with_reducible refine ⟨2, _, _, _, _, get2, rfl, rfl, ?_, ?_, ?_, ?_⟩) | (with_reducible refine ⟨3, _, _, _, _, get3, rfl, rfl, ?_, ?_, ?_, ?_⟩) | (with_reducible refine ⟨4, _, _, _, _, get4, rfl, rfl, ?_, ?_, ?_, ?_⟩) | (with_reducible refine ⟨5, _, _, _, _, get5, rfl, rfl, ?_, ?_, ?_, ?_⟩) | (with_reducible refine ⟨6, _, _, _, _, get6, rfl, rfl, ?_, ?_, ?_, ?_⟩)); (kernel_rfl); (simp [Value.cells]); (rfl); (clear st; intro w st))); (try simp only [nsl, Value.cells, unB] at st); (try clear hc); have hc := st.facts; (try simp only [nfl, nft, Nat.reduceAdd] at hc))
          refine Rg4.wp_region4_eq #[0, 1, 3, 7, 15, 0, 32, 96, 224, 511, 1023] [] [3, 8] (fun W' => Blk W' vb [.slice va n c, .int .i64 (room : Int)]) [0, 1, 2, 3, 4, 5, 6, 7, 8, 9, 10] (by kernel_rfl) (by kernel_rfl) (by kernel_rfl) (by kernel_rfl) (show Rg4.PB _ by repeat (first | with_reducible exact Rg4.pb_body | with_reducible exact Rg4.pb_bodyD rfl | with_reducible refine Rg4.pb_then ?_ | with_reducible refine Rg4.pb_inBlock ?_ | with_reducible refine Rg4.pb_noGoto ?_ | with_reducible assumption)) (st.drew.blk (i := 0) get0) ?_
          replace st := st.drew
          change Rg4.wp4 _ _ _ _ _ _ _ _ _ (World.drew _) _ _
          generalize World.drew _ = w at st ⊢
          (try clear hc); have hc := st.facts; (try simp only [nfl, nft, Nat.reduceAdd] at hc)
          iterate 3 (refine Rg4.w4_any (Rg4.want_none rfl) rfl ?_; apply Exists.intro; refine ⟨fun w' => ?_, ?_⟩; (focus (first | (go_simp; done) | (go_simp; first | rfl | (rw [if_neg] <;> first | rfl | omega) | (rw [if_pos] <;> first | rfl | omega)))); (try simp only [Rg4.nrm]))
          (refine Rg4.w4_read (Rg4.want_none rfl) rfl rfl ?_; apply Exists.intro; refine ⟨fun w' hw' hcl' => ?_, ?_⟩; focus (subst hw'; (focus (first | (go_simp; done) | (go_simp; first | rfl | (rw [if_neg] <;> first | rfl | omega) | (rw [if_pos] <;> first | rfl | omega))))); (try simp only [Rg4.nrm]))
          iterate 4 (refine Rg4.w4_any (Rg4.want_none rfl) rfl ?_; apply Exists.intro; refine ⟨fun w' => ?_, ?_⟩; (focus (first | (go_simp; done) | (go_simp; first | rfl | (rw [if_neg] <;> first | rfl | omega) | (rw [if_pos] <;> first | rfl | omega)))); (try simp only [Rg4.nrm]))
          (refine Rg4.w4_read (Rg4.want_none rfl) rfl rfl ?_; apply Exists.intro; refine ⟨fun w' hw' hcl' => ?_, ?_⟩; focus (subst hw'; (focus (first | (go_simp; done) | (go_simp; first | rfl | (rw [if_neg] <;> first | rfl | omega) | (rw [if_pos] <;> first | rfl | omega))))); (try simp only [Rg4.nrm]))
          iterate 2 (refine Rg4.w4_any (Rg4.want_none rfl) rfl ?_; apply Exists.intro; refine ⟨fun w' => ?_, ?_⟩; (focus (first | (go_simp; done) | (go_simp; first | rfl | (rw [if_neg] <;> first | rfl | omega) | (rw [if_pos] <;> first | rfl | omega)))); (try simp only [Rg4.nrm]))
          refine Rg4.w4_nil (fun w' hw' hcl' _ => ?_); subst hw'; clear hcl'
          go_wp2_with fail
          go_ret
          have st2 := st.keep [0, 1, 2, 3] (by decide) (by simp)
          simp only [pick, List.map, List.getElem?_cons_zero, List.getElem?_cons_succ, Option.getD_some] at st2
          exact ⟨rfl, st2.vltShut HS.out HSN.out.symm⟩
        · have hrd : decide ((room : Int) ≤ (n : Int)) = false := decide_eq_false (by omega)
          have hri : ¬ (room : Int) ≤ (n : Int) := by omega
          rw [HG.out]
          simp only [decide_true, Bool.and_self, Bool.true_eq_false, Bool.false_eq_true, if_false, if_neg hrn]
          clear HG
          go_enter Try.func7, Try.ntmps7
          go_wp2_with ((first
                | ((with_reducible refine wl_box ?_ (fun K hK => ?_)); rfl; refine owp_box (o := ⟨some 3, _, _, _, _, _⟩) rfl st ?_; apply Exists.intro; refine ⟨?_, ?_⟩; (focus (go_simp; try rfl)); (clear st; intro b3 w hb st; clear hb))
                | ((with_reducible refine wl_buildSlice ?_ (fun K hK => ?_)); rfl; refine owp_buildSlice (o := ⟨some 47, _, _, _, _, _⟩) rfl st ?_; apply Exists.intro; apply Exists.intro; apply Exists.intro; apply Exists.intro; refine ⟨?_, ?_⟩; (focus (go_simp; (first | done | exact ⟨⟨rfl, rfl⟩, rfl⟩ | rfl))); (clear st; intro b47 w hb st; clear hb))
                | ((with_reducible refine wl_store ?_ (fun K hK => ?_)); rfl; refine owp_store rfl st ?_; apply Exists.intro; apply Exists.intro; refine ⟨?_, ?_, ?_⟩; (focus (go_simp; try rfl)); (focus (go_simp; try rfl)); (first | (with_reducible refine ⟨0, _, _, _, _, get0, rfl, rfl, ?_, ?_, ?_, ?_⟩) | (with_reducible refine ⟨1, _, _, _, _, get1, rfl, rfl, ?_, ?_, ?_, ?_⟩) | (with_reducible refine ⟨2, _, _, _, _, get2, rfl, rfl, ?_, ?_, ?_, ?_⟩) | (with_reducible refine ⟨3, _, _, _, _, get3, rfl, rfl, ?_, ?_, ?_, ?_⟩) | (with_reducible refine ⟨4, _, _, _, _, get4, rfl, rfl, ?_, ?_, ?_, ?_⟩) | (with_reducible refine ⟨5, _, _, _, _, get5, rfl, rfl, ?_, ?_, ?_, ?_⟩) | (with_reducible refine ⟨6, _, _, _, _, get6, rfl, rfl, ?_, ?_, ?_, ?_⟩)); (kernel_rfl); (simp [Value.cells]); (rfl); (clear st; intro w st))); (try simp only [nsl, Value.cells, unB] at st); (try clear hc); have hc := st.facts; (try simp only [nfl, nft, Nat.reduceAdd] at hc))
          refine (HCR.out _).mono ?_
          rintro en w ⟨rfl, hx⟩
          replace st := st.ext hx
          clear hx
          (try clear hc); have hc := st.facts; (try simp only [nfl, nft, Nat.reduceAdd] at hc)
          go_wp2_with ((first
                | ((with_reducible refine wl_box ?_ (fun K hK => ?_)); rfl; refine owp_box (o := ⟨some 3, _, _, _, _, _⟩) rfl st ?_; apply Exists.intro; refine ⟨?_, ?_⟩; (focus (go_simp; try rfl)); (clear st; intro b3 w hb st; clear hb))
                | ((with_reducible refine wl_buildSlice ?_ (fun K hK => ?_)); rfl; refine owp_buildSlice (o := ⟨some 47, _, _, _, _, _⟩) rfl st ?_; apply Exists.intro; apply Exists.intro; apply Exists.intro; apply Exists.intro; refine ⟨?_, ?_⟩; (focus (go_simp; (first | done | exact ⟨⟨rfl, rfl⟩, rfl⟩ | rfl))); (clear st; intro b47 w hb st; clear hb))
                | ((with_reducible refine wl_store ?_ (fun K hK => ?_)); rfl; refine owp_store rfl st ?_; apply Exists.intro; apply Exists.intro; refine ⟨?_, ?_, ?_⟩; (focus (go_simp; try rfl)); (focus (go_simp; try rfl)); (first | (with_reducible refine ⟨0, _, _, _, _, get0, rfl, rfl, ?_, ?_, ?_, ?_⟩) | (with_reducible refine ⟨1, _, _, _, _, get1, rfl, rfl, ?_, ?_, ?_, ?_⟩) | (with_reducible refine ⟨2, _, _, _, _, get2, rfl, rfl, ?_, ?_, ?_, ?_⟩) | (with_reducible refine ⟨3, _, _, _, _, get3, rfl, rfl, ?_, ?_, ?_, ?_⟩) | (with_reducible refine ⟨4, _, _, _, _, get4, rfl, rfl, ?_, ?_, ?_, ?_⟩) | (with_reducible refine ⟨5, _, _, _, _, get5, rfl, rfl, ?_, ?_, ?_, ?_⟩) | (with_reducible refine ⟨6, _, _, _, _, get6, rfl, rfl, ?_, ?_, ?_, ?_⟩)); (kernel_rfl); (simp [Value.cells]); (rfl); (clear st; intro w st))); (try simp only [nsl, Value.cells, unB] at st); (try clear hc); have hc := st.facts; (try simp only [nfl, nft, Nat.reduceAdd] at hc))
          refine (HFI.out _ (st.blk (i := 0) get0) (rowFl' (α := SgnT) st (i := 1) get1).2).mono ?_
          rintro en w ⟨rfl, hx⟩
          replace st := st.ext hx
          clear hx
          (try clear hc); have hc := st.facts; (try simp only [nfl, nft, Nat.reduceAdd] at hc)
          go_wp2_with ((first
                | ((with_reducible refine wl_box ?_ (fun K hK => ?_)); rfl; refine owp_box (o := ⟨some 3, _, _, _, _, _⟩) rfl st ?_; apply Exists.intro; refine ⟨?_, ?_⟩; (focus (go_simp; try rfl)); (clear st; intro b3 w hb st; clear hb))
                | ((with_reducible refine wl_buildSlice ?_ (fun K hK => ?_)); rfl; refine owp_buildSlice (o := ⟨some 47, _, _, _, _, _⟩) rfl st ?_; apply Exists.intro; apply Exists.intro; apply Exists.intro; apply Exists.intro; refine ⟨?_, ?_⟩; (focus (go_simp; (first | done | exact ⟨⟨rfl, rfl⟩, rfl⟩ | rfl))); (clear st; intro b47 w hb st; clear hb))
                | ((with_reducible refine wl_store ?_ (fun K hK => ?_)); rfl; refine owp_store rfl st ?_; apply Exists.intro; apply Exists.intro; refine ⟨?_, ?_, ?_⟩; (focus (go_simp; try rfl)); (focus (go_simp; try rfl)); (first | (with_reducible refine ⟨0, _, _, _, _, get0, rfl, rfl, ?_, ?_, ?_, ?_⟩) | (with_reducible refine ⟨1, _, _, _, _, get1, rfl, rfl, ?_, ?_, ?_, ?_⟩) | (with_reducible refine ⟨2, _, _, _, _, get2, rfl, rfl, ?_, ?_, ?_, ?_⟩) | (with_reducible refine ⟨3, _, _, _, _, get3, rfl, rfl, ?_, ?_, ?_, ?_⟩) | (with_reducible refine ⟨4, _, _, _, _, get4, rfl, rfl, ?_, ?_, ?_, ?_⟩) | (with_reducible refine ⟨5, _, _, _, _, get5, rfl, rfl, ?_, ?_, ?_, ?_⟩) | (with_reducible refine ⟨6, _, _, _, _, get6, rfl, rfl, ?_, ?_, ?_, ?_⟩)); (kernel_rfl); (simp [Value.cells]); (rfl); (clear st; intro w st))); (try simp only [nsl, Value.cells, unB] at st); (try clear hc); have hc := st.facts; (try simp only [nfl, nft, Nat.reduceAdd] at hc))
          refine Rg4.wp_region4_eq #[0, 1, 3, 7, 15, 0, 32, 96, 224, 511, 1023] [] [3, 8] (fun W' => Blk W' vb [.slice va n c, .int .i64 (room : Int)]) [0, 1, 2, 3, 4, 5, 6, 7, 8, 9, 10] (by kernel_rfl) (by kernel_rfl) (by kernel_rfl) (by kernel_rfl) (show Rg4.PB _ by repeat (first | with_reducible exact Rg4.pb_body | with_reducible exact Rg4.pb_bodyD rfl | with_reducible refine Rg4.pb_then ?_ | with_reducible refine Rg4.pb_inBlock ?_ | with_reducible refine Rg4.pb_noGoto ?_ | with_reducible assumption)) (st.drew.blk (i := 0) get0) ?_
          replace st := st.drew
          change Rg4.wp4 _ _ _ _ _ _ _ _ _ (World.drew _) _ _
          generalize World.drew _ = w at st ⊢
          (try clear hc); have hc := st.facts; (try simp only [nfl, nft, Nat.reduceAdd] at hc)
          iterate 3 (refine Rg4.w4_any (Rg4.want_none rfl) rfl ?_; apply Exists.intro; refine ⟨fun w' => ?_, ?_⟩; (focus (first | (go_simp; done) | (go_simp; first | rfl | (rw [if_neg] <;> first | rfl | omega) | (rw [if_pos] <;> first | rfl | omega)))); (try simp only [Rg4.nrm]))
          (refine Rg4.w4_read (Rg4.want_none rfl) rfl rfl ?_; apply Exists.intro; refine ⟨fun w' hw' hcl' => ?_, ?_⟩; focus (subst hw'; (focus (first | (go_simp; done) | (go_simp; first | rfl | (rw [if_neg] <;> first | rfl | omega) | (rw [if_pos] <;> first | rfl | omega))))); (try simp only [Rg4.nrm]))
          iterate 4 (refine Rg4.w4_any (Rg4.want_none rfl) rfl ?_; apply Exists.intro; refine ⟨fun w' => ?_, ?_⟩; (focus (first | (go_simp; done) | (go_simp; first | rfl | (rw [if_neg] <;> first | rfl | omega) | (rw [if_pos] <;> first | rfl | omega)))); (try simp only [Rg4.nrm]))
          (refine Rg4.w4_read (Rg4.want_none rfl) rfl rfl ?_; apply Exists.intro; refine ⟨fun w' hw' hcl' => ?_, ?_⟩; focus (subst hw'; (focus (first | (go_simp; done) | (go_simp; first | rfl | (rw [if_neg] <;> first | rfl | omega) | (rw [if_pos] <;> first | rfl | omega))))); (try simp only [Rg4.nrm]))
          iterate 2 (refine Rg4.w4_any (Rg4.want_none rfl) rfl ?_; apply Exists.intro; refine ⟨fun w' => ?_, ?_⟩; (focus (first | (go_simp; done) | (go_simp; first | rfl | (rw [if_neg] <;> first | rfl | omega) | (rw [if_pos] <;> first | rfl | omega)))); (try simp only [Rg4.nrm]))
          refine Rg4.w4_nil (fun w' hw' hcl' _ => ?_); subst hw'; clear hcl'
          go_wp2_with fail
          refine Rg4.wp_region4 (Rel := Ext) #[0, 0, 2, 6, 14, 0, 0, 64, 192, 510, 1023, 2047, 4095]
            [(7, ⟨fun v w => CopS fr al w0 [blkI vb [.slice va n c, .int .i64 (room : Int)], rowI 35 10 (.slice va n c) n (cellsL ss), sgsI ss, byI ta 8 ts, blkI b3 [.int .i64 xk, .string ⟨xo.toArray⟩, .string ⟨xd.toArray⟩, .string ⟨xw.toArray⟩, .string ⟨yo.toArray⟩, .string ⟨yd.toArray⟩, .string ⟨zo.toArray⟩, .string ⟨zd.toArray⟩, .string ⟨xe.toArray⟩, .slice ta 8 tm]] ⟨⟨xk, (xo, xd), xw, (yo, yd), (zo, zd), xe⟩, ta, 8, tm, ts⟩ v w , fun _ _ _ hx h => CopS.ext h hx⟩), (8, ⟨fun v w => BldS fr al w0 [blkI vb [.slice va n c, .int .i64 (room : Int)], rowI 35 10 (.slice va n c) n (cellsL ss), sgsI ss, byI ta 8 ts, blkI b3 [.int .i64 xk, .string ⟨xo.toArray⟩, .string ⟨xd.toArray⟩, .string ⟨xw.toArray⟩, .string ⟨yo.toArray⟩, .string ⟨yd.toArray⟩, .string ⟨zo.toArray⟩, .string ⟨zd.toArray⟩, .string ⟨xe.toArray⟩, .slice ta 8 tm]] ⟨⟨xk, (xo, xd), xw, (yo, yd), (zo, zd), xe⟩, ta, 8, tm, ts⟩ v w , fun _ _ _ hx h => BldS.ext h hx⟩)] [9, 12] [4, 6] (fun _ => True) [0, 1, 2, 3, 4, 5, 6, 7, 8, 9, 10, 11, 12] (by kernel_rfl) (by kernel_rfl) (by kernel_rfl) (by kernel_rfl) Ext.refl (fun _ _ _ => Ext.trans) (show Rg4.PB _ by repeat (first | with_reducible exact Rg4.pb_body | with_reducible exact Rg4.pb_bodyD rfl | with_reducible refine Rg4.pb_then ?_ | with_reducible refine Rg4.pb_inBlock ?_ | with_reducible refine Rg4.pb_noGoto ?_ | with_reducible assumption)) (trivial) ?_
          replace st := st.drew
          change Rg4.wp4 _ _ _ _ _ _ _ _ _ (World.drew _) _ _
          generalize World.drew _ = w at st ⊢
          (try clear hc); have hc := st.facts; (try simp only [nfl, nft, Nat.reduceAdd] at hc)
          iterate 4 (refine Rg4.w4_any (Rg4.want_none rfl) rfl ?_; apply Exists.intro; refine ⟨fun w' => ?_, ?_⟩; (focus (first | (go_simp; done) | (go_simp; first | rfl | (rw [if_neg] <;> first | rfl | omega) | (rw [if_pos] <;> first | rfl | omega)))); (try simp only [Rg4.nrm]))
          (refine Rg4.w4_read (Rg4.want_none rfl) rfl rfl ?_; apply Exists.intro; refine ⟨fun w' hw' hcl' => ?_, ?_⟩; focus (have st' := st.ext hw'; have hc' := st'.facts; (try simp only [nfl, nft, Nat.reduceAdd] at hc'); (focus (first | (go_simp; done) | (go_simp; first | rfl | (rw [if_neg] <;> first | rfl | omega) | (rw [if_pos] <;> first | rfl | omega))))); (try simp only [Rg4.nrm]))
          (refine Rg4.w4_any (Rg4.want_none rfl) rfl ?_; apply Exists.intro; refine ⟨fun w' => ?_, ?_⟩; (focus (first | (go_simp; done) | (go_simp; first | rfl | (rw [if_neg] <;> first | rfl | omega) | (rw [if_pos] <;> first | rfl | omega)))); (try simp only [Rg4.nrm]))
          (refine Rg4.w4_read (Rg4.want_none rfl) rfl rfl ?_; apply Exists.intro; refine ⟨fun w' hw' hcl' => ?_, ?_⟩; focus (have st' := st.ext hw'; have hc' := st'.facts; (try simp only [nfl, nft, Nat.reduceAdd] at hc'); (focus (first | (go_simp; done) | (go_simp; first | rfl | (rw [if_neg] <;> first | rfl | omega) | (rw [if_pos] <;> first | rfl | omega))))); (try simp only [Rg4.nrm]))
          refine Rg4.w4_some (Rg4.want_none rfl) rfl (fun w' hw' hcl' _ => ?_) ?_
          · refine Rg.relAt_call (by go_simp; exact ⟨rfl, rfl⟩) ?_
            obtain ⟨al', st2, back⟩ := (st.ext hw').withBy (i := 3) get3
            refine (copied_c ⟨⟨xk, (xo, xd), xw, (yo, yd), (zo, zd), xe⟩, ta, 8, tm, ts⟩ st2 HM.out (by show 8 ≤ _; omega)).mono ?_
            rintro en w'' ⟨s', rfl, ⟨h1, h2, h3⟩, h4, st3⟩
            exact ⟨_, rfl, st3.ext0, trivial, s', rfl, ⟨h1, h2⟩, h4, back _ _ st3⟩
          rintro v ⟨_, _, _, s', rfl, ⟨hs1, hs2⟩, _⟩
          (try simp only [Rg4.nrm])

          refine Rg4.w4_some (Rg4.want_none rfl) rfl (fun w' hw' hcl' hP => ?_) ?_
          · obtain ⟨s2, e2, h1, h2, st2⟩ := (hP 7 (by kernel_rfl)).2 rfl
            refine Rg.relAt_value (v := .slice (some ⟨w'.heap.size, 0, none⟩) 1 1) (w' := w'.alloc (.cells (sgC s').toArray 35)) ?_ ⟨Ext.new _ _, trivial, s2, _, rfl, h1, h2, ?_⟩
            · unfold sgV S
              go_simp
              unfold sgC S
              rw [hs1]
            · rw [sgV_cells e2]
              exact st2.alloc (sgC s2) _ rfl
          rintro v ⟨_, _, _, s8, g, rfl, _⟩
          (try simp only [Rg4.nrm])

          refine Rg4.w4_bar (Rg4.want_none rfl) rfl (fun w' hw' hcl hF K hK => ?_)
          obtain ⟨s9, g', hv, h1, h2, st2⟩ := (hF 8).2 rfl
          cases hv
          clear hF hcl hw' st
          have st := st2
          simp only [List.cons_append, List.nil_append] at st
          have HQ := Lib.hid (And.intro h1 h2)
          clear st2 h1 h2 hs1 hs2
          (try simp only [nsl, Value.cells, unB] at st)
          (try clear hc); have hc := st.facts; (try simp only [nfl, nft, Nat.reduceAdd] at hc)
          go_wp2_with fail
          obtain ⟨fr', al', st', back⟩ := st.sub [1, 7] (by decide) (by simp)
          (try simp only [nsl, Value.cells, unB] at st')
          refine (sgnInsert_c s9 st' hpn hn').mono ?_
          clear st'
          rintro en w ⟨va', c', rfl, st'⟩
          replace st := back _ _ (by simp) st'
          clear back st'
          (try simp only [nsl, Value.cells, unB] at st)
          (try clear hc); have hc := st.facts; (try simp only [nfl, nft, Nat.reduceAdd] at hc)
          refine hK _ _ ⟨trivial, ?_⟩
          clear hK
          (try simp only [Rg4.nrm])
          iterate 2 (refine Rg4.w4_any (Rg4.want_none rfl) rfl ?_; apply Exists.intro; refine ⟨fun w' => ?_, ?_⟩; (focus (first | (go_simp; done) | (go_simp; first | rfl | (rw [if_neg] <;> first | rfl | omega) | (rw [if_pos] <;> first | rfl | omega)))); (try simp only [Rg4.nrm]))
          (refine Rg4.w4_bar (Rg4.want_none rfl) rfl (fun w' hw' hcl' _ K hK => ?_); replace st := st.ext hw'; (refine owp_store rfl st ?_; apply Exists.intro; apply Exists.intro; refine ⟨?_, ?_, ?_⟩; (focus (go_simp; try rfl)); (focus (go_simp; try rfl)); (first | (with_reducible refine ⟨0, _, _, _, _, get0, rfl, rfl, ?_, ?_, ?_, ?_⟩) | (with_reducible refine ⟨1, _, _, _, _, get1, rfl, rfl, ?_, ?_, ?_, ?_⟩) | (with_reducible refine ⟨2, _, _, _, _, get2, rfl, rfl, ?_, ?_, ?_, ?_⟩) | (with_reducible refine ⟨3, _, _, _, _, get3, rfl, rfl, ?_, ?_, ?_, ?_⟩) | (with_reducible refine ⟨4, _, _, _, _, get4, rfl, rfl, ?_, ?_, ?_, ?_⟩) | (with_reducible refine ⟨5, _, _, _, _, get5, rfl, rfl, ?_, ?_, ?_, ?_⟩) | (with_reducible refine ⟨6, _, _, _, _, get6, rfl, rfl, ?_, ?_, ?_, ?_⟩)); (kernel_rfl); (simp [Value.cells]); (rfl); (clear st; intro w st); (try simp only [nsl, Value.cells, unB] at st); (try clear hc); have hc := st.facts; (try simp only [nfl, nft, Nat.reduceAdd] at hc)); refine hK _ _ ⟨trivial, ?_⟩; (try simp only [Rg4.nrm]))
          refine Rg4.w4_nil (fun w' hw' hcl' _ => ?_); replace st := st.ext hw'; clear hw' hcl'; (try clear hc); have hc := st.facts; (try simp only [nfl, nft, Nat.reduceAdd] at hc)
          go_wp2_with ((first
                | ((with_reducible refine wl_box ?_ (fun K hK => ?_)); rfl; refine owp_box (o := ⟨some 3, _, _, _, _, _⟩) rfl st ?_; apply Exists.intro; refine ⟨?_, ?_⟩; (focus (go_simp; try rfl)); (clear st; intro b3 w hb st; clear hb))
                | ((with_reducible refine wl_buildSlice ?_ (fun K hK => ?_)); rfl; refine owp_buildSlice (o := ⟨some 47, _, _, _, _, _⟩) rfl st ?_; apply Exists.intro; apply Exists.intro; apply Exists.intro; apply Exists.intro; refine ⟨?_, ?_⟩; (focus (go_simp; (first | done | exact ⟨⟨rfl, rfl⟩, rfl⟩ | rfl))); (clear st; intro b47 w hb st; clear hb))
                | ((with_reducible refine wl_store ?_ (fun K hK => ?_)); rfl; refine owp_store rfl st ?_; apply Exists.intro; apply Exists.intro; refine ⟨?_, ?_, ?_⟩; (focus (go_simp; try rfl)); (focus (go_simp; try rfl)); (first | (with_reducible refine ⟨0, _, _, _, _, get0, rfl, rfl, ?_, ?_, ?_, ?_⟩) | (with_reducible refine ⟨1, _, _, _, _, get1, rfl, rfl, ?_, ?_, ?_, ?_⟩) | (with_reducible refine ⟨2, _, _, _, _, get2, rfl, rfl, ?_, ?_, ?_, ?_⟩) | (with_reducible refine ⟨3, _, _, _, _, get3, rfl, rfl, ?_, ?_, ?_, ?_⟩) | (with_reducible refine ⟨4, _, _, _, _, get4, rfl, rfl, ?_, ?_, ?_, ?_⟩) | (with_reducible refine ⟨5, _, _, _, _, get5, rfl, rfl, ?_, ?_, ?_, ?_⟩) | (with_reducible refine ⟨6, _, _, _, _, get6, rfl, rfl, ?_, ?_, ?_, ?_⟩)); (kernel_rfl); (simp [Value.cells]); (rfl); (clear st; intro w st))); (try simp only [nsl, Value.cells, unB] at st); (try clear hc); have hc := st.facts; (try simp only [nfl, nft, Nat.reduceAdd] at hc))
          go_ret
          have st2 := st.keep [0, 1, 2, 3, 6] (by decide) (by simp)
          simp only [pick, List.map, List.getElem?_cons_zero, List.getElem?_cons_succ, Option.getD_some] at st2
          obtain ⟨⟨q1, q2⟩, q3⟩ := HQ.out
          have st3 := st2.share2 (i := 2) (i2 := 4) (I' := sgsI (ss.take p ++ s9 :: ss.drop p)) rfl rfl fun e s e2 s2 h1 h2 y hy => by
            rcases List.mem_append.1 hy with q | q
            · have := h1 y (List.mem_of_mem_take q)
              exact ⟨this.1, fun h0 ad ha => .inl (this.2 h0 ad ha)⟩
            · rcases List.mem_cons.1 q with rfl | q
              · exact ⟨⟨q3, h2.1⟩, fun h0 ad ha => .inr (h2.2 h0 ad ha)⟩
              · have := h1 y (List.mem_of_mem_drop q)
                exact ⟨this.1, fun h0 ad ha => .inl (this.2 h0 ad ha)⟩
          have st4 := st3.keep [0, 1, 5, 3] (by decide) (by simp)
          simp only [pick, List.map, List.cons_append, List.nil_append, List.getElem?_cons_zero, List.getElem?_cons_succ, Option.getD_some] at st4
          refine ⟨rfl, st4.vltShut ?_ ?_⟩
          · rw [List.map_append, List.map_cons, List.map_take, List.map_drop, HS.out]
            unfold hdOf
            rw [q1, q2]
          · have := HSN.out
            rw [List.length_append, List.length_cons, List.length_take, List.length_drop]; omega
    · rw [HG.out]
      simp only [Bool.true_and, decide_eq_false h8, if_true]
      clear HG
      have h8i : ((tn : Int) == 8) = false := by simp; omega
      have h8j : ¬ (tn : Int) = 8 := by omega
      go_enter Try.func7, Try.ntmps7
      go_wp2_with ((first
            | ((with_reducible refine wl_box ?_ (fun K hK => ?_)); rfl; refine owp_box (o := ⟨some 3, _, _, _, _, _⟩) rfl st ?_; apply Exists.intro; refine ⟨?_, ?_⟩; (focus (go_simp; try rfl)); (clear st; intro b3 w hb st; clear hb))
            | ((with_reducible refine wl_buildSlice ?_ (fun K hK => ?_)); rfl; refine owp_buildSlice (o := ⟨some 47, _, _, _, _, _⟩) rfl st ?_; apply Exists.intro; apply Exists.intro; apply Exists.intro; apply Exists.intro; refine ⟨?_, ?_⟩; (focus (go_simp; (first | done | exact ⟨⟨rfl, rfl⟩, rfl⟩ | rfl))); (clear st; intro b47 w hb st; clear hb))
            | ((with_reducible refine wl_store ?_ (fun K hK => ?_)); rfl; refine owp_store rfl st ?_; apply Exists.intro; apply Exists.intro; refine ⟨?_, ?_, ?_⟩; (focus (go_simp; try rfl)); (focus (go_simp; try rfl)); (first | (with_reducible refine ⟨0, _, _, _, _, get0, rfl, rfl, ?_, ?_, ?_, ?_⟩) | (with_reducible refine ⟨1, _, _, _, _, get1, rfl, rfl, ?_, ?_, ?_, ?_⟩) | (with_reducible refine ⟨2, _, _, _, _, get2, rfl, rfl, ?_, ?_, ?_, ?_⟩) | (with_reducible refine ⟨3, _, _, _, _, get3, rfl, rfl, ?_, ?_, ?_, ?_⟩) | (with_reducible refine ⟨4, _, _, _, _, get4, rfl, rfl, ?_, ?_, ?_, ?_⟩) | (with_reducible refine ⟨5, _, _, _, _, get5, rfl, rfl, ?_, ?_, ?_, ?_⟩) | (with_reducible refine ⟨6, _, _, _, _, get6, rfl, rfl, ?_, ?_, ?_, ?_⟩)); (kernel_rfl); (simp [Value.cells]); (rfl); (clear st; intro w st))); (try simp only [nsl, Value.cells, unB] at st); (try clear hc); have hc := st.facts; (try simp only [nfl, nft, Nat.reduceAdd] at hc))
      refine (HCR.out _).mono ?_
      rintro en w ⟨rfl, hx⟩
      replace st := st.ext hx
      clear hx
      (try clear hc); have hc := st.facts; (try simp only [nfl, nft, Nat.reduceAdd] at hc)
      go_wp2_with ((first
            | ((with_reducible refine wl_box ?_ (fun K hK => ?_)); rfl; refine owp_box (o := ⟨some 3, _, _, _, _, _⟩) rfl st ?_; apply Exists.intro; refine ⟨?_, ?_⟩; (focus (go_simp; try rfl)); (clear st; intro b3 w hb st; clear hb))
            | ((with_reducible refine wl_buildSlice ?_ (fun K hK => ?_)); rfl; refine owp_buildSlice (o := ⟨some 47, _, _, _, _, _⟩) rfl st ?_; apply Exists.intro; apply Exists.intro; apply Exists.intro; apply Exists.intro; refine ⟨?_, ?_⟩; (focus (go_simp; (first | done | exact ⟨⟨rfl, rfl⟩, rfl⟩ | rfl))); (clear st; intro b47 w hb st; clear hb))
            | ((with_reducible refine wl_store ?_ (fun K hK => ?_)); rfl; refine owp_store rfl st ?_; apply Exists.intro; apply Exists.intro; refine ⟨?_, ?_, ?_⟩; (focus (go_simp; try rfl)); (focus (go_simp; try rfl)); (first | (with_reducible refine ⟨0, _, _, _, _, get0, rfl, rfl, ?_, ?_, ?_, ?_⟩) | (with_reducible refine ⟨1, _, _, _, _, get1, rfl, rfl, ?_, ?_, ?_, ?_⟩) | (with_reducible refine ⟨2, _, _, _, _, get2, rfl, rfl, ?_, ?_, ?_, ?_⟩) | (with_reducible refine ⟨3, _, _, _, _, get3, rfl, rfl, ?_, ?_, ?_, ?_⟩) | (with_reducible refine ⟨4, _, _, _, _, get4, rfl, rfl, ?_, ?_, ?_, ?_⟩) | (with_reducible refine ⟨5, _, _, _, _, get5, rfl, rfl, ?_, ?_, ?_, ?_⟩) | (with_reducible refine ⟨6, _, _, _, _, get6, rfl, rfl, ?_, ?_, ?_, ?_⟩)); (kernel_rfl); (simp [Value.cells]); (rfl); (clear st; intro w st))); (try simp only [nsl, Value.cells, unB] at st); (try clear hc); have hc := st.facts; (try simp only [nfl, nft, Nat.reduceAdd] at hc))
      go_ret
      have st2 := st.keep [0, 1, 2, 3] (by decide) (by simp)
      simp only [pick, List.map, List.getElem?_cons_zero, List.getElem?_cons_succ, Option.getD_some] at st2
      exact ⟨rfl, st2.vltShut HS.out HSN.out.symm⟩
end
end Go.Proofs.Ythdbobnebpoolaa

namespace Go.Proofs.Ythdbobnebpoolaa
set_option linter.unusedSimpArgs false
set_option linter.unusedVariables false
open Go Go.RowKit
set_option maxRecDepth 100000 in
set_option maxHeartbeats 1000000 in
theorem vNew_no (r : Int) (W : World) (h : r < 0 ∨ 256 < r) : Calls Try.prog 5 #[.int .i64 r] W fun e w' => e = .returned (.tuple #[.pointer none, .int .i64 2]) ∧ Ext W w' := by
  have st := Own.startOld W
  by_cases h0 : r < 0
  · skip
    (try simp only [nsl, Value.cells, unB] at st)
    (try clear hc); have hc := st.facts; (try simp only [nfl, nft, Nat.reduceAdd] at hc)
    go_enter Try.func5, Try.ntmps5
    go_wp2_with fail
    go_ret2
    exact ⟨rfl, st.ext0⟩
  · have h1 : 256 < r := by omega
    (try simp only [nsl, Value.cells, unB] at st)
    (try clear hc); have hc := st.facts; (try simp only [nfl, nft, Nat.reduceAdd] at hc)
    go_enter Try.func5, Try.ntmps5
    go_wp2_with fail
    go_ret2
    exact ⟨rfl, st.ext0⟩
set_option maxRecDepth 100000 in
set_option maxHeartbeats 1000000 in
theorem vNew_c (room : Nat) (w : World) (h : room ≤ 256) : Calls Try.prog 5 #[.int .i64 (room : Int)] w fun e w' => ∃ b, e = .returned (.tuple #[.pointer (some ⟨b, 0, none⟩), .int .i64 0]) ∧ Own (fun _ => False) (fun _ => False) w [vltI b room []] w' := by
  have st := Own.start (fun _ => False) (fun _ => False) w
  have h0 : ¬ (room : Int) < 0 := by omega
  have h1 : ¬ 256 < (room : Int) := by omega
  have h2 : ¬ (room : Int) > 256 := by omega
  (try simp only [nsl, Value.cells, unB] at st)
  (try clear hc); have hc := st.facts; (try simp only [nfl, nft, Nat.reduceAdd] at hc)
  go_enter Try.func5, Try.ntmps5
  go_wp2_with ((((with_reducible refine wl_box ?_ (fun K hK => ?_)); rfl; refine owp_box (o := ⟨some 12, _, _, _, _, _⟩) rfl st ?_; apply Exists.intro; refine ⟨?_, ?_⟩; (focus (go_simp; try rfl)); (clear st; intro b12 w hb st; clear hb))); (try simp only [nsl, Value.cells, unB] at st); (try clear hc); have hc := st.facts; (try simp only [nfl, nft, Nat.reduceAdd] at hc))
  go_ret2
  have st2 := (st.row_nil 35 10).noSgs
  simp only [List.cons_append, List.nil_append] at st2
  exact ⟨_, rfl, st2.vltShut (ss := []) rfl rfl⟩
set_option maxRecDepth 100000 in
set_option maxHeartbeats 1000000 in
theorem vLen_nil (W : World) : Calls Try.prog 9 #[.pointer none] W fun e w' => e = .returned (.int .i64 0) ∧ Ext W w' := by
  have st := Own.startOld W
  (try simp only [nsl, Value.cells, unB] at st)
  (try clear hc); have hc := st.facts; (try simp only [nfl, nft, Nat.reduceAdd] at hc)
  go_enter Try.func9, Try.ntmps9
  go_wp2_with fail
  go_ret
  exact ⟨rfl, st.ext0⟩
set_option maxRecDepth 100000 in
set_option maxHeartbeats 1000000 in
theorem vRoom_nil (W : World) : Calls Try.prog 10 #[.pointer none] W fun e w' => e = .returned (.int .i64 0) ∧ Ext W w' := by
  have st := Own.startOld W
  (try simp only [nsl, Value.cells, unB] at st)
  (try clear hc); have hc := st.facts; (try simp only [nfl, nft, Nat.reduceAdd] at hc)
  go_enter Try.func10, Try.ntmps10
  go_wp2_with fail
  go_ret
  exact ⟨rfl, st.ext0⟩
set_option maxRecDepth 100000 in
set_option maxHeartbeats 1000000 in
theorem vDrop_nil (x : CredT) (W : World) : Calls Try.prog 8 #[.pointer none, cV x] W fun e w' => e = .returned (.int .i64 1) ∧ Ext W w' := by
  have st := Own.startOld W
  obtain ⟨xk, ⟨xo, xd⟩, xw, ⟨yo, yd⟩, ⟨zo, zd⟩, xe⟩ := x
  unfold cV S
  simp only
  (try simp only [nsl, Value.cells, unB] at st)
  (try clear hc); have hc := st.facts; (try simp only [nfl, nft, Nat.reduceAdd] at hc)
  go_enter Try.func8, Try.ntmps8
  go_wp2_with ((first
        | ((with_reducible refine wl_box ?_ (fun K hK => ?_)); rfl; refine owp_box (o := ⟨some 3, _, _, _, _, _⟩) rfl st ?_; apply Exists.intro; refine ⟨?_, ?_⟩; (focus (go_simp; try rfl)); (clear st; intro b3 w hb st; clear hb))
        | ((with_reducible refine wl_store ?_ (fun K hK => ?_)); rfl; refine owp_store rfl st ?_; apply Exists.intro; apply Exists.intro; refine ⟨?_, ?_, ?_⟩; (focus (go_simp; try rfl)); (focus (go_simp; try rfl)); (first | (with_reducible refine ⟨0, _, _, _, _, get0, rfl, rfl, ?_, ?_, ?_, ?_⟩) | (with_reducible refine ⟨1, _, _, _, _, get1, rfl, rfl, ?_, ?_, ?_, ?_⟩) | (with_reducible refine ⟨2, _, _, _, _, get2, rfl, rfl, ?_, ?_, ?_, ?_⟩) | (with_reducible refine ⟨3, _, _, _, _, get3, rfl, rfl, ?_, ?_, ?_, ?_⟩)); (kernel_rfl); (simp [Value.cells]); (rfl); (clear st; intro w st))); (try simp only [nsl, Value.cells, unB] at st); (try clear hc); have hc := st.facts; (try simp only [nfl, nft, Nat.reduceAdd] at hc))
  go_ret
  exact ⟨rfl, st.ext0⟩
set_option maxRecDepth 100000 in
set_option maxHeartbeats 1000000 in
theorem vAdd_nil (x : SgnT) (W : World) : Calls Try.prog 7 #[.pointer none, sgV x] W fun e w' => e = .returned (.int .i64 1) ∧ Ext W w' := by
  have st := Own.startOld W
  obtain ⟨⟨xk, ⟨xo, xd⟩, xw, ⟨yo, yd⟩, ⟨zo, zd⟩, xe⟩, ta, tn, tm, ts⟩ := x
  unfold sgV S
  simp only
  (try simp only [nsl, Value.cells, unB] at st)
  (try clear hc); have hc := st.facts; (try simp only [nfl, nft, Nat.reduceAdd] at hc)
  go_enter Try.func7, Try.ntmps7
  go_wp2_with ((first
        | ((with_reducible refine wl_box ?_ (fun K hK => ?_)); rfl; refine owp_box (o := ⟨some 3, _, _, _, _, _⟩) rfl st ?_; apply Exists.intro; refine ⟨?_, ?_⟩; (focus (go_simp; try rfl)); (clear st; intro b3 w hb st; clear hb))
        | ((with_reducible refine wl_buildSlice ?_ (fun K hK => ?_)); rfl; refine owp_buildSlice (o := ⟨some 47, _, _, _, _, _⟩) rfl st ?_; apply Exists.intro; apply Exists.intro; apply Exists.intro; apply Exists.intro; refine ⟨?_, ?_⟩; (focus (go_simp; (first | done | exact ⟨⟨rfl, rfl⟩, rfl⟩ | rfl))); (clear st; intro b47 w hb st; clear hb))
        | ((with_reducible refine wl_store ?_ (fun K hK => ?_)); rfl; refine owp_store rfl st ?_; apply Exists.intro; apply Exists.intro; refine ⟨?_, ?_, ?_⟩; (focus (go_simp; try rfl)); (focus (go_simp; try rfl)); (first | (with_reducible refine ⟨0, _, _, _, _, get0, rfl, rfl, ?_, ?_, ?_, ?_⟩) | (with_reducible refine ⟨1, _, _, _, _, get1, rfl, rfl, ?_, ?_, ?_, ?_⟩) | (with_reducible refine ⟨2, _, _, _, _, get2, rfl, rfl, ?_, ?_, ?_, ?_⟩) | (with_reducible refine ⟨3, _, _, _, _, get3, rfl, rfl, ?_, ?_, ?_, ?_⟩)); (kernel_rfl); (simp [Value.cells]); (rfl); (clear st; intro w st))); (try simp only [nsl, Value.cells, unB] at st); (try clear hc); have hc := st.facts; (try simp only [nfl, nft, Nat.reduceAdd] at hc))
  go_ret
  exact ⟨rfl, st.ext0⟩
set_option maxRecDepth 100000 in
set_option maxHeartbeats 1000000 in
theorem vGet_nil (x : CredT) (W : World) : Calls Try.prog 6 #[.pointer none, cV x] W fun e w' => e = .returned (.tuple #[sgV zSg, .bool false]) ∧ Ext W w' := by
  have st := Own.startOld W
  obtain ⟨xk, ⟨xo, xd⟩, xw, ⟨yo, yd⟩, ⟨zo, zd⟩, xe⟩ := x
  unfold cV S
  simp only
  (try simp only [nsl, Value.cells, unB] at st)
  (try clear hc); have hc := st.facts; (try simp only [nfl, nft, Nat.reduceAdd] at hc)
  go_enter Try.func6, Try.ntmps6
  go_wp2_with ((first
        | ((with_reducible refine wl_box ?_ (fun K hK => ?_)); rfl; refine owp_box (o := ⟨some 3, _, _, _, _, _⟩) rfl st ?_; apply Exists.intro; refine ⟨?_, ?_⟩; (focus (go_simp; try rfl)); (clear st; intro b3 w hb st; clear hb))
        | ((with_reducible refine wl_alloc ?_ (fun K hK => ?_)); rfl; refine owp_alloc (o := ⟨some 4, _, _, _, _, _⟩) rfl st ?_; apply Exists.intro; apply Exists.intro; refine ⟨?_, ?_⟩; (focus (first | (go_simp; done) | (go_simp; rfl))); (clear st; intro b4 w hb st; clear hb))
        | ((with_reducible refine wl_store ?_ (fun K hK => ?_)); rfl; refine owp_store rfl st ?_; apply Exists.intro; apply Exists.intro; refine ⟨?_, ?_, ?_⟩; (focus (go_simp; try rfl)); (focus (go_simp; try rfl)); (first | (with_reducible refine ⟨0, _, _, _, _, get0, rfl, rfl, ?_, ?_, ?_, ?_⟩) | (with_reducible refine ⟨1, _, _, _, _, get1, rfl, rfl, ?_, ?_, ?_, ?_⟩) | (with_reducible refine ⟨2, _, _, _, _, get2, rfl, rfl, ?_, ?_, ?_, ?_⟩) | (with_reducible refine ⟨3, _, _, _, _, get3, rfl, rfl, ?_, ?_, ?_, ?_⟩)); (kernel_rfl); (simp [Value.cells]); (rfl); (clear st; intro w st))); (try simp only [nsl, Value.cells, unB] at st); (try clear hc); have hc := st.facts; (try simp only [nfl, nft, Nat.reduceAdd] at hc))
  (try simp only [Exit.inBlock, Exit.then])
  refine bodyPost_cell2 rfl rfl (st.blk (i := 2) get2) Try.underlying35 rfl (by kernel_rfl) rfl ?_
  exact ⟨rfl, st.ext0⟩
end Go.Proofs.Ythdbobnebpoolaa

namespace Go.Proofs.Ythdbobnebpoolaa
set_option linter.unusedSimpArgs false
set_option linter.unusedVariables false
open Go Go.RowKit
theorem wp_region_cut3 {P : Program} {id : Nat} {Q : Exit → Act → World → Prop} {a : Act} {w : World} {o1 o2 o3 : Oper} {rest : List Oper} (hd : [o1, o2, o3].all noDefer = true) (ho : ¬ LetsOut Q) (h : wpList P (o1 :: o2 :: o3 :: rest).toArray (Exit.then (fun a w => wpListIn (wfc none) 0 P (o1 :: o2 :: o3 :: rest).toArray Q rest a w) Q) [o1, o2, o3] a w) : (Code.region id (o1 :: o2 :: o3 :: rest).toArray false).wp P Q a w :=
  wp_region_cut (ops := o1 :: o2 :: o3 :: rest) 3 hd ho h
theorem wpListIn_of {P : Program} {l : Option Nat} {n : Nat} {ops : Array Oper} {Q : Exit → Act → World → Prop} {rest : List Oper} {a : Act} {w : World} (hd : rest.all noDefer = true) (ho : ¬ LetsOut Q) (h : wpList P ops Q rest a w) : wpListIn (wfc l) n P ops Q rest a w := by
  have := listIn_of_wp (l := l) (n := n) (ops := ops) (Q := Q) (Q' := Q) (rest := []) (fun _ _ _ q => q) ho (fun a w q => wpListIn_nil q) rest a w hd h
  rwa [List.append_nil] at this
section
variable {fr al : Nat → Prop} {w0 w : World}
set_option maxRecDepth 100000 in
set_option maxHeartbeats 4000000 in
theorem all1_c {v room bx : Nat} {l : List Hd} (yv : Value) (J : List SgnT → List It)
    (hY : ∀ (pre : List SgnT) (x : SgnT) (fr al : Nat → Prop) (W : World), pre.length < l.length → l[pre.length]? = some (hdOf x) → pre.map hdOf = l.take pre.length → (x.n ≤ x.m ∧ x.m ≤ maxLen) → Own fr al W [bunI (J pre), byI x.a x.n x.xs] W → YOk Try.prog yv (sgV x) W fun W' => Own fr al W [bunI (J (pre ++ [x])), byI x.a x.n x.xs] W')
    (st : Own fr al w0 [vltI v room l, bunI (J []), blkI bx [.pointer (some ⟨v, 0, none⟩)]] w) (hn : l.length ≤ 1000000) (ht : ∀ x ∈ l, x.2.length ≤ 8) :
    Calls Try.prog 41 #[yv, .pointer (some ⟨bx, 0, none⟩)] w fun e w' => (∃ v, e = .returned v) ∧ ∃ xs : List SgnT, xs.map hdOf = l ∧ Own fr al w0 [vltI v room l, bunI (J xs), blkI bx [.pointer (some ⟨v, 0, none⟩)]] w' := by
  obtain ⟨va, c, ss, hss, st⟩ := st.vltOpen
  obtain ⟨n, hsn⟩ : ∃ n, ss.length = n := ⟨_, rfl⟩
  rw [hsn] at st
  have hnl : n = l.length := by rw [← hsn]; exact hd_len hss
  have hn' : n ≤ 1000000 := by omega
  have HY := Lib.hid hY
  have HS := Lib.hid hss
  have HSN := Lib.hid hsn
  have HNL := Lib.hid hnl
  have HTL := Lib.hid ht
  clear hss hsn hn hnl hY ht
  (try simp only [nsl, Value.cells, unB] at st)
  (try clear hc); have hc := st.facts; (try simp only [nfl, nft, Nat.reduceAdd] at hc)
  go_enter Try.func41, Try.ntmps41
  go_wp2_with fail
  refine (sgnClone_any va n c ss _ (rowFl' (α := SgnT) st (i := 1) get1).2 hn').mono ?_
  rintro e w1 ⟨va2, vc2, rfl, hf⟩
  replace st := st.fresh hf
  clear hf
  simp only [List.cons_append, List.nil_append] at st
  (try simp only [nsl, Value.cells, unB] at st)
  (try clear hc); have hc := st.facts; (try simp only [nfl, nft, Nat.reduceAdd] at hc)
  go_wp2_with fail
  go_loopg [13] n (fun q vi wr => ∃ (k : Nat) (pre : List SgnT), q = n - k ∧ vi = .int .i64 (k : Int) ∧ k ≤ n ∧ Hid (pre.length = k ∧ pre.map hdOf = l.take k) ∧ Own fr al w0 [blkI v [.slice va n c, .int .i64 (room : Int)], rowI 35 10 (.slice va n c) n (cellsL ss), sgsI ss, bunI (J pre), blkI bx [.pointer (some ⟨v, 0, none⟩)], rowI 35 10 (.slice va2 n vc2) n (cellsL ss)] wr)
  case atStart => exact ⟨0, [], by omega, rfl, by omega, Lib.hid ⟨rfl, by simp⟩, st⟩
  case round =>
    obtain ⟨k, pre, rfl, rfl, hk, HP, st'⟩ := hrel
    clear st hc
    have st := st'
    clear st'
    by_cases hlt : k < n
    · have hin : (k : Int) < (n : Int) := by omega
      have hps : k < ss.length := by have := HSN.out; omega
      have hgs : ss[k]? = some ss[k] := List.getElem?_eq_getElem hps
      have hmem : ss[k] ∈ ss := List.getElem_mem hps
      have HLK : Hid (l[k]? = some (hdOf ss[k])) := Lib.hid (by rw [← HS.out, List.getElem?_map, hgs]; rfl)
      generalize ss[k] = y at hgs hmem HLK
      clear hps
      have HSO := Lib.hid ((st.sgsAt (i := 2) get2) y hmem)
      have HTN : Hid (y.n ≤ 8) := Lib.hid (by
        have h2 := HSO.out.2.1
        have h1 := HTL.out (hdOf y) (by rw [← HS.out]; exact List.mem_map_of_mem hmem)
        rw [h2]; exact h1)
      obtain ⟨b2, rfl⟩ : ∃ b, va2 = some ⟨b, 0, none⟩ := by
        rcases (st.row (i := 5) get5).2 with ⟨h5, h6⟩ | ⟨g', cap, cur, hv, _⟩
        · cases h5; omega
        · cases hv; exact ⟨_, rfl⟩
      replace st := st.sgBy (i := 2) get2 hmem
      obtain ⟨b', off', ha, hcell⟩ := (rowFl' (α := SgnT) st (i := 5) get5).2.sgn (by omega)
      injection ha with ha
      injection ha with h1 h2
      subst h1 h2
      obtain ⟨r0, r1, r2, r3, r4, r5, r6, r7, r8, r9⟩ := hcell k _ hgs
      simp only [Nat.zero_add, S] at r0 r1 r2 r3 r4 r5 r6 r7 r8 r9
      clear hcell hmem hgs
      obtain ⟨⟨ck, ⟨ho, hd⟩, cw, ⟨bo, bd⟩, ⟨co, cd⟩, we⟩, ta, tn, tm, ts⟩ := y
      simp only at r0 r1 r2 r3 r4 r5 r6 r7 r8 r9
      (try simp only [nsl, Value.cells, unB] at st)
      (try clear hc); have hc := st.facts; (try simp only [nfl, nft, Nat.reduceAdd] at hc)
      generalize hR4 : Code.region 4 _ false = R4
      go_wp2_with ((first
            | ((with_reducible refine wl_alloc ?_ (fun K hK => ?_)); rfl; refine owp_alloc (o := ⟨some 4, _, _, _, _, _⟩) rfl st ?_; apply Exists.intro; apply Exists.intro; refine ⟨?_, ?_⟩; (focus (first | (go_simp; done) | (go_simp; rfl))); (clear st; intro b4 w hb st; clear hb))
            | ((with_reducible refine wl_store ?_ (fun K hK => ?_)); rfl; refine owp_store rfl st ?_; apply Exists.intro; apply Exists.intro; refine ⟨?_, ?_, ?_⟩; (focus (go_simp; try rfl)); (focus (go_simp; try rfl)); (first | (with_reducible refine ⟨0, _, _, _, _, get0, rfl, rfl, ?_, ?_, ?_, ?_⟩) | (with_reducible refine ⟨1, _, _, _, _, get1, rfl, rfl, ?_, ?_, ?_, ?_⟩) | (with_reducible refine ⟨2, _, _, _, _, get2, rfl, rfl, ?_, ?_, ?_, ?_⟩) | (with_reducible refine ⟨3, _, _, _, _, get3, rfl, rfl, ?_, ?_, ?_, ?_⟩) | (with_reducible refine ⟨4, _, _, _, _, get4, rfl, rfl, ?_, ?_, ?_, ?_⟩) | (with_reducible refine ⟨5, _, _, _, _, get5, rfl, rfl, ?_, ?_, ?_, ?_⟩) | (with_reducible refine ⟨6, _, _, _, _, get6, rfl, rfl, ?_, ?_, ?_, ?_⟩) | (with_reducible refine ⟨7, _, _, _, _, get7, rfl, rfl, ?_, ?_, ?_, ?_⟩)); (kernel_rfl); (simp [Value.cells]); (rfl); (clear st; intro w st))); (try simp only [nsl, Value.cells, unB] at st); (try clear hc); have hc := st.facts; (try simp only [nfl, nft, Nat.reduceAdd] at hc))
      rw [← hR4]
      refine wp_region_cut3 rfl ?_ ?_
      · rintro ⟨_, _, ⟨⟨_, hv⟩, _⟩⟩; cases hv
      clear hR4
      go_wp2_with ((first
            | ((with_reducible refine wl_alloc ?_ (fun K hK => ?_)); rfl; refine owp_alloc (o := ⟨some 4, _, _, _, _, _⟩) rfl st ?_; apply Exists.intro; apply Exists.intro; refine ⟨?_, ?_⟩; (focus (first | (go_simp; done) | (go_simp; rfl))); (clear st; intro b4 w hb st; clear hb))
            | ((with_reducible refine wl_store ?_ (fun K hK => ?_)); rfl; refine owp_store rfl st ?_; apply Exists.intro; apply Exists.intro; refine ⟨?_, ?_, ?_⟩; (focus (go_simp; try rfl)); (focus (go_simp; try rfl)); (first | (with_reducible refine ⟨0, _, _, _, _, get0, rfl, rfl, ?_, ?_, ?_, ?_⟩) | (with_reducible refine ⟨1, _, _, _, _, get1, rfl, rfl, ?_, ?_, ?_, ?_⟩) | (with_reducible refine ⟨2, _, _, _, _, get2, rfl, rfl, ?_, ?_, ?_, ?_⟩) | (with_reducible refine ⟨3, _, _, _, _, get3, rfl, rfl, ?_, ?_, ?_, ?_⟩) | (with_reducible refine ⟨4, _, _, _, _, get4, rfl, rfl, ?_, ?_, ?_, ?_⟩) | (with_reducible refine ⟨5, _, _, _, _, get5, rfl, rfl, ?_, ?_, ?_, ?_⟩) | (with_reducible refine ⟨6, _, _, _, _, get6, rfl, rfl, ?_, ?_, ?_, ?_⟩) | (with_reducible refine ⟨7, _, _, _, _, get7, rfl, rfl, ?_, ?_, ?_, ?_⟩)); (kernel_rfl); (simp [Value.cells]); (rfl); (clear st; intro w st))); (try simp only [nsl, Value.cells, unB] at st); (try clear hc); have hc := st.facts; (try simp only [nfl, nft, Nat.reduceAdd] at hc))
      obtain ⟨fr', al', st', back⟩ := st.sub [6] (by decide) (by simp)
      (try simp only [nsl, Value.cells, unB] at st')
      refine (copied_c ⟨⟨ck, (ho, hd), cw, (bo, bd), (co, cd), we⟩, ta, tn, tm, ts⟩ st' HSO.out.1 (Nat.le_trans HTN.out (by decide))).mono ?_
      clear st'
      rintro en w ⟨sx, rfl, ⟨hq1, hq2, hq3⟩, hq4, st'⟩
      replace st := back _ _ (by simp) st'
      clear back st'
      (try simp only [nsl, Value.cells, unB] at st)
      (try clear hc); have hc := st.facts; (try simp only [nfl, nft, Nat.reduceAdd] at hc)
      have HSX : Hid (l[k]? = some (hdOf sx)) := Lib.hid (by rw [HLK.out]; unfold hdOf; rw [hq1, hq2])
      have HQ := Lib.hid hq4
      clear hq1 hq2 hq3 hq4 HLK
      go_wp2_with fail
      refine wpListIn_plain rfl (fun K hK => ?_)
      obtain ⟨fr', al', st2, back⟩ := st.sub [3, 8] (by decide) (by simp)
      simp only [pick, List.map, List.getElem?_cons_zero, List.getElem?_cons_succ, Option.getD_some] at st2
      refine HY.out pre sx fr' al' _ (by rw [HP.out.1, ← HNL.out]; exact hlt) (by rw [HP.out.1]; exact HSX.out) (by rw [HP.out.1]; exact HP.out.2) HQ.out st2 _ (.tmp 17) (.tmp 19) _ _ _ _ rfl rfl rfl (fun w2 stq => ?_)
      replace st := back _ _ (by simp) stq
      clear back st2 stq
      apply hK
      clear hK
      (try simp only [nsl, Value.cells, unB] at st)
      (try clear hc); have hc := st.facts; (try simp only [nfl, nft, Nat.reduceAdd] at hc)
      refine wpListIn_of rfl ?_ ?_
      · rintro ⟨_, _, ⟨⟨_, hv⟩, _⟩⟩; cases hv
      go_wp2_with ((first
            | ((with_reducible refine wl_alloc ?_ (fun K hK => ?_)); rfl; refine owp_alloc (o := ⟨some 4, _, _, _, _, _⟩) rfl st ?_; apply Exists.intro; apply Exists.intro; refine ⟨?_, ?_⟩; (focus (first | (go_simp; done) | (go_simp; rfl))); (clear st; intro b4 w hb st; clear hb))
            | ((with_reducible refine wl_store ?_ (fun K hK => ?_)); rfl; refine owp_store rfl st ?_; apply Exists.intro; apply Exists.intro; refine ⟨?_, ?_, ?_⟩; (focus (go_simp; try rfl)); (focus (go_simp; try rfl)); (first | (with_reducible refine ⟨0, _, _, _, _, get0, rfl, rfl, ?_, ?_, ?_, ?_⟩) | (with_reducible refine ⟨1, _, _, _, _, get1, rfl, rfl, ?_, ?_, ?_, ?_⟩) | (with_reducible refine ⟨2, _, _, _, _, get2, rfl, rfl, ?_, ?_, ?_, ?_⟩) | (with_reducible refine ⟨3, _, _, _, _, get3, rfl, rfl, ?_, ?_, ?_, ?_⟩) | (with_reducible refine ⟨4, _, _, _, _, get4, rfl, rfl, ?_, ?_, ?_, ?_⟩) | (with_reducible refine ⟨5, _, _, _, _, get5, rfl, rfl, ?_, ?_, ?_, ?_⟩) | (with_reducible refine ⟨6, _, _, _, _, get6, rfl, rfl, ?_, ?_, ?_, ?_⟩) | (with_reducible refine ⟨7, _, _, _, _, get7, rfl, rfl, ?_, ?_, ?_, ?_⟩)); (kernel_rfl); (simp [Value.cells]); (rfl); (clear st; intro w st))); (try simp only [nsl, Value.cells, unB] at st); (try clear hc); have hc := st.facts; (try simp only [nfl, nft, Nat.reduceAdd] at hc))
      have st2 := st.keep [0, 1, 2, 3, 4, 5] (by decide) (by simp)
      go_roundg (n - (k + 1))
      case measure => omega
      case rel => exact ⟨k + 1, pre ++ [sx], rfl, by go_num, by omega, Lib.hid ⟨by rw [List.length_append, HP.out.1]; rfl, by rw [List.map_append, HP.out.2, List.map_cons, List.map_nil, List.take_add_one, HSX.out]; rfl⟩, by simpa [pick] using st2⟩
    · have hin : ¬ (k : Int) < (n : Int) := by omega
      obtain rfl : k = n := by omega
      go_wp2_with fail
      go_end0
      have st2 := st.keep [0, 1, 2, 3, 4] (by decide) (by simp)
      simp only [pick, List.map, List.getElem?_cons_zero, List.getElem?_cons_succ, Option.getD_some] at st2
      exact ⟨⟨_, rfl⟩, pre, by rw [HP.out.2, HNL.out, List.take_length], st2.vltShut HS.out HSN.out.symm⟩
end
end Go.Proofs.Ythdbobnebpoolaa

namespace Go.Proofs.Ythdbobnebpoolaa
set_option linter.unusedSimpArgs false
set_option linter.unusedVariables false
open Go Go.RowKit
def zC : CredT := ⟨0, ([], []), [], ([], []), ([], []), []⟩
theorem cred_cells (x : CredT) : Flt.cells x = [.int .i64 x.k, .string ⟨x.h.1.toArray⟩, .string ⟨x.h.2.toArray⟩, .string ⟨x.w.toArray⟩, .string ⟨x.b.1.toArray⟩, .string ⟨x.b.2.toArray⟩, .string ⟨x.c.1.toArray⟩, .string ⟨x.c.2.toArray⟩, .string ⟨x.e.toArray⟩] := rfl
theorem credInfo : ∃ i, Try.prog.info? 32 = some i ∧ i.zero = some (cV zC) ∧ i.size = 9 ∧ i.bytes = 136 := info_parts (by kernel_rfl)
end Go.Proofs.Ythdbobnebpoolaa

namespace Go.Proofs.Ythdbobnebpoolaa
set_option linter.unusedSimpArgs false
set_option linter.unusedVariables false
open Go Go.RowKit
section
variable {fr al : Nat → Prop} {w0 w : World}
set_option maxRecDepth 100000 in
set_option maxHeartbeats 1000000 in
theorem all_c (pv : Option Addr) (w : World) : Calls Try.prog 25 #[.pointer pv] w fun e w' => ∃ bx, e = .returned (.func (.func 41) #[] #[.pointer (some ⟨bx, 0, none⟩)]) ∧ Own (fun _ => False) (fun _ => False) w [blkI bx [.pointer pv]] w' := by
  have st := Own.start (fun _ => False) (fun _ => False) w
  (try simp only [nsl, Value.cells, unB] at st)
  (try clear hc); have hc := st.facts; (try simp only [nfl, nft, Nat.reduceAdd] at hc)
  go_enter Try.func25, Try.ntmps25
  go_wp2_with ((((with_reducible refine wl_box ?_ (fun K hK => ?_)); rfl; refine owp_box (o := ⟨some 1, _, _, _, _, _⟩) rfl st ?_; apply Exists.intro; refine ⟨?_, ?_⟩; (focus (go_simp; try rfl)); (clear st; intro b1 w hb st; clear hb))); (try simp only [nsl, Value.cells, unB] at st); (try clear hc); have hc := st.facts; (try simp only [nfl, nft, Nat.reduceAdd] at hc))
  go_ret
  exact ⟨_, rfl, st⟩
set_option maxRecDepth 100000 in
set_option maxHeartbeats 1000000 in
theorem all1_nil {bx : Nat} (yv : Value) (st : Own fr al w0 [blkI bx [.pointer none]] w) :
    Calls Try.prog 41 #[yv, .pointer (some ⟨bx, 0, none⟩)] w fun e w' => (∃ v, e = .returned v) ∧ Own fr al w0 [blkI bx [.pointer none]] w' := by
  (try simp only [nsl, Value.cells, unB] at st)
  (try clear hc); have hc := st.facts; (try simp only [nfl, nft, Nat.reduceAdd] at hc)
  go_enter Try.func41, Try.ntmps41
  go_wp2_with fail
  refine bodyPost_ret (results_none rfl _ _ _) rfl ?_
  exact ⟨⟨_, rfl⟩, st⟩
theorem zip_put1 (i : Tmp) (v : Value) (T : Array Value) : (#[i].zip #[v]).foldl (fun t (p : Tmp × Value) => t.setIfInBounds p.1 p.2) T = T.setIfInBounds i v := by
  have h : (#[i].zip #[v] : Array (Tmp × Value)) = #[(i, v)] := by simp [Array.zip]
  rw [h]
  simp
theorem yieldAt_1 {P : Program} {lo : Nat} {r : Loop} {A B : Code} {T : Array Value} {i : Tmp} {v : Value} {w : World} {R : World → Prop} (hl : w.heap[lo]? = some (.loop r)) (hA : A = r.assign) (hB : B = r.body) (hT : T = r.tmps) (hP : #[i] = r.params) (hS : .ready = r.state) (hE : none = r.pending)
    (h : A.wpIn (wfc (some lo)) 0 P (Exit.then (fun a1 w1 => w1.heap[lo]? = some (.loop r) ∧ B.wpIn (wfc (some lo)) 0 P (fun e _ w2 => e = .normal ∧ w2.heap[lo]? = some (.loop { r with state := .busy }) ∧ R (w2.putObj lo (.loop r))) a1 (w1.putObj lo (.loop { r with state := .busy }))) (fun _ _ _ => False))
      { tmps := T.setIfInBounds i v, defers := [] } w) :
    YieldAt Fence.wide 0 P lo #[v] w fun e W' => e = .returned (.bool true) ∧ R W' := by
  subst hA hB hT
  refine yieldAt_c hl hS.symm hE.symm (by rw [← hP]; rfl) ?_
  have e : (r.params.zip #[v]).foldl (fun t (p : Tmp × Value) => t.setIfInBounds p.1 p.2) r.tmps = r.tmps.setIfInBounds i v := by rw [← hP]; exact zip_put1 i v r.tmps
  rw [e]
  exact h
/-- What a range of which holds, when pre has come. -/
def whJ (p : CredT → Bool) (C : It) (isv : Value) (b3 b5 D lo : Nat) (rec : Loop) (pre : List SgnT) : List It :=
  [exI fun q : Option Addr × Nat => bunI [C, blkI b3 [isv], blkI b5 [.slice q.1 ((pre.map SgnT.c).filter p).length q.2], rowI 32 9 (.slice q.1 ((pre.map SgnT.c).filter p).length q.2) ((pre.map SgnT.c).filter p).length (cellsL ((pre.map SgnT.c).filter p)), objI D (.deferred (some [])), objI lo (.loop rec)]]
theorem whJ_open {p : CredT → Bool} {C : It} {isv : Value} {b3 b5 D lo : Nat} {rec : Loop} {pre : List SgnT} {M : List It} (st : Own fr al w0 (bunI (whJ p C isv b3 b5 D lo rec pre) :: M) w) : ∃ oa oc m outs, outs = (pre.map SgnT.c).filter p ∧ m = outs.length ∧ Own fr al w0 ([C, blkI b3 [isv], blkI b5 [.slice oa m oc], rowI 32 9 (.slice oa m oc) m (cellsL outs), objI D (.deferred (some [])), objI lo (.loop rec)] ++ M) w := by
  obtain ⟨⟨oa, oc⟩, st2⟩ := st.unfoldB.unex (i := 0) get0
  exact ⟨oa, oc, _, _, rfl, rfl, st2.unfoldB⟩
theorem whJ_shut {p : CredT → Bool} {C : It} {isv : Value} {b3 b5 D lo m : Nat} {rec : Loop} {pre : List SgnT} {M : List It} {oa : Option Addr} {oc : Nat} {outs : List CredT} (st : Own fr al w0 ([C, blkI b3 [isv], blkI b5 [.slice oa m oc], rowI 32 9 (.slice oa m oc) m (cellsL outs), objI D (.deferred (some [])), objI lo (.loop rec)] ++ M) w) (h1 : outs = (pre.map SgnT.c).filter p) (h2 : m = outs.length) : Own fr al w0 (bunI (whJ p C isv b3 b5 D lo rec pre) :: M) w := by
  subst h2 h1
  have st2 := Own.fold _ st
  have st3 := st2.ex (i := 0) (F := fun q : Option Addr × Nat => bunI [C, blkI b3 [isv], blkI b5 [.slice q.1 ((pre.map SgnT.c).filter p).length q.2], rowI 32 9 (.slice q.1 ((pre.map SgnT.c).filter p).length q.2) ((pre.map SgnT.c).filter p).length (cellsL ((pre.map SgnT.c).filter p)), objI D (.deferred (some [])), objI lo (.loop rec)]) (oa, oc) get0
  exact Own.fold [_] st3
set_option maxRecDepth 100000 in
set_option maxHeartbeats 4000000 in
theorem which_c {v room F : Nat} {lb : Array Value} {l : List Hd} (C : It) (p : CredT → Bool) (eg : ∀ args w, (callFunc F args).run Try.prog w = .ok (.enter F args) w)
    (hIs : ∀ (c : CredT) (fr al : Nat → Prop) (W : World), (∃ t, (c, t) ∈ l) → Own fr al W [C] W → Calls Try.prog F (#[cV c] ++ lb) W fun e W' => e = .returned (.bool (p c)) ∧ Own fr al W [C] W')
    (st : Own fr al w0 [vltI v room l, C] w) (hn : l.length ≤ 1000000) (ht : ∀ x ∈ l, x.2.length ≤ 8) :
    Calls Try.prog 32 #[.pointer (some ⟨v, 0, none⟩), .func (.func F) #[] lb] w fun e w' => ∃ oa oc, e = .returned (.slice oa (whichV p l).length oc) ∧ Own fr al w0 [vltI v room l, C, rowI 32 9 (.slice oa (whichV p l).length oc) (whichV p l).length (cellsL (whichV p l))] w' := by
  have HIS := Lib.hid hIs
  have HEG := Lib.hid eg
  have HT := Lib.hid ht
  have HN := Lib.hid hn
  clear hIs eg ht hn
  (try simp only [nsl, Value.cells, unB] at st)
  (try clear hc); have hc := st.facts; (try simp only [nfl, nft, Nat.reduceAdd] at hc)
  refine calls_of_wp_marks Try.func32 rfl ?_
  simp only [Try.ntmps32, List.size_toArray, List.length_cons, List.length_nil, Nat.reduceAdd, Nat.reduceSub, Array.replicate_succ, Array.replicate_zero, List.push_toArray, List.append_toArray, List.nil_append, List.cons_append]
  go_wp2_with ((first
        | ((with_reducible refine wl_box ?_ (fun K hK => ?_)); rfl; refine owp_box (o := ⟨some 3, _, _, _, _, _⟩) rfl st ?_; apply Exists.intro; refine ⟨?_, ?_⟩; (focus (go_simp; try rfl)); (clear st; intro b3 w hb st; clear hb))
        | ((with_reducible refine wl_alloc ?_ (fun K hK => ?_)); rfl; refine owp_alloc (o := ⟨some 5, _, _, _, _, _⟩) rfl st ?_; apply Exists.intro; apply Exists.intro; refine ⟨?_, ?_⟩; (focus (first | (go_simp; done) | (go_simp; rfl))); (clear st; intro b5 w hb st; clear hb))
        | ((with_reducible refine wl_alloc ?_ (fun K hK => ?_)); rfl; refine owp_alloc (o := ⟨some 6, _, _, _, _, _⟩) rfl st ?_; apply Exists.intro; apply Exists.intro; refine ⟨?_, ?_⟩; (focus (first | (go_simp; done) | (go_simp; rfl))); (clear st; intro b6 w hb st; clear hb))
        | ((with_reducible refine wl_store ?_ (fun K hK => ?_)); rfl; refine owp_store rfl st ?_; apply Exists.intro; apply Exists.intro; refine ⟨?_, ?_, ?_⟩; (focus (go_simp; try rfl)); (focus (go_simp; try rfl)); (first | (with_reducible refine ⟨0, _, _, _, _, get0, rfl, rfl, ?_, ?_, ?_, ?_⟩) | (with_reducible refine ⟨1, _, _, _, _, get1, rfl, rfl, ?_, ?_, ?_, ?_⟩) | (with_reducible refine ⟨2, _, _, _, _, get2, rfl, rfl, ?_, ?_, ?_, ?_⟩) | (with_reducible refine ⟨3, _, _, _, _, get3, rfl, rfl, ?_, ?_, ?_, ?_⟩) | (with_reducible refine ⟨4, _, _, _, _, get4, rfl, rfl, ?_, ?_, ?_, ?_⟩) | (with_reducible refine ⟨5, _, _, _, _, get5, rfl, rfl, ?_, ?_, ?_, ?_⟩) | (with_reducible refine ⟨6, _, _, _, _, get6, rfl, rfl, ?_, ?_, ?_, ?_⟩) | (with_reducible refine ⟨7, _, _, _, _, get7, rfl, rfl, ?_, ?_, ?_, ?_⟩)); (kernel_rfl); (simp [Value.cells]); (rfl); (clear st; intro w st))
        | ((with_reducible refine wl_buildSlice ?_ (fun K hK => ?_)); rfl; refine owp_buildSlice (o := ⟨some 17, _, _, _, _, _⟩) rfl st ?_; apply Exists.intro; apply Exists.intro; apply Exists.intro; apply Exists.intro; refine ⟨?_, ?_⟩; (focus (go_simp; (first | done | exact ⟨⟨rfl, rfl⟩, rfl⟩ | rfl))); (clear st; intro b17 w hb st; clear hb))); (try simp only [nsl, Value.cells, unB] at st); (try clear hc); have hc := st.facts; (try simp only [nfl, nft, Nat.reduceAdd] at hc))
  refine (all_c _ _).mono ?_
  rintro e w1 ⟨bx, rfl, hf⟩
  replace st := st.join hf
  clear hf
  simp only [List.cons_append, List.nil_append] at st
  (try simp only [nsl, Value.cells, unB] at st)
  (try clear hc); have hc := st.facts; (try simp only [nfl, nft, Nat.reduceAdd] at hc)
  go_wp2_with ((first
        | ((with_reducible refine wl_box ?_ (fun K hK => ?_)); rfl; refine owp_box (o := ⟨some 3, _, _, _, _, _⟩) rfl st ?_; apply Exists.intro; refine ⟨?_, ?_⟩; (focus (go_simp; try rfl)); (clear st; intro b3 w hb st; clear hb))
        | ((with_reducible refine wl_alloc ?_ (fun K hK => ?_)); rfl; refine owp_alloc (o := ⟨some 5, _, _, _, _, _⟩) rfl st ?_; apply Exists.intro; apply Exists.intro; refine ⟨?_, ?_⟩; (focus (first | (go_simp; done) | (go_simp; rfl))); (clear st; intro b5 w hb st; clear hb))
        | ((with_reducible refine wl_alloc ?_ (fun K hK => ?_)); rfl; refine owp_alloc (o := ⟨some 6, _, _, _, _, _⟩) rfl st ?_; apply Exists.intro; apply Exists.intro; refine ⟨?_, ?_⟩; (focus (first | (go_simp; done) | (go_simp; rfl))); (clear st; intro b6 w hb st; clear hb))
        | ((with_reducible refine wl_store ?_ (fun K hK => ?_)); rfl; refine owp_store rfl st ?_; apply Exists.intro; apply Exists.intro; refine ⟨?_, ?_, ?_⟩; (focus (go_simp; try rfl)); (focus (go_simp; try rfl)); (first | (with_reducible refine ⟨0, _, _, _, _, get0, rfl, rfl, ?_, ?_, ?_, ?_⟩) | (with_reducible refine ⟨1, _, _, _, _, get1, rfl, rfl, ?_, ?_, ?_, ?_⟩) | (with_reducible refine ⟨2, _, _, _, _, get2, rfl, rfl, ?_, ?_, ?_, ?_⟩) | (with_reducible refine ⟨3, _, _, _, _, get3, rfl, rfl, ?_, ?_, ?_, ?_⟩) | (with_reducible refine ⟨4, _, _, _, _, get4, rfl, rfl, ?_, ?_, ?_, ?_⟩) | (with_reducible refine ⟨5, _, _, _, _, get5, rfl, rfl, ?_, ?_, ?_, ?_⟩) | (with_reducible refine ⟨6, _, _, _, _, get6, rfl, rfl, ?_, ?_, ?_, ?_⟩) | (with_reducible refine ⟨7, _, _, _, _, get7, rfl, rfl, ?_, ?_, ?_, ?_⟩)); (kernel_rfl); (simp [Value.cells]); (rfl); (clear st; intro w st))
        | ((with_reducible refine wl_buildSlice ?_ (fun K hK => ?_)); rfl; refine owp_buildSlice (o := ⟨some 17, _, _, _, _, _⟩) rfl st ?_; apply Exists.intro; apply Exists.intro; apply Exists.intro; apply Exists.intro; refine ⟨?_, ?_⟩; (focus (go_simp; (first | done | exact ⟨⟨rfl, rfl⟩, rfl⟩ | rfl))); (clear st; intro b17 w hb st; clear hb))); (try simp only [nsl, Value.cells, unB] at st); (try clear hc); have hc := st.facts; (try simp only [nfl, nft, Nat.reduceAdd] at hc))
  clear hc
  refine wp_rangeFunc_c rfl (enters_of Try.func41 (by kernel_rfl) rfl) ?_
  intro fn
  generalize hrec : ({ state := .ready, pending := none, fn := fn, tmps := _, params := _, assign := _, body := _, defers := _ } : Loop) = rec
  have hA := congrArg Loop.assign hrec
  have hB := congrArg Loop.body hrec
  have hT := congrArg Loop.tmps hrec
  have hP := congrArg Loop.params hrec
  have hS := congrArg Loop.state hrec
  have hE := congrArg Loop.pending hrec
  simp only at hA hB hT hP hS hE
  clear hrec
  have HA := Lib.hid hA
  have HB := Lib.hid hB
  have HTM := Lib.hid hT
  have HP := Lib.hid hP
  have HS := Lib.hid hS
  have HE := Lib.hid hE
  clear hA hB hT hP hS hE
  obtain ⟨D, hD⟩ : ∃ D, w1.heap.size = D := ⟨_, rfl⟩
  have st1 := (((st.row_nil 32 9).newObj (.deferred (some [])) hD.symm).newObj (.loop rec) (b := D + 1) (by rw [World.size_alloc, hD]))
  rw [hD]
  simp only [List.cons_append, List.nil_append] at st1
  have st2 := st1.keep [1, 2, 3, 5, 6, 7, 0, 4] (by decide) (by simp)
  simp only [pick, List.map, List.getElem?_cons_zero, List.getElem?_cons_succ, Option.getD_some] at st2
  have st3 := (whJ_shut (p := p) (pre := []) (M := [vltI v room l, blkI bx [.pointer (some ⟨v, 0, none⟩)]]) (outs := []) (m := 0) st2 rfl rfl).keep [1, 0, 2] (by decide) (by simp)
  simp only [pick, List.map, List.getElem?_cons_zero, List.getElem?_cons_succ, Option.getD_some] at st3
  clear st st1 st2
  refine (all1_c (.func (.yield (D + 1)) #[] #[]) (whJ p C (.func (.func F) #[] lb) b3 b5 D (D + 1) rec) ?_ st3 HN.out HT.out).mono ?_
  · intro pre x fr al W hlen hlx hpre hm st
    obtain ⟨oa, oc, m, outs, ho, hmo, st⟩ := whJ_open st
    simp only [List.cons_append, List.nil_append] at st
    have HO := Lib.hid (And.intro ho hmo)
    have HX := Lib.hid (And.intro hlen (And.intro hlx (And.intro hpre hm)))
    clear ho hmo hlen hlx hpre hm st3 hD
    refine YOk.of_round (yieldAt_1 (st.obj (i := 5) get5) HA.out HB.out HTM.out HP.out HS.out HE.out ?_)
    refine wpIn_region_of rfl ?_ ?_
    · rintro ⟨_, _, h⟩; exact h
    obtain ⟨⟨ck, ⟨ho, hd⟩, cw, ⟨bo, bd⟩, ⟨co, cd⟩, we⟩, ta, tn, tm, ts⟩ := x
    simp only [List.setIfInBounds_toArray, List.set]
    unfold sgV S
    simp only
    (try simp only [nsl, Value.cells, unB] at st)
    (try clear hc); have hc := st.facts; (try simp only [nfl, nft, Nat.reduceAdd] at hc)
    go_wp2_with ((first
          | ((with_reducible refine wl_box ?_ (fun K hK => ?_)); rfl; refine owp_box (o := ⟨some 3, _, _, _, _, _⟩) rfl st ?_; apply Exists.intro; refine ⟨?_, ?_⟩; (focus (go_simp; try rfl)); (clear st; intro b3 w hb st; clear hb))
          | ((with_reducible refine wl_alloc ?_ (fun K hK => ?_)); rfl; refine owp_alloc (o := ⟨some 5, _, _, _, _, _⟩) rfl st ?_; apply Exists.intro; apply Exists.intro; refine ⟨?_, ?_⟩; (focus (first | (go_simp; done) | (go_simp; rfl))); (clear st; intro b5 w hb st; clear hb))
          | ((with_reducible refine wl_alloc ?_ (fun K hK => ?_)); rfl; refine owp_alloc (o := ⟨some 6, _, _, _, _, _⟩) rfl st ?_; apply Exists.intro; apply Exists.intro; refine ⟨?_, ?_⟩; (focus (first | (go_simp; done) | (go_simp; rfl))); (clear st; intro b6 w hb st; clear hb))
          | ((with_reducible refine wl_store ?_ (fun K hK => ?_)); rfl; refine owp_store rfl st ?_; apply Exists.intro; apply Exists.intro; refine ⟨?_, ?_, ?_⟩; (focus (go_simp; try rfl)); (focus (go_simp; try rfl)); (first | (with_reducible refine ⟨0, _, _, _, _, get0, rfl, rfl, ?_, ?_, ?_, ?_⟩) | (with_reducible refine ⟨1, _, _, _, _, get1, rfl, rfl, ?_, ?_, ?_, ?_⟩) | (with_reducible refine ⟨2, _, _, _, _, get2, rfl, rfl, ?_, ?_, ?_, ?_⟩) | (with_reducible refine ⟨3, _, _, _, _, get3, rfl, rfl, ?_, ?_, ?_, ?_⟩) | (with_reducible refine ⟨4, _, _, _, _, get4, rfl, rfl, ?_, ?_, ?_, ?_⟩) | (with_reducible refine ⟨5, _, _, _, _, get5, rfl, rfl, ?_, ?_, ?_, ?_⟩) | (with_reducible refine ⟨6, _, _, _, _, get6, rfl, rfl, ?_, ?_, ?_, ?_⟩) | (with_reducible refine ⟨7, _, _, _, _, get7, rfl, rfl, ?_, ?_, ?_, ?_⟩)); (kernel_rfl); (simp [Value.cells]); (rfl); (clear st; intro w st))
          | ((with_reducible refine wl_buildSlice ?_ (fun K hK => ?_)); rfl; refine owp_buildSlice (o := ⟨some 17, _, _, _, _, _⟩) rfl st ?_; apply Exists.intro; apply Exists.intro; apply Exists.intro; apply Exists.intro; refine ⟨?_, ?_⟩; (focus (go_simp; (first | done | exact ⟨⟨rfl, rfl⟩, rfl⟩ | rfl))); (clear st; intro b17 w hb st; clear hb))); (try simp only [nsl, Value.cells, unB] at st); (try clear hc); have hc := st.facts; (try simp only [nfl, nft, Nat.reduceAdd] at hc))
    refine ⟨st.obj (i := 5) get5, ?_⟩
    replace st := st.setObj (i := 5) get5 (.loop { rec with state := .busy })
    generalize World.putObj _ (D + 1) (Obj.loop { rec with state := .busy }) = w at st ⊢
    (try simp only [nsl, Value.cells, unB] at st)
    (try clear hc); have hc := st.facts; (try simp only [nfl, nft, Nat.reduceAdd] at hc)
    refine wpIn_block (wpIn_seq ?_)
    refine wpIn_region_of rfl ?_ ?_
    · rintro ⟨_, _, h⟩; exact nomatch h.1
    have heg := HEG.out
    go_wp2_with ((first
          | ((with_reducible refine wl_box ?_ (fun K hK => ?_)); rfl; refine owp_box (o := ⟨some 3, _, _, _, _, _⟩) rfl st ?_; apply Exists.intro; refine ⟨?_, ?_⟩; (focus (go_simp; try rfl)); (clear st; intro b3 w hb st; clear hb))
          | ((with_reducible refine wl_alloc ?_ (fun K hK => ?_)); rfl; refine owp_alloc (o := ⟨some 5, _, _, _, _, _⟩) rfl st ?_; apply Exists.intro; apply Exists.intro; refine ⟨?_, ?_⟩; (focus (first | (go_simp; done) | (go_simp; rfl))); (clear st; intro b5 w hb st; clear hb))
          | ((with_reducible refine wl_alloc ?_ (fun K hK => ?_)); rfl; refine owp_alloc (o := ⟨some 6, _, _, _, _, _⟩) rfl st ?_; apply Exists.intro; apply Exists.intro; refine ⟨?_, ?_⟩; (focus (first | (go_simp; done) | (go_simp; rfl))); (clear st; intro b6 w hb st; clear hb))
          | ((with_reducible refine wl_store ?_ (fun K hK => ?_)); rfl; refine owp_store rfl st ?_; apply Exists.intro; apply Exists.intro; refine ⟨?_, ?_, ?_⟩; (focus (go_simp; try rfl)); (focus (go_simp; try rfl)); (first | (with_reducible refine ⟨0, _, _, _, _, get0, rfl, rfl, ?_, ?_, ?_, ?_⟩) | (with_reducible refine ⟨1, _, _, _, _, get1, rfl, rfl, ?_, ?_, ?_, ?_⟩) | (with_reducible refine ⟨2, _, _, _, _, get2, rfl, rfl, ?_, ?_, ?_, ?_⟩) | (with_reducible refine ⟨3, _, _, _, _, get3, rfl, rfl, ?_, ?_, ?_, ?_⟩) | (with_reducible refine ⟨4, _, _, _, _, get4, rfl, rfl, ?_, ?_, ?_, ?_⟩) | (with_reducible refine ⟨5, _, _, _, _, get5, rfl, rfl, ?_, ?_, ?_, ?_⟩) | (with_reducible refine ⟨6, _, _, _, _, get6, rfl, rfl, ?_, ?_, ?_, ?_⟩) | (with_reducible refine ⟨7, _, _, _, _, get7, rfl, rfl, ?_, ?_, ?_, ?_⟩)); (kernel_rfl); (simp [Value.cells]); (rfl); (clear st; intro w st))
          | ((with_reducible refine wl_buildSlice ?_ (fun K hK => ?_)); rfl; refine owp_buildSlice (o := ⟨some 17, _, _, _, _, _⟩) rfl st ?_; apply Exists.intro; apply Exists.intro; apply Exists.intro; apply Exists.intro; refine ⟨?_, ?_⟩; (focus (go_simp; (first | done | exact ⟨⟨rfl, rfl⟩, rfl⟩ | rfl))); (clear st; intro b17 w hb st; clear hb))); (try simp only [nsl, Value.cells, unB] at st); (try clear hc); have hc := st.facts; (try simp only [nfl, nft, Nat.reduceAdd] at hc))
    clear heg
    obtain ⟨fr', al', st', back⟩ := st.sub [0] (by decide) (by simp)
    (try simp only [nsl, Value.cells, unB] at st')
    refine (HIS.out ⟨ck, (ho, hd), cw, (bo, bd), (co, cd), we⟩ _ _ _ ⟨ts, List.mem_of_getElem? HX.out.2.1⟩ st').mono ?_
    clear st'
    rintro en w ⟨rfl, st'⟩
    replace st := back _ _ (by simp) st'
    clear back st'
    (try simp only [nsl, Value.cells, unB] at st)
    (try clear hc); have hc := st.facts; (try simp only [nfl, nft, Nat.reduceAdd] at hc)
    cases hp : p ⟨ck, (ho, hd), cw, (bo, bd), (co, cd), we⟩ with
    | false =>
      go_wp2_with fail
      refine wpIn_cond_false rfl (wpIn_skip ⟨rfl, st.obj (i := 5) get5, ?_⟩)
      have st2 := (st.setObj (i := 5) get5 (.loop rec)).keep [0, 1, 2, 3, 4, 5, 6] (by decide) (by simp)
      simp only [pick, List.map, List.set, List.getElem?_cons_zero, List.getElem?_cons_succ, Option.getD_some] at st2
      refine whJ_shut (M := [byI ta tn ts]) (outs := outs) (m := m) st2 ?_ HO.out.2
      rw [List.map_append, List.filter_append, ← HO.out.1]
      simp [hp]
    | true =>
      have hmx : m ≤ 1000000 := by
        have h1 := HO.out.2
        rw [HO.out.1] at h1
        have h2 := List.length_filter_le p (pre.map SgnT.c)
        rw [List.length_map] at h2
        have h3 := HX.out.1
        have h4 := HN.out
        omega
      go_wp2_with fail
      refine wpIn_cond_true rfl (wpIn_region_of rfl ?_ ?_)
      · rintro ⟨_, _, h⟩; exact nomatch h.1
      go_wp2_with (first
          | ((with_reducible refine wl_append ?_ (fun K hK => ?_)); (rfl); (obtain ⟨inf, hinf, hz0, hz1, hz2⟩ := credInfo); (refine owp_append rfl st 3 get3 Try.underlying41 hinf hz0 hz1 hz2 rfl (by decide) rfl rfl ((st.blk (i := 8) get8).flat rfl) (by first | exact cellsL_all _ | simp [Value.oneCell']) (by simp only [maxLen]; omega) (by omega) ?_); (clear hinf hz0 hz1 hz2 inf); (clear st; intro v' w st); (obtain ⟨va', vc', rfl⟩ := own_slice (st.row (i := 3) get3)); (try simp only [nsl, Value.cells, unB] at st); (try simp only [Nat.zero_add] at st); (try clear hc); have hc := st.facts; (try simp only [nfl, nft, Nat.reduceAdd] at hc))
          | ((first
            | ((with_reducible refine wl_box ?_ (fun K hK => ?_)); rfl; refine owp_box (o := ⟨some 3, _, _, _, _, _⟩) rfl st ?_; apply Exists.intro; refine ⟨?_, ?_⟩; (focus (go_simp; try rfl)); (clear st; intro b3 w hb st; clear hb))
            | ((with_reducible refine wl_alloc ?_ (fun K hK => ?_)); rfl; refine owp_alloc (o := ⟨some 5, _, _, _, _, _⟩) rfl st ?_; apply Exists.intro; apply Exists.intro; refine ⟨?_, ?_⟩; (focus (first | (go_simp; done) | (go_simp; rfl))); (clear st; intro b5 w hb st; clear hb))
            | ((with_reducible refine wl_alloc ?_ (fun K hK => ?_)); rfl; refine owp_alloc (o := ⟨some 6, _, _, _, _, _⟩) rfl st ?_; apply Exists.intro; apply Exists.intro; refine ⟨?_, ?_⟩; (focus (first | (go_simp; done) | (go_simp; rfl))); (clear st; intro b6 w hb st; clear hb))
            | ((with_reducible refine wl_store ?_ (fun K hK => ?_)); rfl; refine owp_store rfl st ?_; apply Exists.intro; apply Exists.intro; refine ⟨?_, ?_, ?_⟩; (focus (go_simp; try rfl)); (focus (go_simp; try rfl)); (first | (with_reducible refine ⟨0, _, _, _, _, get0, rfl, rfl, ?_, ?_, ?_, ?_⟩) | (with_reducible refine ⟨1, _, _, _, _, get1, rfl, rfl, ?_, ?_, ?_, ?_⟩) | (with_reducible refine ⟨2, _, _, _, _, get2, rfl, rfl, ?_, ?_, ?_, ?_⟩) | (with_reducible refine ⟨3, _, _, _, _, get3, rfl, rfl, ?_, ?_, ?_, ?_⟩) | (with_reducible refine ⟨4, _, _, _, _, get4, rfl, rfl, ?_, ?_, ?_, ?_⟩) | (with_reducible refine ⟨5, _, _, _, _, get5, rfl, rfl, ?_, ?_, ?_, ?_⟩) | (with_reducible refine ⟨6, _, _, _, _, get6, rfl, rfl, ?_, ?_, ?_, ?_⟩) | (with_reducible refine ⟨7, _, _, _, _, get7, rfl, rfl, ?_, ?_, ?_, ?_⟩)); (kernel_rfl); (simp [Value.cells]); (rfl); (clear st; intro w st))
            | ((with_reducible refine wl_buildSlice ?_ (fun K hK => ?_)); rfl; refine owp_buildSlice (o := ⟨some 17, _, _, _, _, _⟩) rfl st ?_; apply Exists.intro; apply Exists.intro; apply Exists.intro; apply Exists.intro; refine ⟨?_, ?_⟩; (focus (go_simp; (first | done | exact ⟨⟨rfl, rfl⟩, rfl⟩ | rfl))); (clear st; intro b17 w hb st; clear hb))); (try simp only [nsl, Value.cells, unB] at st); (try clear hc); have hc := st.facts; (try simp only [nfl, nft, Nat.reduceAdd] at hc)))
      refine ⟨trivial, st.obj (i := 5) get5, ?_⟩
      have st2 := (st.setObj (i := 5) get5 (.loop rec)).keep [0, 1, 2, 3, 4, 5, 6] (by decide) (by simp)
      simp only [pick, List.map, List.set, List.getElem?_cons_zero, List.getElem?_cons_succ, Option.getD_some] at st2
      refine whJ_shut (M := [byI ta tn ts]) (oa := va') (oc := vc') (outs := outs ++ [⟨ck, (ho, hd), cw, (bo, bd), (co, cd), we⟩]) (m := m + 1) ?_ ?_ ?_
      · rw [cellsL_append, cellsL_one', cred_cells]
        exact st2
      · rw [List.map_append, List.filter_append, ← HO.out.1]
        simp [hp]
      · rw [List.length_append, ← HO.out.2]; rfl
  · rintro e w2 ⟨hv, xs, hxs, st⟩
    have st2 := st.keep [1, 0, 2] (by decide) (by simp)
    simp only [pick, List.map, List.getElem?_cons_zero, List.getElem?_cons_succ, Option.getD_some] at st2
    obtain ⟨oa, oc, m, outs, ho, hmo, st⟩ := whJ_open st2
    simp only [List.cons_append, List.nil_append] at st
    have hout : outs = whichV p l := by
      rw [ho]; unfold whichV; rw [← hxs, List.map_map]; rfl
    subst hout
    subst hmo
    clear ho hxs st2 st3 hD
    refine ⟨hv, rec, st.obj (i := 5) get5, HS.out.symm, HE.out.symm, ?_⟩
    replace st := st.setObj (i := 5) get5 (.loop { rec with state := .exhausted })
    generalize World.putObj _ (D + 1) (Obj.loop { rec with state := .exhausted }) = w at st ⊢
    (try simp only [nsl, Value.cells, unB] at st)
    (try clear hc); have hc := st.facts; (try simp only [nfl, nft, Nat.reduceAdd] at hc)
    go_wp2_with ((first
          | ((with_reducible refine wl_box ?_ (fun K hK => ?_)); rfl; refine owp_box (o := ⟨some 3, _, _, _, _, _⟩) rfl st ?_; apply Exists.intro; refine ⟨?_, ?_⟩; (focus (go_simp; try rfl)); (clear st; intro b3 w hb st; clear hb))
          | ((with_reducible refine wl_alloc ?_ (fun K hK => ?_)); rfl; refine owp_alloc (o := ⟨some 5, _, _, _, _, _⟩) rfl st ?_; apply Exists.intro; apply Exists.intro; refine ⟨?_, ?_⟩; (focus (first | (go_simp; done) | (go_simp; rfl))); (clear st; intro b5 w hb st; clear hb))
          | ((with_reducible refine wl_alloc ?_ (fun K hK => ?_)); rfl; refine owp_alloc (o := ⟨some 6, _, _, _, _, _⟩) rfl st ?_; apply Exists.intro; apply Exists.intro; refine ⟨?_, ?_⟩; (focus (first | (go_simp; done) | (go_simp; rfl))); (clear st; intro b6 w hb st; clear hb))
          | ((with_reducible refine wl_store ?_ (fun K hK => ?_)); rfl; refine owp_store rfl st ?_; apply Exists.intro; apply Exists.intro; refine ⟨?_, ?_, ?_⟩; (focus (go_simp; try rfl)); (focus (go_simp; try rfl)); (first | (with_reducible refine ⟨0, _, _, _, _, get0, rfl, rfl, ?_, ?_, ?_, ?_⟩) | (with_reducible refine ⟨1, _, _, _, _, get1, rfl, rfl, ?_, ?_, ?_, ?_⟩) | (with_reducible refine ⟨2, _, _, _, _, get2, rfl, rfl, ?_, ?_, ?_, ?_⟩) | (with_reducible refine ⟨3, _, _, _, _, get3, rfl, rfl, ?_, ?_, ?_, ?_⟩) | (with_reducible refine ⟨4, _, _, _, _, get4, rfl, rfl, ?_, ?_, ?_, ?_⟩) | (with_reducible refine ⟨5, _, _, _, _, get5, rfl, rfl, ?_, ?_, ?_, ?_⟩) | (with_reducible refine ⟨6, _, _, _, _, get6, rfl, rfl, ?_, ?_, ?_, ?_⟩) | (with_reducible refine ⟨7, _, _, _, _, get7, rfl, rfl, ?_, ?_, ?_, ?_⟩)); (kernel_rfl); (simp [Value.cells]); (rfl); (clear st; intro w st))
          | ((with_reducible refine wl_buildSlice ?_ (fun K hK => ?_)); rfl; refine owp_buildSlice (o := ⟨some 17, _, _, _, _, _⟩) rfl st ?_; apply Exists.intro; apply Exists.intro; apply Exists.intro; apply Exists.intro; refine ⟨?_, ?_⟩; (focus (go_simp; (first | done | exact ⟨⟨rfl, rfl⟩, rfl⟩ | rfl))); (clear st; intro b17 w hb st; clear hb))); (try simp only [nsl, Value.cells, unB] at st); (try clear hc); have hc := st.facts; (try simp only [nfl, nft, Nat.reduceAdd] at hc))
    have st2 := (st.setObj (i := 4) get4 (.deferred none)).keep [6, 0, 3] (by decide) (by simp)
    simp only [pick, List.map, List.set, List.getElem?_cons_zero, List.getElem?_cons_succ, Option.getD_some] at st2
    refine ⟨by simp, .inl ⟨_, _, rfl, run_takeDeferred (st.obj (i := 4) get4), ?_⟩⟩
    exact ⟨_, results_tmp rfl _ _ _, oa, oc, rfl, st2⟩
end
end Go.Proofs.Ythdbobnebpoolaa

namespace Go.Proofs.Ythdbobnebpoolaa
set_option linter.unusedSimpArgs false
set_option linter.unusedVariables false
open Go Go.RowKit
theorem beq_dec (a b : List UInt8) : (a == b) = decide (a = b) := by rw [Bool.eq_iff_iff]; simp
section
variable {fr al : Nat → Prop} {w0 w : World}
set_option maxRecDepth 100000 in
set_option maxHeartbeats 1000000 in
theorem credsP_c (c : CredT) (st : Own fr al w0 [nullI] w) :
    Calls Try.prog 33 #[cV c] w fun e w' => e = .returned (.bool true) ∧ Own fr al w0 [nullI] w' := by
  obtain ⟨xk, ⟨xo, xd⟩, xw, ⟨yo, yd⟩, ⟨zo, zd⟩, xe⟩ := c
  unfold cV S
  simp only
  (try simp only [nsl, Value.cells, unB] at st)
  (try clear hc); have hc := st.facts; (try simp only [nfl, nft, Nat.reduceAdd] at hc)
  go_enter Try.func33, Try.ntmps33
  go_wp2_with ((((with_reducible refine wl_box ?_ (fun K hK => ?_)); rfl; refine owp_box (o := ⟨some 1, _, _, _, _, _⟩) rfl st ?_; apply Exists.intro; refine ⟨?_, ?_⟩; (focus (go_simp; try rfl)); (clear st; intro b1 w hb st; clear hb))); (try simp only [nsl, Value.cells, unB] at st); (try clear hc); have hc := st.facts; (try simp only [nfl, nft, Nat.reduceAdd] at hc))
  go_ret
  have st2 := st.keep [0] (by decide) (by simp)
  exact ⟨rfl, by simpa [pick] using st2⟩
set_option maxRecDepth 100000 in
set_option maxHeartbeats 1000000 in
theorem headP_c (c : CredT) (b : Nat) (r : List UInt8 × List UInt8) (st : Own fr al w0 [blkI b [S r.1, S r.2]] w) :
    Calls Try.prog 38 #[cV c, .pointer (some ⟨b, 0, none⟩)] w fun e w' => e = .returned (.bool (decide (c.h = r))) ∧ Own fr al w0 [blkI b [S r.1, S r.2]] w' := by
  obtain ⟨xk, ⟨xo, xd⟩, xw, ⟨yo, yd⟩, ⟨zo, zd⟩, xe⟩ := c
  obtain ⟨ro, rd⟩ := r
  unfold cV S
  unfold S at st
  simp only at st ⊢
  (try simp only [nsl, Value.cells, unB] at st)
  (try clear hc); have hc := st.facts; (try simp only [nfl, nft, Nat.reduceAdd] at hc)
  go_enter Try.func38, Try.ntmps38
  go_wp2_with ((((with_reducible refine wl_box ?_ (fun K hK => ?_)); rfl; refine owp_box (o := ⟨some 2, _, _, _, _, _⟩) rfl st ?_; apply Exists.intro; refine ⟨?_, ?_⟩; (focus (go_simp; try rfl)); (clear st; intro b2 w hb st; clear hb))); (try simp only [nsl, Value.cells, unB] at st); (try clear hc); have hc := st.facts; (try simp only [nfl, nft, Nat.reduceAdd] at hc))
  go_ret
  have st2 := st.keep [0] (by decide) (by simp)
  refine ⟨?_, by simpa [pick] using st2⟩
  show Ending.returned (.bool (roleEq (xo, xd) (ro, rd))) = _
  rw [roleEq_eq]
set_option maxRecDepth 100000 in
set_option maxHeartbeats 1000000 in
theorem issuerP_c (c : CredT) (b : Nat) (s : List UInt8) (st : Own fr al w0 [blkI b [S s]] w) :
    Calls Try.prog 34 #[cV c, .pointer (some ⟨b, 0, none⟩)] w fun e w' => e = .returned (.bool (decide (c.h.1 = s))) ∧ Own fr al w0 [blkI b [S s]] w' := by
  obtain ⟨xk, ⟨xo, xd⟩, xw, ⟨yo, yd⟩, ⟨zo, zd⟩, xe⟩ := c
  unfold cV S
  unfold S at st
  simp only at st ⊢
  (try simp only [nsl, Value.cells, unB] at st)
  (try clear hc); have hc := st.facts; (try simp only [nfl, nft, Nat.reduceAdd] at hc)
  go_enter Try.func34, Try.ntmps34
  go_wp2_with ((((with_reducible refine wl_box ?_ (fun K hK => ?_)); rfl; refine owp_box (o := ⟨some 2, _, _, _, _, _⟩) rfl st ?_; apply Exists.intro; refine ⟨?_, ?_⟩; (focus (go_simp; try rfl)); (clear st; intro b2 w hb st; clear hb))); (try simp only [nsl, Value.cells, unB] at st); (try clear hc); have hc := st.facts; (try simp only [nfl, nft, Nat.reduceAdd] at hc))
  go_ret
  have st2 := st.keep [0] (by decide) (by simp)
  refine ⟨?_, by simpa [pick] using st2⟩
  show Ending.returned (.bool (xo == s)) = _
  rw [beq_dec]
set_option maxRecDepth 100000 in
set_option maxHeartbeats 1000000 in
theorem wordP_c (c : CredT) (b : Nat) (s : List UInt8) (st : Own fr al w0 [blkI b [S s]] w) :
    Calls Try.prog 40 #[cV c, .pointer (some ⟨b, 0, none⟩)] w fun e w' => e = .returned (.bool (decide (c.h.2 = s))) ∧ Own fr al w0 [blkI b [S s]] w' := by
  obtain ⟨xk, ⟨xo, xd⟩, xw, ⟨yo, yd⟩, ⟨zo, zd⟩, xe⟩ := c
  unfold cV S
  unfold S at st
  simp only at st ⊢
  (try simp only [nsl, Value.cells, unB] at st)
  (try clear hc); have hc := st.facts; (try simp only [nfl, nft, Nat.reduceAdd] at hc)
  go_enter Try.func40, Try.ntmps40
  go_wp2_with ((((with_reducible refine wl_box ?_ (fun K hK => ?_)); rfl; refine owp_box (o := ⟨some 2, _, _, _, _, _⟩) rfl st ?_; apply Exists.intro; refine ⟨?_, ?_⟩; (focus (go_simp; try rfl)); (clear st; intro b2 w hb st; clear hb))); (try simp only [nsl, Value.cells, unB] at st); (try clear hc); have hc := st.facts; (try simp only [nfl, nft, Nat.reduceAdd] at hc))
  go_ret
  have st2 := st.keep [0] (by decide) (by simp)
  refine ⟨?_, by simpa [pick] using st2⟩
  show Ending.returned (.bool (xd == s)) = _
  rw [beq_dec]
set_option maxRecDepth 100000 in
set_option maxHeartbeats 1000000 in
theorem subjP_c (c : CredT) (b : Nat) (s : List UInt8) (st : Own fr al w0 [blkI b [S s]] w) :
    Calls Try.prog 39 #[cV c, .pointer (some ⟨b, 0, none⟩)] w fun e w' => e = .returned (.bool (decide (c.k = 1) && decide (c.w = s))) ∧ Own fr al w0 [blkI b [S s]] w' := by
  obtain ⟨xk, ⟨xo, xd⟩, xw, ⟨yo, yd⟩, ⟨zo, zd⟩, xe⟩ := c
  unfold cV S
  unfold S at st
  simp only at st ⊢
  (try simp only [nsl, Value.cells, unB] at st)
  (try clear hc); have hc := st.facts; (try simp only [nfl, nft, Nat.reduceAdd] at hc)
  go_enter Try.func39, Try.ntmps39
  by_cases hk : xk = 1
  · subst hk
    go_wp2_with ((((with_reducible refine wl_box ?_ (fun K hK => ?_)); rfl; refine owp_box (o := ⟨some 2, _, _, _, _, _⟩) rfl st ?_; apply Exists.intro; refine ⟨?_, ?_⟩; (focus (go_simp; try rfl)); (clear st; intro b2 w hb st; clear hb))); (try simp only [nsl, Value.cells, unB] at st); (try clear hc); have hc := st.facts; (try simp only [nfl, nft, Nat.reduceAdd] at hc))
    go_ret
    have st2 := st.keep [0] (by decide) (by simp)
    refine ⟨?_, by simpa [pick] using st2⟩
    show Ending.returned (.bool (xw == s)) = _
    rw [beq_dec]
  · skip
    go_wp2_with ((((with_reducible refine wl_box ?_ (fun K hK => ?_)); rfl; refine owp_box (o := ⟨some 2, _, _, _, _, _⟩) rfl st ?_; apply Exists.intro; refine ⟨?_, ?_⟩; (focus (go_simp; try rfl)); (clear st; intro b2 w hb st; clear hb))); (try simp only [nsl, Value.cells, unB] at st); (try clear hc); have hc := st.facts; (try simp only [nfl, nft, Nat.reduceAdd] at hc))
    go_ret
    have st2 := st.keep [0] (by decide) (by simp)
    refine ⟨?_, by simpa [pick] using st2⟩
    show Ending.returned (.bool false) = _
    simp [hk]
set_option maxRecDepth 100000 in
set_option maxHeartbeats 2000000 in
theorem vIssuer_c {v room : Nat} {l : List Hd} (s : List UInt8) (st : Own fr al w0 [vltI v room l] w) (hn : l.length ≤ 1000000) (ht : ∀ x ∈ l, x.2.length ≤ 8) :
    Calls Try.prog 12 #[.pointer (some ⟨v, 0, none⟩), S s] w fun e w' => ∃ oa oc, e = .returned (.slice oa (whichV (fun c => decide (c.h.1 = s)) l).length oc) ∧ Own fr al w0 [vltI v room l, rowI 32 9 (.slice oa (whichV (fun c => decide (c.h.1 = s)) l).length oc) (whichV (fun c => decide (c.h.1 = s)) l).length (cellsL (whichV (fun c => decide (c.h.1 = s)) l))] w' := by
  have HC := Lib.hid (fun (b : Nat) (fr al : Nat → Prop) (W : World) (st : Own fr al W [vltI v room l, blkI b [S s]] W) => which_c (F := 34) (lb := #[.pointer (some ⟨b, 0, none⟩)]) (blkI b [S s]) (fun c => decide (c.h.1 = s)) (enters_of Try.func34 (by kernel_rfl) rfl) (fun c fr al W _ st => issuerP_c c b s st) st hn ht)
  obtain ⟨wl, hwl⟩ : ∃ q, whichV (fun c => decide (c.h.1 = s)) l = q := ⟨_, rfl⟩
  rw [hwl] at HC ⊢
  clear hn ht hwl
  unfold S at HC ⊢
  (try simp only [nsl, Value.cells, unB] at st)
  (try clear hc); have hc := st.facts; (try simp only [nfl, nft, Nat.reduceAdd] at hc)
  go_enter Try.func12, Try.ntmps12
  go_wp2_with ((((with_reducible refine wl_box ?_ (fun K hK => ?_)); rfl; refine owp_box (o := ⟨some 3, _, _, _, _, _⟩) rfl st ?_; apply Exists.intro; refine ⟨?_, ?_⟩; (focus (go_simp; try rfl)); (clear st; intro b3 w hb st; clear hb))); (try simp only [nsl, Value.cells, unB] at st); (try clear hc); have hc := st.facts; (try simp only [nfl, nft, Nat.reduceAdd] at hc))
  obtain ⟨fr', al', st', back⟩ := st.sub [0, 1] (by decide) (by simp)
  (try simp only [nsl, Value.cells, unB] at st')
  refine (HC.out _ _ _ _ st').mono ?_
  clear st'
  rintro en w ⟨oa, oc, rfl, st'⟩
  replace st := back _ _ (by simp) st'
  clear back st'
  (try simp only [nsl, Value.cells, unB] at st)
  (try clear hc); have hc := st.facts; (try simp only [nfl, nft, Nat.reduceAdd] at hc)
  go_wp2_with ((((with_reducible refine wl_box ?_ (fun K hK => ?_)); rfl; refine owp_box (o := ⟨some 3, _, _, _, _, _⟩) rfl st ?_; apply Exists.intro; refine ⟨?_, ?_⟩; (focus (go_simp; try rfl)); (clear st; intro b3 w hb st; clear hb))); (try simp only [nsl, Value.cells, unB] at st); (try clear hc); have hc := st.facts; (try simp only [nfl, nft, Nat.reduceAdd] at hc))
  go_ret
  have st2 := st.keep [0, 2] (by decide) (by simp)
  exact ⟨oa, oc, rfl, by simpa [pick] using st2⟩
set_option maxRecDepth 100000 in
set_option maxHeartbeats 2000000 in
theorem vWord_c {v room : Nat} {l : List Hd} (s : List UInt8) (st : Own fr al w0 [vltI v room l] w) (hn : l.length ≤ 1000000) (ht : ∀ x ∈ l, x.2.length ≤ 8) :
    Calls Try.prog 24 #[.pointer (some ⟨v, 0, none⟩), S s] w fun e w' => ∃ oa oc, e = .returned (.slice oa (whichV (fun c => decide (c.h.2 = s)) l).length oc) ∧ Own fr al w0 [vltI v room l, rowI 32 9 (.slice oa (whichV (fun c => decide (c.h.2 = s)) l).length oc) (whichV (fun c => decide (c.h.2 = s)) l).length (cellsL (whichV (fun c => decide (c.h.2 = s)) l))] w' := by
  have HC := Lib.hid (fun (b : Nat) (fr al : Nat → Prop) (W : World) (st : Own fr al W [vltI v room l, blkI b [S s]] W) => which_c (F := 40) (lb := #[.pointer (some ⟨b, 0, none⟩)]) (blkI b [S s]) (fun c => decide (c.h.2 = s)) (enters_of Try.func40 (by kernel_rfl) rfl) (fun c fr al W _ st => wordP_c c b s st) st hn ht)
  obtain ⟨wl, hwl⟩ : ∃ q, whichV (fun c => decide (c.h.2 = s)) l = q := ⟨_, rfl⟩
  rw [hwl] at HC ⊢
  clear hn ht hwl
  unfold S at HC ⊢
  (try simp only [nsl, Value.cells, unB] at st)
  (try clear hc); have hc := st.facts; (try simp only [nfl, nft, Nat.reduceAdd] at hc)
  go_enter Try.func24, Try.ntmps24
  go_wp2_with ((((with_reducible refine wl_box ?_ (fun K hK => ?_)); rfl; refine owp_box (o := ⟨some 3, _, _, _, _, _⟩) rfl st ?_; apply Exists.intro; refine ⟨?_, ?_⟩; (focus (go_simp; try rfl)); (clear st; intro b3 w hb st; clear hb))); (try simp only [nsl, Value.cells, unB] at st); (try clear hc); have hc := st.facts; (try simp only [nfl, nft, Nat.reduceAdd] at hc))
  obtain ⟨fr', al', st', back⟩ := st.sub [0, 1] (by decide) (by simp)
  (try simp only [nsl, Value.cells, unB] at st')
  refine (HC.out _ _ _ _ st').mono ?_
  clear st'
  rintro en w ⟨oa, oc, rfl, st'⟩
  replace st := back _ _ (by simp) st'
  clear back st'
  (try simp only [nsl, Value.cells, unB] at st)
  (try clear hc); have hc := st.facts; (try simp only [nfl, nft, Nat.reduceAdd] at hc)
  go_wp2_with ((((with_reducible refine wl_box ?_ (fun K hK => ?_)); rfl; refine owp_box (o := ⟨some 3, _, _, _, _, _⟩) rfl st ?_; apply Exists.intro; refine ⟨?_, ?_⟩; (focus (go_simp; try rfl)); (clear st; intro b3 w hb st; clear hb))); (try simp only [nsl, Value.cells, unB] at st); (try clear hc); have hc := st.facts; (try simp only [nfl, nft, Nat.reduceAdd] at hc))
  go_ret
  have st2 := st.keep [0, 2] (by decide) (by simp)
  exact ⟨oa, oc, rfl, by simpa [pick] using st2⟩
set_option maxRecDepth 100000 in
set_option maxHeartbeats 2000000 in
theorem vSubject_c {v room : Nat} {l : List Hd} (s : List UInt8) (st : Own fr al w0 [vltI v room l] w) (hn : l.length ≤ 1000000) (ht : ∀ x ∈ l, x.2.length ≤ 8) :
    Calls Try.prog 23 #[.pointer (some ⟨v, 0, none⟩), S s] w fun e w' => ∃ oa oc, e = .returned (.slice oa (whichV (fun c => decide (c.k = 1) && decide (c.w = s)) l).length oc) ∧ Own fr al w0 [vltI v room l, rowI 32 9 (.slice oa (whichV (fun c => decide (c.k = 1) && decide (c.w = s)) l).length oc) (whichV (fun c => decide (c.k = 1) && decide (c.w = s)) l).length (cellsL (whichV (fun c => decide (c.k = 1) && decide (c.w = s)) l))] w' := by
  have HC := Lib.hid (fun (b : Nat) (fr al : Nat → Prop) (W : World) (st : Own fr al W [vltI v room l, blkI b [S s]] W) => which_c (F := 39) (lb := #[.pointer (some ⟨b, 0, none⟩)]) (blkI b [S s]) (fun c => decide (c.k = 1) && decide (c.w = s)) (enters_of Try.func39 (by kernel_rfl) rfl) (fun c fr al W _ st => subjP_c c b s st) st hn ht)
  obtain ⟨wl, hwl⟩ : ∃ q, whichV (fun c => decide (c.k = 1) && decide (c.w = s)) l = q := ⟨_, rfl⟩
  rw [hwl] at HC ⊢
  clear hn ht hwl
  unfold S at HC ⊢
  (try simp only [nsl, Value.cells, unB] at st)
  (try clear hc); have hc := st.facts; (try simp only [nfl, nft, Nat.reduceAdd] at hc)
  go_enter Try.func23, Try.ntmps23
  go_wp2_with ((((with_reducible refine wl_box ?_ (fun K hK => ?_)); rfl; refine owp_box (o := ⟨some 3, _, _, _, _, _⟩) rfl st ?_; apply Exists.intro; refine ⟨?_, ?_⟩; (focus (go_simp; try rfl)); (clear st; intro b3 w hb st; clear hb))); (try simp only [nsl, Value.cells, unB] at st); (try clear hc); have hc := st.facts; (try simp only [nfl, nft, Nat.reduceAdd] at hc))
  obtain ⟨fr', al', st', back⟩ := st.sub [0, 1] (by decide) (by simp)
  (try simp only [nsl, Value.cells, unB] at st')
  refine (HC.out _ _ _ _ st').mono ?_
  clear st'
  rintro en w ⟨oa, oc, rfl, st'⟩
  replace st := back _ _ (by simp) st'
  clear back st'
  (try simp only [nsl, Value.cells, unB] at st)
  (try clear hc); have hc := st.facts; (try simp only [nfl, nft, Nat.reduceAdd] at hc)
  go_wp2_with ((((with_reducible refine wl_box ?_ (fun K hK => ?_)); rfl; refine owp_box (o := ⟨some 3, _, _, _, _, _⟩) rfl st ?_; apply Exists.intro; refine ⟨?_, ?_⟩; (focus (go_simp; try rfl)); (clear st; intro b3 w hb st; clear hb))); (try simp only [nsl, Value.cells, unB] at st); (try clear hc); have hc := st.facts; (try simp only [nfl, nft, Nat.reduceAdd] at hc))
  go_ret
  have st2 := st.keep [0, 2] (by decide) (by simp)
  exact ⟨oa, oc, rfl, by simpa [pick] using st2⟩
set_option maxRecDepth 100000 in
set_option maxHeartbeats 2000000 in
theorem vHead_c {v room : Nat} {l : List Hd} (r : List UInt8 × List UInt8) (st : Own fr al w0 [vltI v room l] w) (hn : l.length ≤ 1000000) (ht : ∀ x ∈ l, x.2.length ≤ 8) :
    Calls Try.prog 21 #[.pointer (some ⟨v, 0, none⟩), .agg #[S r.1, S r.2]] w fun e w' => ∃ oa oc, e = .returned (.slice oa (whichV (fun c => decide (c.h = r)) l).length oc) ∧ Own fr al w0 [vltI v room l, rowI 32 9 (.slice oa (whichV (fun c => decide (c.h = r)) l).length oc) (whichV (fun c => decide (c.h = r)) l).length (cellsL (whichV (fun c => decide (c.h = r)) l))] w' := by
  have HC := Lib.hid (fun (b : Nat) (fr al : Nat → Prop) (W : World) (st : Own fr al W [vltI v room l, blkI b [S r.1, S r.2]] W) => which_c (F := 38) (lb := #[.pointer (some ⟨b, 0, none⟩)]) (blkI b [S r.1, S r.2]) (fun c => decide (c.h = r)) (enters_of Try.func38 (by kernel_rfl) rfl) (fun c fr al W _ st => headP_c c b r st) st hn ht)
  obtain ⟨wl, hwl⟩ : ∃ q, whichV (fun c => decide (c.h = r)) l = q := ⟨_, rfl⟩
  rw [hwl] at HC ⊢
  clear hn ht hwl
  unfold S at HC ⊢
  (try simp only [nsl, Value.cells, unB] at st)
  (try clear hc); have hc := st.facts; (try simp only [nfl, nft, Nat.reduceAdd] at hc)
  go_enter Try.func21, Try.ntmps21
  go_wp2_with ((((with_reducible refine wl_box ?_ (fun K hK => ?_)); rfl; refine owp_box (o := ⟨some 3, _, _, _, _, _⟩) rfl st ?_; apply Exists.intro; refine ⟨?_, ?_⟩; (focus (go_simp; try rfl)); (clear st; intro b3 w hb st; clear hb))); (try simp only [nsl, Value.cells, unB] at st); (try clear hc); have hc := st.facts; (try simp only [nfl, nft, Nat.reduceAdd] at hc))
  obtain ⟨fr', al', st', back⟩ := st.sub [0, 1] (by decide) (by simp)
  (try simp only [nsl, Value.cells, unB] at st')
  refine (HC.out _ _ _ _ st').mono ?_
  clear st'
  rintro en w ⟨oa, oc, rfl, st'⟩
  replace st := back _ _ (by simp) st'
  clear back st'
  (try simp only [nsl, Value.cells, unB] at st)
  (try clear hc); have hc := st.facts; (try simp only [nfl, nft, Nat.reduceAdd] at hc)
  go_wp2_with ((((with_reducible refine wl_box ?_ (fun K hK => ?_)); rfl; refine owp_box (o := ⟨some 3, _, _, _, _, _⟩) rfl st ?_; apply Exists.intro; refine ⟨?_, ?_⟩; (focus (go_simp; try rfl)); (clear st; intro b3 w hb st; clear hb))); (try simp only [nsl, Value.cells, unB] at st); (try clear hc); have hc := st.facts; (try simp only [nfl, nft, Nat.reduceAdd] at hc))
  go_ret
  have st2 := st.keep [0, 2] (by decide) (by simp)
  exact ⟨oa, oc, rfl, by simpa [pick] using st2⟩
set_option maxRecDepth 100000 in
set_option maxHeartbeats 2000000 in
theorem vCreds_c {v room : Nat} {l : List Hd} (st : Own fr al w0 [vltI v room l] w) (hn : l.length ≤ 1000000) (ht : ∀ x ∈ l, x.2.length ≤ 8) :
    Calls Try.prog 11 #[.pointer (some ⟨v, 0, none⟩)] w fun e w' => ∃ oa oc, e = .returned (.slice oa (whichV (fun _ => true) l).length oc) ∧ Own fr al w0 [vltI v room l, rowI 32 9 (.slice oa (whichV (fun _ => true) l).length oc) (whichV (fun _ => true) l).length (cellsL (whichV (fun _ => true) l))] w' := by
  have HC := Lib.hid (fun (fr al : Nat → Prop) (W : World) (st : Own fr al W [vltI v room l, nullI] W) => which_c (F := 33) (lb := #[]) nullI (fun _ => true) (enters_of Try.func33 (by kernel_rfl) rfl) (fun c fr al W _ st => credsP_c c st) st hn ht)
  obtain ⟨wl, hwl⟩ : ∃ q, whichV (fun _ => true) l = q := ⟨_, rfl⟩
  rw [hwl] at HC ⊢
  clear hn ht hwl
  replace st := st.bare (I := nullI) trivial
  simp only [List.cons_append, List.nil_append] at st
  (try simp only [nsl, Value.cells, unB] at st)
  (try clear hc); have hc := st.facts; (try simp only [nfl, nft, Nat.reduceAdd] at hc)
  go_enter Try.func11, Try.ntmps11
  go_wp2_with fail
  obtain ⟨fr', al', st', back⟩ := st.sub [0, 1] (by decide) (by simp)
  (try simp only [nsl, Value.cells, unB] at st')
  refine (HC.out _ _ _ st').mono ?_
  clear st'
  rintro en w ⟨oa, oc, rfl, st'⟩
  replace st := back _ _ (by simp) st'
  clear back st'
  (try simp only [nsl, Value.cells, unB] at st)
  (try clear hc); have hc := st.facts; (try simp only [nfl, nft, Nat.reduceAdd] at hc)
  go_wp2_with fail
  go_ret
  have st2 := st.keep [0, 2] (by decide) (by simp)
  exact ⟨oa, oc, rfl, by simpa [pick] using st2⟩
end
end Go.Proofs.Ythdbobnebpoolaa

namespace Go.Proofs.Ythdbobnebpoolaa
set_option linter.unusedSimpArgs false
set_option linter.unusedVariables false
open Go Go.RowKit
section
variable {fr al : Nat → Prop} {w0 w : World}
set_option maxRecDepth 100000 in
set_option maxHeartbeats 2000000 in
theorem which_nil (F : Nat) (lb : Array Value) (W : World) :
    Calls Try.prog 32 #[.pointer none, .func (.func F) #[] lb] W fun e w' => e = .returned (.slice none 0 0) ∧ Ext W w' := by
  have st := Own.startOld W
  (try simp only [nsl, Value.cells, unB] at st)
  (try clear hc); have hc := st.facts; (try simp only [nfl, nft, Nat.reduceAdd] at hc)
  refine calls_of_wp_marks Try.func32 rfl ?_
  simp only [Try.ntmps32, List.size_toArray, List.length_cons, List.length_nil, Nat.reduceAdd, Nat.reduceSub, Array.replicate_succ, Array.replicate_zero, List.push_toArray, List.append_toArray, List.nil_append, List.cons_append]
  go_wp2_with ((first
        | ((with_reducible refine wl_box ?_ (fun K hK => ?_)); rfl; refine owp_box (o := ⟨some 3, _, _, _, _, _⟩) rfl st ?_; apply Exists.intro; refine ⟨?_, ?_⟩; (focus (go_simp; try rfl)); (clear st; intro b3 w hb st; clear hb))
        | ((with_reducible refine wl_alloc ?_ (fun K hK => ?_)); rfl; refine owp_alloc (o := ⟨some 5, _, _, _, _, _⟩) rfl st ?_; apply Exists.intro; apply Exists.intro; refine ⟨?_, ?_⟩; (focus (first | (go_simp; done) | (go_simp; rfl))); (clear st; intro b5 w hb st; clear hb))
        | ((with_reducible refine wl_alloc ?_ (fun K hK => ?_)); rfl; refine owp_alloc (o := ⟨some 6, _, _, _, _, _⟩) rfl st ?_; apply Exists.intro; apply Exists.intro; refine ⟨?_, ?_⟩; (focus (first | (go_simp; done) | (go_simp; rfl))); (clear st; intro b6 w hb st; clear hb))
        | ((with_reducible refine wl_store ?_ (fun K hK => ?_)); rfl; refine owp_store rfl st ?_; apply Exists.intro; apply Exists.intro; refine ⟨?_, ?_, ?_⟩; (focus (go_simp; try rfl)); (focus (go_simp; try rfl)); (first | (with_reducible refine ⟨0, _, _, _, _, get0, rfl, rfl, ?_, ?_, ?_, ?_⟩) | (with_reducible refine ⟨1, _, _, _, _, get1, rfl, rfl, ?_, ?_, ?_, ?_⟩) | (with_reducible refine ⟨2, _, _, _, _, get2, rfl, rfl, ?_, ?_, ?_, ?_⟩) | (with_reducible refine ⟨3, _, _, _, _, get3, rfl, rfl, ?_, ?_, ?_, ?_⟩) | (with_reducible refine ⟨4, _, _, _, _, get4, rfl, rfl, ?_, ?_, ?_, ?_⟩) | (with_reducible refine ⟨5, _, _, _, _, get5, rfl, rfl, ?_, ?_, ?_, ?_⟩) | (with_reducible refine ⟨6, _, _, _, _, get6, rfl, rfl, ?_, ?_, ?_, ?_⟩) | (with_reducible refine ⟨7, _, _, _, _, get7, rfl, rfl, ?_, ?_, ?_, ?_⟩)); (kernel_rfl); (simp [Value.cells]); (rfl); (clear st; intro w st))
        | ((with_reducible refine wl_buildSlice ?_ (fun K hK => ?_)); rfl; refine owp_buildSlice (o := ⟨some 17, _, _, _, _, _⟩) rfl st ?_; apply Exists.intro; apply Exists.intro; apply Exists.intro; apply Exists.intro; refine ⟨?_, ?_⟩; (focus (go_simp; (first | done | exact ⟨⟨rfl, rfl⟩, rfl⟩ | rfl))); (clear st; intro b17 w hb st; clear hb))); (try simp only [nsl, Value.cells, unB] at st); (try clear hc); have hc := st.facts; (try simp only [nfl, nft, Nat.reduceAdd] at hc))
  refine (all_c _ _).mono ?_
  rintro e w1 ⟨bx, rfl, hf⟩
  replace st := st.join hf
  clear hf
  simp only [List.cons_append, List.nil_append] at st
  (try simp only [nsl, Value.cells, unB] at st)
  (try clear hc); have hc := st.facts; (try simp only [nfl, nft, Nat.reduceAdd] at hc)
  go_wp2_with ((first
        | ((with_reducible refine wl_box ?_ (fun K hK => ?_)); rfl; refine owp_box (o := ⟨some 3, _, _, _, _, _⟩) rfl st ?_; apply Exists.intro; refine ⟨?_, ?_⟩; (focus (go_simp; try rfl)); (clear st; intro b3 w hb st; clear hb))
        | ((with_reducible refine wl_alloc ?_ (fun K hK => ?_)); rfl; refine owp_alloc (o := ⟨some 5, _, _, _, _, _⟩) rfl st ?_; apply Exists.intro; apply Exists.intro; refine ⟨?_, ?_⟩; (focus (first | (go_simp; done) | (go_simp; rfl))); (clear st; intro b5 w hb st; clear hb))
        | ((with_reducible refine wl_alloc ?_ (fun K hK => ?_)); rfl; refine owp_alloc (o := ⟨some 6, _, _, _, _, _⟩) rfl st ?_; apply Exists.intro; apply Exists.intro; refine ⟨?_, ?_⟩; (focus (first | (go_simp; done) | (go_simp; rfl))); (clear st; intro b6 w hb st; clear hb))
        | ((with_reducible refine wl_store ?_ (fun K hK => ?_)); rfl; refine owp_store rfl st ?_; apply Exists.intro; apply Exists.intro; refine ⟨?_, ?_, ?_⟩; (focus (go_simp; try rfl)); (focus (go_simp; try rfl)); (first | (with_reducible refine ⟨0, _, _, _, _, get0, rfl, rfl, ?_, ?_, ?_, ?_⟩) | (with_reducible refine ⟨1, _, _, _, _, get1, rfl, rfl, ?_, ?_, ?_, ?_⟩) | (with_reducible refine ⟨2, _, _, _, _, get2, rfl, rfl, ?_, ?_, ?_, ?_⟩) | (with_reducible refine ⟨3, _, _, _, _, get3, rfl, rfl, ?_, ?_, ?_, ?_⟩) | (with_reducible refine ⟨4, _, _, _, _, get4, rfl, rfl, ?_, ?_, ?_, ?_⟩) | (with_reducible refine ⟨5, _, _, _, _, get5, rfl, rfl, ?_, ?_, ?_, ?_⟩) | (with_reducible refine ⟨6, _, _, _, _, get6, rfl, rfl, ?_, ?_, ?_, ?_⟩) | (with_reducible refine ⟨7, _, _, _, _, get7, rfl, rfl, ?_, ?_, ?_, ?_⟩)); (kernel_rfl); (simp [Value.cells]); (rfl); (clear st; intro w st))
        | ((with_reducible refine wl_buildSlice ?_ (fun K hK => ?_)); rfl; refine owp_buildSlice (o := ⟨some 17, _, _, _, _, _⟩) rfl st ?_; apply Exists.intro; apply Exists.intro; apply Exists.intro; apply Exists.intro; refine ⟨?_, ?_⟩; (focus (go_simp; (first | done | exact ⟨⟨rfl, rfl⟩, rfl⟩ | rfl))); (clear st; intro b17 w hb st; clear hb))); (try simp only [nsl, Value.cells, unB] at st); (try clear hc); have hc := st.facts; (try simp only [nfl, nft, Nat.reduceAdd] at hc))
  clear hc
  refine wp_rangeFunc_c rfl (enters_of Try.func41 (by kernel_rfl) rfl) ?_
  intro fn
  generalize hrec : ({ state := .ready, pending := none, fn := fn, tmps := _, params := _, assign := _, body := _, defers := _ } : Loop) = rec
  have HS := Lib.hid (congrArg Loop.state hrec)
  have HE := Lib.hid (congrArg Loop.pending hrec)
  simp only at HS HE
  clear hrec
  obtain ⟨D, hD⟩ : ∃ D, w1.heap.size = D := ⟨_, rfl⟩
  have st1 := ((st.newObj (.deferred (some [])) hD.symm).newObj (.loop rec) (b := D + 1) (by rw [World.size_alloc, hD]))
  rw [hD]
  simp only [List.cons_append, List.nil_append] at st1
  clear st hD
  have st := st1
  clear st1
  obtain ⟨fr', al', st', back⟩ := st.sub [3] (by decide) (by simp)
  (try simp only [nsl, Value.cells, unB] at st')
  refine (all1_nil (.func (.yield (D + 1)) #[] #[]) st').mono ?_
  clear st'
  rintro en w ⟨hv, st'⟩
  replace st := back _ _ (by simp) st'
  clear back st'
  (try simp only [nsl, Value.cells, unB] at st)
  (try clear hc); have hc := st.facts; (try simp only [nfl, nft, Nat.reduceAdd] at hc)
  refine ⟨hv, rec, st.obj (i := 5) get5, HS.out.symm, HE.out.symm, ?_⟩
  replace st := st.setObj (i := 5) get5 (.loop { rec with state := .exhausted })
  generalize World.putObj _ (D + 1) (Obj.loop { rec with state := .exhausted }) = w at st ⊢
  (try simp only [nsl, Value.cells, unB] at st)
  (try clear hc); have hc := st.facts; (try simp only [nfl, nft, Nat.reduceAdd] at hc)
  go_wp2_with ((first
        | ((with_reducible refine wl_box ?_ (fun K hK => ?_)); rfl; refine owp_box (o := ⟨some 3, _, _, _, _, _⟩) rfl st ?_; apply Exists.intro; refine ⟨?_, ?_⟩; (focus (go_simp; try rfl)); (clear st; intro b3 w hb st; clear hb))
        | ((with_reducible refine wl_alloc ?_ (fun K hK => ?_)); rfl; refine owp_alloc (o := ⟨some 5, _, _, _, _, _⟩) rfl st ?_; apply Exists.intro; apply Exists.intro; refine ⟨?_, ?_⟩; (focus (first | (go_simp; done) | (go_simp; rfl))); (clear st; intro b5 w hb st; clear hb))
        | ((with_reducible refine wl_alloc ?_ (fun K hK => ?_)); rfl; refine owp_alloc (o := ⟨some 6, _, _, _, _, _⟩) rfl st ?_; apply Exists.intro; apply Exists.intro; refine ⟨?_, ?_⟩; (focus (first | (go_simp; done) | (go_simp; rfl))); (clear st; intro b6 w hb st; clear hb))
        | ((with_reducible refine wl_store ?_ (fun K hK => ?_)); rfl; refine owp_store rfl st ?_; apply Exists.intro; apply Exists.intro; refine ⟨?_, ?_, ?_⟩; (focus (go_simp; try rfl)); (focus (go_simp; try rfl)); (first | (with_reducible refine ⟨0, _, _, _, _, get0, rfl, rfl, ?_, ?_, ?_, ?_⟩) | (with_reducible refine ⟨1, _, _, _, _, get1, rfl, rfl, ?_, ?_, ?_, ?_⟩) | (with_reducible refine ⟨2, _, _, _, _, get2, rfl, rfl, ?_, ?_, ?_, ?_⟩) | (with_reducible refine ⟨3, _, _, _, _, get3, rfl, rfl, ?_, ?_, ?_, ?_⟩) | (with_reducible refine ⟨4, _, _, _, _, get4, rfl, rfl, ?_, ?_, ?_, ?_⟩) | (with_reducible refine ⟨5, _, _, _, _, get5, rfl, rfl, ?_, ?_, ?_, ?_⟩) | (with_reducible refine ⟨6, _, _, _, _, get6, rfl, rfl, ?_, ?_, ?_, ?_⟩) | (with_reducible refine ⟨7, _, _, _, _, get7, rfl, rfl, ?_, ?_, ?_, ?_⟩)); (kernel_rfl); (simp [Value.cells]); (rfl); (clear st; intro w st))
        | ((with_reducible refine wl_buildSlice ?_ (fun K hK => ?_)); rfl; refine owp_buildSlice (o := ⟨some 17, _, _, _, _, _⟩) rfl st ?_; apply Exists.intro; apply Exists.intro; apply Exists.intro; apply Exists.intro; refine ⟨?_, ?_⟩; (focus (go_simp; (first | done | exact ⟨⟨rfl, rfl⟩, rfl⟩ | rfl))); (clear st; intro b17 w hb st; clear hb))); (try simp only [nsl, Value.cells, unB] at st); (try clear hc); have hc := st.facts; (try simp only [nfl, nft, Nat.reduceAdd] at hc))
  have st2 := (st.setObj (i := 4) get4 (.deferred none))
  refine ⟨by simp, .inl ⟨_, _, rfl, run_takeDeferred (st.obj (i := 4) get4), ?_⟩⟩
  exact ⟨_, results_tmp rfl _ _ _, rfl, st2.ext0⟩
set_option maxRecDepth 100000 in
set_option maxHeartbeats 2000000 in
theorem vCreds_nil (W : World) :
    Calls Try.prog 11 #[.pointer none] W fun e w' => e = .returned (.slice none 0 0) ∧ Ext W w' := by
  have st := Own.startOld W
  (try simp only [nsl, Value.cells, unB] at st)
  (try clear hc); have hc := st.facts; (try simp only [nfl, nft, Nat.reduceAdd] at hc)
  go_enter Try.func11, Try.ntmps11
  go_wp2_with fail
  refine (which_nil _ #[] _).mono ?_
  rintro en w ⟨rfl, hx⟩
  replace st := st.ext hx
  clear hx
  (try clear hc); have hc := st.facts; (try simp only [nfl, nft, Nat.reduceAdd] at hc)
  go_wp2_with fail
  go_ret
  exact ⟨rfl, st.ext0⟩
set_option maxRecDepth 100000 in
set_option maxHeartbeats 2000000 in
theorem vIssuer_nil (s : List UInt8) (W : World) :
    Calls Try.prog 12 #[.pointer none, .string ⟨s.toArray⟩] W fun e w' => e = .returned (.slice none 0 0) ∧ Ext W w' := by
  have st := Own.startOld W
  (try simp only [nsl, Value.cells, unB] at st)
  (try clear hc); have hc := st.facts; (try simp only [nfl, nft, Nat.reduceAdd] at hc)
  go_enter Try.func12, Try.ntmps12
  go_wp2_with ((((with_reducible refine wl_box ?_ (fun K hK => ?_)); rfl; refine owp_box (o := ⟨some 3, _, _, _, _, _⟩) rfl st ?_; apply Exists.intro; refine ⟨?_, ?_⟩; (focus (go_simp; try rfl)); (clear st; intro b3 w hb st; clear hb))); (try simp only [nsl, Value.cells, unB] at st); (try clear hc); have hc := st.facts; (try simp only [nfl, nft, Nat.reduceAdd] at hc))
  refine (which_nil _ #[_] _).mono ?_
  rintro en w ⟨rfl, hx⟩
  replace st := st.ext hx
  clear hx
  (try clear hc); have hc := st.facts; (try simp only [nfl, nft, Nat.reduceAdd] at hc)
  go_wp2_with ((((with_reducible refine wl_box ?_ (fun K hK => ?_)); rfl; refine owp_box (o := ⟨some 3, _, _, _, _, _⟩) rfl st ?_; apply Exists.intro; refine ⟨?_, ?_⟩; (focus (go_simp; try rfl)); (clear st; intro b3 w hb st; clear hb))); (try simp only [nsl, Value.cells, unB] at st); (try clear hc); have hc := st.facts; (try simp only [nfl, nft, Nat.reduceAdd] at hc))
  go_ret
  exact ⟨rfl, st.ext0⟩
set_option maxRecDepth 100000 in
set_option maxHeartbeats 2000000 in
theorem vClone_nil (W : World) :
    Calls Try.prog 13 #[.pointer none] W fun e w' => e = .returned (.pointer none) ∧ Ext W w' := by
  have st := Own.startOld W
  (try simp only [nsl, Value.cells, unB] at st)
  (try clear hc); have hc := st.facts; (try simp only [nfl, nft, Nat.reduceAdd] at hc)
  go_enter Try.func13, Try.ntmps13
  go_wp2_with ((first
        | ((with_reducible refine wl_box ?_ (fun K hK => ?_)); rfl; refine owp_box (o := ⟨some 12, _, _, _, _, _⟩) rfl st ?_; apply Exists.intro; refine ⟨?_, ?_⟩; (focus (go_simp; try rfl)); (clear st; intro b12 w hb st; clear hb))
        | ((with_reducible refine wl_alloc ?_ (fun K hK => ?_)); rfl; refine owp_alloc (o := ⟨some 3, _, _, _, _, _⟩) rfl st ?_; apply Exists.intro; apply Exists.intro; refine ⟨?_, ?_⟩; (focus (first | (go_simp; done) | (go_simp; rfl))); (clear st; intro b3 w hb st; clear hb))
        | ((with_reducible refine wl_store ?_ (fun K hK => ?_)); rfl; refine owp_store rfl st ?_; apply Exists.intro; apply Exists.intro; refine ⟨?_, ?_, ?_⟩; (focus (go_simp; try rfl)); (focus (go_simp; try rfl)); (first | (with_reducible refine ⟨0, _, _, _, _, get0, rfl, rfl, ?_, ?_, ?_, ?_⟩) | (with_reducible refine ⟨1, _, _, _, _, get1, rfl, rfl, ?_, ?_, ?_, ?_⟩) | (with_reducible refine ⟨2, _, _, _, _, get2, rfl, rfl, ?_, ?_, ?_, ?_⟩) | (with_reducible refine ⟨3, _, _, _, _, get3, rfl, rfl, ?_, ?_, ?_, ?_⟩) | (with_reducible refine ⟨4, _, _, _, _, get4, rfl, rfl, ?_, ?_, ?_, ?_⟩) | (with_reducible refine ⟨5, _, _, _, _, get5, rfl, rfl, ?_, ?_, ?_, ?_⟩) | (with_reducible refine ⟨6, _, _, _, _, get6, rfl, rfl, ?_, ?_, ?_, ?_⟩) | (with_reducible refine ⟨7, _, _, _, _, get7, rfl, rfl, ?_, ?_, ?_, ?_⟩)); (kernel_rfl); (simp [Value.cells]); (rfl); (clear st; intro w st))
        | ((with_reducible refine wl_alloc ?_ (fun K hK => ?_)); rfl; refine owp_alloc (o := ⟨some 4, _, _, _, _, _⟩) rfl st ?_; apply Exists.intro; apply Exists.intro; refine ⟨?_, ?_⟩; (focus (first | (go_simp; done) | (go_simp; rfl))); (clear st; intro b4 w hb st; clear hb))
        | ((with_reducible refine wl_buildSlice ?_ (fun K hK => ?_)); rfl; refine owp_buildSlice (o := ⟨some 22, _, _, _, _, _⟩) rfl st ?_; apply Exists.intro; apply Exists.intro; apply Exists.intro; apply Exists.intro; refine ⟨?_, ?_⟩; (focus (go_simp; (first | done | exact ⟨⟨rfl, rfl⟩, rfl⟩ | rfl))); (clear st; intro b22 w hb st; clear hb))); (try simp only [nsl, Value.cells, unB] at st); (try clear hc); have hc := st.facts; (try simp only [nfl, nft, Nat.reduceAdd] at hc))
  go_ret
  exact ⟨rfl, st.ext0⟩
set_option maxRecDepth 100000 in
set_option maxHeartbeats 4000000 in
theorem vClone_c {v room : Nat} (st : Own fr al w0 [vltI v room []] w) :
    Calls Try.prog 13 #[.pointer (some ⟨v, 0, none⟩)] w fun e w' => ∃ b, e = .returned (.pointer (some ⟨b, 0, none⟩)) ∧ Own fr al w0 [vltI v room [], vltI b room []] w' := by
  obtain ⟨va, c, ss, hss, st⟩ := st.vltOpen
  have HS := Lib.hid hss
  clear hss
  (try simp only [nsl, Value.cells, unB] at st)
  (try clear hc); have hc := st.facts; (try simp only [nfl, nft, Nat.reduceAdd] at hc)
  refine calls_of_wp_marks Try.func13 rfl ?_
  simp only [Try.ntmps13, List.size_toArray, List.length_cons, List.length_nil, Nat.reduceAdd, Nat.reduceSub, Array.replicate_succ, Array.replicate_zero, List.push_toArray, List.append_toArray, List.nil_append, List.cons_append]
  go_wp2_with ((first
        | ((with_reducible refine wl_box ?_ (fun K hK => ?_)); rfl; refine owp_box (o := ⟨some 12, _, _, _, _, _⟩) rfl st ?_; apply Exists.intro; refine ⟨?_, ?_⟩; (focus (go_simp; try rfl)); (clear st; intro b12 w hb st; clear hb))
        | ((with_reducible refine wl_alloc ?_ (fun K hK => ?_)); rfl; refine owp_alloc (o := ⟨some 3, _, _, _, _, _⟩) rfl st ?_; apply Exists.intro; apply Exists.intro; refine ⟨?_, ?_⟩; (focus (first | (go_simp; done) | (go_simp; rfl))); (clear st; intro b3 w hb st; clear hb))
        | ((with_reducible refine wl_store ?_ (fun K hK => ?_)); rfl; refine owp_store rfl st ?_; apply Exists.intro; apply Exists.intro; refine ⟨?_, ?_, ?_⟩; (focus (go_simp; try rfl)); (focus (go_simp; try rfl)); (first | (with_reducible refine ⟨0, _, _, _, _, get0, rfl, rfl, ?_, ?_, ?_, ?_⟩) | (with_reducible refine ⟨1, _, _, _, _, get1, rfl, rfl, ?_, ?_, ?_, ?_⟩) | (with_reducible refine ⟨2, _, _, _, _, get2, rfl, rfl, ?_, ?_, ?_, ?_⟩) | (with_reducible refine ⟨3, _, _, _, _, get3, rfl, rfl, ?_, ?_, ?_, ?_⟩) | (with_reducible refine ⟨4, _, _, _, _, get4, rfl, rfl, ?_, ?_, ?_, ?_⟩) | (with_reducible refine ⟨5, _, _, _, _, get5, rfl, rfl, ?_, ?_, ?_, ?_⟩) | (with_reducible refine ⟨6, _, _, _, _, get6, rfl, rfl, ?_, ?_, ?_, ?_⟩) | (with_reducible refine ⟨7, _, _, _, _, get7, rfl, rfl, ?_, ?_, ?_, ?_⟩)); (kernel_rfl); (simp [Value.cells]); (rfl); (clear st; intro w st))
        | ((with_reducible refine wl_alloc ?_ (fun K hK => ?_)); rfl; refine owp_alloc (o := ⟨some 4, _, _, _, _, _⟩) rfl st ?_; apply Exists.intro; apply Exists.intro; refine ⟨?_, ?_⟩; (focus (first | (go_simp; done) | (go_simp; rfl))); (clear st; intro b4 w hb st; clear hb))
        | ((with_reducible refine wl_buildSlice ?_ (fun K hK => ?_)); rfl; refine owp_buildSlice (o := ⟨some 22, _, _, _, _, _⟩) rfl st ?_; apply Exists.intro; apply Exists.intro; apply Exists.intro; apply Exists.intro; refine ⟨?_, ?_⟩; (focus (go_simp; (first | done | exact ⟨⟨rfl, rfl⟩, rfl⟩ | rfl))); (clear st; intro b22 w hb st; clear hb))); (try simp only [nsl, Value.cells, unB] at st); (try clear hc); have hc := st.facts; (try simp only [nfl, nft, Nat.reduceAdd] at hc))
  refine (all_c _ _).mono ?_
  rintro e w1 ⟨bx, rfl, hf⟩
  replace st := st.join hf
  clear hf
  simp only [List.cons_append, List.nil_append] at st
  (try simp only [nsl, Value.cells, unB] at st)
  (try clear hc); have hc := st.facts; (try simp only [nfl, nft, Nat.reduceAdd] at hc)
  go_wp2_with ((first
        | ((with_reducible refine wl_box ?_ (fun K hK => ?_)); rfl; refine owp_box (o := ⟨some 12, _, _, _, _, _⟩) rfl st ?_; apply Exists.intro; refine ⟨?_, ?_⟩; (focus (go_simp; try rfl)); (clear st; intro b12 w hb st; clear hb))
        | ((with_reducible refine wl_alloc ?_ (fun K hK => ?_)); rfl; refine owp_alloc (o := ⟨some 3, _, _, _, _, _⟩) rfl st ?_; apply Exists.intro; apply Exists.intro; refine ⟨?_, ?_⟩; (focus (first | (go_simp; done) | (go_simp; rfl))); (clear st; intro b3 w hb st; clear hb))
        | ((with_reducible refine wl_store ?_ (fun K hK => ?_)); rfl; refine owp_store rfl st ?_; apply Exists.intro; apply Exists.intro; refine ⟨?_, ?_, ?_⟩; (focus (go_simp; try rfl)); (focus (go_simp; try rfl)); (first | (with_reducible refine ⟨0, _, _, _, _, get0, rfl, rfl, ?_, ?_, ?_, ?_⟩) | (with_reducible refine ⟨1, _, _, _, _, get1, rfl, rfl, ?_, ?_, ?_, ?_⟩) | (with_reducible refine ⟨2, _, _, _, _, get2, rfl, rfl, ?_, ?_, ?_, ?_⟩) | (with_reducible refine ⟨3, _, _, _, _, get3, rfl, rfl, ?_, ?_, ?_, ?_⟩) | (with_reducible refine ⟨4, _, _, _, _, get4, rfl, rfl, ?_, ?_, ?_, ?_⟩) | (with_reducible refine ⟨5, _, _, _, _, get5, rfl, rfl, ?_, ?_, ?_, ?_⟩) | (with_reducible refine ⟨6, _, _, _, _, get6, rfl, rfl, ?_, ?_, ?_, ?_⟩) | (with_reducible refine ⟨7, _, _, _, _, get7, rfl, rfl, ?_, ?_, ?_, ?_⟩)); (kernel_rfl); (simp [Value.cells]); (rfl); (clear st; intro w st))
        | ((with_reducible refine wl_alloc ?_ (fun K hK => ?_)); rfl; refine owp_alloc (o := ⟨some 4, _, _, _, _, _⟩) rfl st ?_; apply Exists.intro; apply Exists.intro; refine ⟨?_, ?_⟩; (focus (first | (go_simp; done) | (go_simp; rfl))); (clear st; intro b4 w hb st; clear hb))
        | ((with_reducible refine wl_buildSlice ?_ (fun K hK => ?_)); rfl; refine owp_buildSlice (o := ⟨some 22, _, _, _, _, _⟩) rfl st ?_; apply Exists.intro; apply Exists.intro; apply Exists.intro; apply Exists.intro; refine ⟨?_, ?_⟩; (focus (go_simp; (first | done | exact ⟨⟨rfl, rfl⟩, rfl⟩ | rfl))); (clear st; intro b22 w hb st; clear hb))); (try simp only [nsl, Value.cells, unB] at st); (try clear hc); have hc := st.facts; (try simp only [nfl, nft, Nat.reduceAdd] at hc))
  clear hc
  refine wp_rangeFunc_c rfl (enters_of Try.func41 (by kernel_rfl) rfl) ?_
  intro fn
  generalize hrec : ({ state := .ready, pending := none, fn := fn, tmps := _, params := _, assign := _, body := _, defers := _ } : Loop) = rec
  have HSt := Lib.hid (congrArg Loop.state hrec)
  have HE := Lib.hid (congrArg Loop.pending hrec)
  simp only at HSt HE
  clear hrec
  obtain ⟨D, hD⟩ : ∃ D, w1.heap.size = D := ⟨_, rfl⟩
  have st1 := ((st.newObj (.deferred (some [])) hD.symm).newObj (.loop rec) (b := D + 1) (by rw [World.size_alloc, hD]))
  rw [hD]
  simp only [List.cons_append, List.nil_append] at st1
  clear st hD
  have st2 := (st1.vltShut HS.out rfl).keep [1, 2, 4, 5, 0, 3] (by decide) (by simp)
  simp only [pick, List.map, List.getElem?_cons_zero, List.getElem?_cons_succ, Option.getD_some] at st2
  have st3 := (Own.fold [blkI b12 [.slice none 0 0, .int .i64 (room : Int)], blkI b3 [.pointer (some ⟨b12, 0, none⟩)], objI D (.deferred (some [])), objI (D + 1) (.loop rec)] st2).keep [1, 0, 2] (by decide) (by simp)
  simp only [pick, List.map, List.getElem?_cons_zero, List.getElem?_cons_succ, Option.getD_some] at st3
  clear st1 st2
  refine (all1_c (l := []) (.func (.yield (D + 1)) #[] #[]) (fun _ => [blkI b12 [.slice none 0 0, .int .i64 (room : Int)], blkI b3 [.pointer (some ⟨b12, 0, none⟩)], objI D (.deferred (some [])), objI (D + 1) (.loop rec)]) (fun pre x _ _ _ h => absurd h (by simp)) st3 (by simp) (by simp)).mono ?_
  rintro e w2 ⟨hv, xs, hxs, st⟩
  clear st3 hxs
  have st := (st.keep [1, 0, 2] (by decide) (by simp))
  simp only [pick, List.map, List.getElem?_cons_zero, List.getElem?_cons_succ, Option.getD_some] at st
  replace st := st.unfoldB
  simp only [List.cons_append, List.nil_append] at st
  refine ⟨hv, rec, st.obj (i := 3) get3, HSt.out.symm, HE.out.symm, ?_⟩
  replace st := st.setObj (i := 3) get3 (.loop { rec with state := .exhausted })
  generalize World.putObj _ (D + 1) (Obj.loop { rec with state := .exhausted }) = w at st ⊢
  (try simp only [nsl, Value.cells, unB] at st)
  (try clear hc); have hc := st.facts; (try simp only [nfl, nft, Nat.reduceAdd] at hc)
  go_wp2_with ((first
        | ((with_reducible refine wl_box ?_ (fun K hK => ?_)); rfl; refine owp_box (o := ⟨some 12, _, _, _, _, _⟩) rfl st ?_; apply Exists.intro; refine ⟨?_, ?_⟩; (focus (go_simp; try rfl)); (clear st; intro b12 w hb st; clear hb))
        | ((with_reducible refine wl_alloc ?_ (fun K hK => ?_)); rfl; refine owp_alloc (o := ⟨some 3, _, _, _, _, _⟩) rfl st ?_; apply Exists.intro; apply Exists.intro; refine ⟨?_, ?_⟩; (focus (first | (go_simp; done) | (go_simp; rfl))); (clear st; intro b3 w hb st; clear hb))
        | ((with_reducible refine wl_store ?_ (fun K hK => ?_)); rfl; refine owp_store rfl st ?_; apply Exists.intro; apply Exists.intro; refine ⟨?_, ?_, ?_⟩; (focus (go_simp; try rfl)); (focus (go_simp; try rfl)); (first | (with_reducible refine ⟨0, _, _, _, _, get0, rfl, rfl, ?_, ?_, ?_, ?_⟩) | (with_reducible refine ⟨1, _, _, _, _, get1, rfl, rfl, ?_, ?_, ?_, ?_⟩) | (with_reducible refine ⟨2, _, _, _, _, get2, rfl, rfl, ?_, ?_, ?_, ?_⟩) | (with_reducible refine ⟨3, _, _, _, _, get3, rfl, rfl, ?_, ?_, ?_, ?_⟩) | (with_reducible refine ⟨4, _, _, _, _, get4, rfl, rfl, ?_, ?_, ?_, ?_⟩) | (with_reducible refine ⟨5, _, _, _, _, get5, rfl, rfl, ?_, ?_, ?_, ?_⟩) | (with_reducible refine ⟨6, _, _, _, _, get6, rfl, rfl, ?_, ?_, ?_, ?_⟩) | (with_reducible refine ⟨7, _, _, _, _, get7, rfl, rfl, ?_, ?_, ?_, ?_⟩)); (kernel_rfl); (simp [Value.cells]); (rfl); (clear st; intro w st))
        | ((with_reducible refine wl_alloc ?_ (fun K hK => ?_)); rfl; refine owp_alloc (o := ⟨some 4, _, _, _, _, _⟩) rfl st ?_; apply Exists.intro; apply Exists.intro; refine ⟨?_, ?_⟩; (focus (first | (go_simp; done) | (go_simp; rfl))); (clear st; intro b4 w hb st; clear hb))
        | ((with_reducible refine wl_buildSlice ?_ (fun K hK => ?_)); rfl; refine owp_buildSlice (o := ⟨some 22, _, _, _, _, _⟩) rfl st ?_; apply Exists.intro; apply Exists.intro; apply Exists.intro; apply Exists.intro; refine ⟨?_, ?_⟩; (focus (go_simp; (first | done | exact ⟨⟨rfl, rfl⟩, rfl⟩ | rfl))); (clear st; intro b22 w hb st; clear hb))); (try simp only [nsl, Value.cells, unB] at st); (try clear hc); have hc := st.facts; (try simp only [nfl, nft, Nat.reduceAdd] at hc))
  refine ⟨by simp, .inl ⟨_, _, rfl, run_takeDeferred (st.obj (i := 2) get2), ?_⟩⟩
  refine ⟨_, results_tmp rfl _ _ _, b12, rfl, ?_⟩
  have st2 := (((st.setObj (i := 2) get2 (.deferred none)).row_nil 35 10).noSgs).keep [0, 6, 7, 4] (by decide) (by simp)
  simp only [pick, List.map, List.set, List.cons_append, List.nil_append, List.getElem?_cons_zero, List.getElem?_cons_succ, Option.getD_some] at st2
  have st3 := (st2.vltShut (ss := []) rfl rfl).keep [1, 0] (by decide) (by simp)
  simpa [pick] using st3
end
end Go.Proofs.Ythdbobnebpoolaa

namespace Go.Proofs.Ythdbobnebpoolaa
set_option linter.unusedSimpArgs false
set_option linter.unusedVariables false
open Go Go.RowKit
end Go.Proofs.Ythdbobnebpoolaa

namespace Go.Proofs.Ythdbobnebpoolaa
set_option linter.unusedSimpArgs false
set_option linter.unusedVariables false
open Go Go.RowKit
/-- How great credentials are. -/
def wtC (x : CredT) : Nat := 20 + x.h.1.length + x.h.2.length + x.w.length + x.b.1.length + x.b.2.length + x.c.1.length + x.c.2.length + x.e.length
def weightC (l : List CredT) : Nat := (l.map wtC).sum
theorem weightC_snoc (l : List CredT) (x : CredT) : weightC (l ++ [x]) = weightC l + wtC x := by simp [weightC]
theorem weightC_cons (l : List CredT) (x : CredT) : weightC (x :: l) = wtC x + weightC l := by simp [weightC]
theorem weightC_take : ∀ (l : List CredT) (j : Nat), weightC (l.take j) ≤ weightC l
  | [], j => by simp [weightC]
  | x :: l, 0 => by simp [weightC]
  | x :: l, j + 1 => by have := weightC_take l j; rw [List.take_succ_cons, weightC_cons, weightC_cons]; omega
theorem weightC_len : ∀ (l : List CredT), 20 * l.length ≤ weightC l
  | [] => by simp [weightC]
  | x :: l => by have := weightC_len l; rw [weightC_cons, List.length_cons]; unfold wtC; omega
theorem Fl.cred {w : World} {a : Option Addr} {n : Nat} {xs : List CredT} (h : Fl w a n xs) (h0 : 0 < n) : ∃ b off, a = some ⟨b, off, none⟩ ∧ ∀ j x, xs[j]? = some x → w.cell? ⟨b, off + j * 9, none⟩ = some (.int .i64 x.k) ∧ w.cell? ⟨b, off + j * 9 + 1, none⟩ = some (S x.h.1) ∧ w.cell? ⟨b, off + j * 9 + 2, none⟩ = some (S x.h.2) ∧ w.cell? ⟨b, off + j * 9 + 3, none⟩ = some (S x.w) ∧ w.cell? ⟨b, off + j * 9 + 4, none⟩ = some (S x.b.1) ∧ w.cell? ⟨b, off + j * 9 + 5, none⟩ = some (S x.b.2) ∧ w.cell? ⟨b, off + j * 9 + 6, none⟩ = some (S x.c.1) ∧ w.cell? ⟨b, off + j * 9 + 7, none⟩ = some (S x.c.2) ∧ w.cell? ⟨b, off + j * 9 + 8, none⟩ = some (S x.e) := by
  obtain ⟨b, off, rfl, hc⟩ := h.2 h0
  exact ⟨b, off, rfl, fun j x hj => ⟨hc j x hj 0 _ rfl, hc j x hj 1 _ rfl, hc j x hj 2 _ rfl, hc j x hj 3 _ rfl, hc j x hj 4 _ rfl, hc j x hj 5 _ rfl, hc j x hj 6 _ rfl, hc j x hj 7 _ rfl, hc j x hj 8 _ rfl⟩⟩
end Go.Proofs.Ythdbobnebpoolaa

namespace Go.Proofs.Ythdbobnebpoolaa
set_option linter.unusedSimpArgs false
set_option linter.unusedVariables false
open Go Go.RowKit
end Go.Proofs.Ythdbobnebpoolaa

namespace Go.Proofs.Ythdbobnebpoolaa
set_option linter.unusedSimpArgs false
set_option linter.unusedVariables false
open Go Go.RowKit
set_option maxRecDepth 100000 in
set_option maxHeartbeats 1000000 in
theorem refCredSame_any (a : Option Addr) (n c : Nat) (l : List CredT) (a' : Option Addr) (n' c' : Nat) (l' : List CredT) (W : World) (h : Fl W a n l) (h' : Fl W a' n' l') (hn : n ≤ 9000000000000000000) (hn' : n' ≤ 9000000000000000000) :
    Calls Try.prog 19 #[.slice a n c, .slice a' n' c'] W fun e w' => e = .returned (.bool (decide (l = l'))) ∧ Ext W w' := by
  have H := Lib.hid h
  have H' := Lib.hid h'
  have HNL := Lib.hid (And.intro h.1 h'.1)
  clear h h'
  have st := Own.startOld W
  (try simp only [nsl, Value.cells, unB] at st)
  (try clear hc); have hc := st.facts; (try simp only [nfl, nft, Nat.reduceAdd] at hc)
  by_cases hnn : n = n'
  · subst hnn
    go_enter Try.func19, Try.ntmps19
    go_wp2_with fail
    go_loopw [13] (fun i wr => ∃ (j : Nat), j ≤ n ∧ i = .int .i64 (j : Int) ∧ Hid (l.take j = l'.take j) ∧ Own (fun _ => False) (fun _ => True) W [oldI W] wr) (fun i _ => n - (intOf i).toNat)
    case atStart => exact ⟨0, by omega, rfl, Lib.hid (by simp), st⟩
    case round =>
      obtain ⟨j, hj, rfl, HT, st'⟩ := hrel
      clear st hc
      have st := st'
      clear st'
      (try simp only [nsl, Value.cells, unB] at st)
      (try clear hc); have hc := st.facts; (try simp only [nfl, nft, Nat.reduceAdd] at hc)
      by_cases hjn : j < n
      · obtain ⟨b, off, ha, hcell⟩ := H.out.cred (by omega)
        obtain ⟨b', off', ha', hcell'⟩ := H'.out.cred (by omega)
        have hjl : j < l.length := by have := HNL.out; omega
        have hjl' : j < l'.length := by have := HNL.out; omega
        have HC := Lib.hid (And.intro (hcell j l[j] (List.getElem?_eq_getElem hjl)) (hcell' j l'[j] (List.getElem?_eq_getElem hjl')))
        have hts : l.take (j + 1) = l.take j ++ [l[j]] := (List.take_append_getElem hjl).symm
        have hts' : l'.take (j + 1) = l'.take j ++ [l'[j]] := (List.take_append_getElem hjl').symm
        have hne : l[j] ≠ l'[j] → l ≠ l' := fun h1 h2 => h1 (by subst h2; rfl)
        clear hcell hcell'
        generalize l[j] = x at *
        generalize l'[j] = y at *
        obtain ⟨kk, ⟨ho, hd⟩, nw, ⟨bo, bd⟩, ⟨co, cd⟩, we⟩ := x
        obtain ⟨kk', ⟨ho', hd'⟩, nw', ⟨bo', bd'⟩, ⟨co', cd'⟩, we'⟩ := y
        have HX := Lib.hid (And.intro hts (And.intro hts' hne))
        clear hts hts' hne
        subst ha
        subst ha'
        simp only at HC
        unfold S at HC
        go_wp2_with fail
        refine Rg4.wp_region4_eq #[0, 0, 3, 7, 0, 0, 48, 112, 255] [] [3, 7] (fun _ => True) [0, 1, 2, 3, 4, 5, 6, 7, 8] (by kernel_rfl) (by kernel_rfl) (by kernel_rfl) (by kernel_rfl) (show Rg4.PB _ by repeat (first | with_reducible exact Rg4.pb_body | with_reducible exact Rg4.pb_bodyD rfl | with_reducible refine Rg4.pb_then ?_ | with_reducible refine Rg4.pb_inBlock ?_ | with_reducible refine Rg4.pb_noGoto ?_ | with_reducible assumption)) (trivial) ?_
        replace st := st.drew
        change Rg4.wp4 _ _ _ _ _ _ _ _ _ (World.drew _) _ _
        generalize World.drew _ = w at st ⊢
        (try clear hc); have hc := st.facts; (try simp only [nfl, nft, Nat.reduceAdd] at hc)
        iterate 3 (refine Rg4.w4_any (Rg4.want_none rfl) rfl ?_; apply Exists.intro; refine ⟨fun w' => ?_, ?_⟩; (focus (first | (go_simp; done) | (go_simp; first | rfl | (rw [if_neg] <;> first | rfl | omega) | (rw [if_pos] <;> first | rfl | omega)))); (try simp only [Rg4.nrm]))
        (refine Rg4.w4_read (Rg4.want_none rfl) rfl rfl ?_; apply Exists.intro; refine ⟨fun w' hw' hcl' => ?_, ?_⟩; focus (subst hw'; have r0 := st.oldCell (i := 0) get0 HC.out.1.1; have r1 := st.oldCell (i := 0) get0 HC.out.1.2.1; have r2 := st.oldCell (i := 0) get0 HC.out.1.2.2.1; have r3 := st.oldCell (i := 0) get0 HC.out.1.2.2.2.1; have r4 := st.oldCell (i := 0) get0 HC.out.1.2.2.2.2.1; have r5 := st.oldCell (i := 0) get0 HC.out.1.2.2.2.2.2.1; have r6 := st.oldCell (i := 0) get0 HC.out.1.2.2.2.2.2.2.1; have r7 := st.oldCell (i := 0) get0 HC.out.1.2.2.2.2.2.2.2.1; have r8 := st.oldCell (i := 0) get0 HC.out.1.2.2.2.2.2.2.2.2; have s0 := st.oldCell (i := 0) get0 HC.out.2.1; have s1 := st.oldCell (i := 0) get0 HC.out.2.2.1; have s2 := st.oldCell (i := 0) get0 HC.out.2.2.2.1; have s3 := st.oldCell (i := 0) get0 HC.out.2.2.2.2.1; have s4 := st.oldCell (i := 0) get0 HC.out.2.2.2.2.2.1; have s5 := st.oldCell (i := 0) get0 HC.out.2.2.2.2.2.2.1; have s6 := st.oldCell (i := 0) get0 HC.out.2.2.2.2.2.2.2.1; have s7 := st.oldCell (i := 0) get0 HC.out.2.2.2.2.2.2.2.2.1; have s8 := st.oldCell (i := 0) get0 HC.out.2.2.2.2.2.2.2.2.2; (focus (first | (go_simp; done) | (go_simp; first | rfl | (rw [if_neg] <;> first | rfl | omega) | (rw [if_pos] <;> first | rfl | omega))))); (try simp only [Rg4.nrm]))
        iterate 3 (refine Rg4.w4_any (Rg4.want_none rfl) rfl ?_; apply Exists.intro; refine ⟨fun w' => ?_, ?_⟩; (focus (first | (go_simp; done) | (go_simp; first | rfl | (rw [if_neg] <;> first | rfl | omega) | (rw [if_pos] <;> first | rfl | omega)))); (try simp only [Rg4.nrm]))
        (refine Rg4.w4_read (Rg4.want_none rfl) rfl rfl ?_; apply Exists.intro; refine ⟨fun w' hw' hcl' => ?_, ?_⟩; focus (subst hw'; have r0 := st.oldCell (i := 0) get0 HC.out.1.1; have r1 := st.oldCell (i := 0) get0 HC.out.1.2.1; have r2 := st.oldCell (i := 0) get0 HC.out.1.2.2.1; have r3 := st.oldCell (i := 0) get0 HC.out.1.2.2.2.1; have r4 := st.oldCell (i := 0) get0 HC.out.1.2.2.2.2.1; have r5 := st.oldCell (i := 0) get0 HC.out.1.2.2.2.2.2.1; have r6 := st.oldCell (i := 0) get0 HC.out.1.2.2.2.2.2.2.1; have r7 := st.oldCell (i := 0) get0 HC.out.1.2.2.2.2.2.2.2.1; have r8 := st.oldCell (i := 0) get0 HC.out.1.2.2.2.2.2.2.2.2; have s0 := st.oldCell (i := 0) get0 HC.out.2.1; have s1 := st.oldCell (i := 0) get0 HC.out.2.2.1; have s2 := st.oldCell (i := 0) get0 HC.out.2.2.2.1; have s3 := st.oldCell (i := 0) get0 HC.out.2.2.2.2.1; have s4 := st.oldCell (i := 0) get0 HC.out.2.2.2.2.2.1; have s5 := st.oldCell (i := 0) get0 HC.out.2.2.2.2.2.2.1; have s6 := st.oldCell (i := 0) get0 HC.out.2.2.2.2.2.2.2.1; have s7 := st.oldCell (i := 0) get0 HC.out.2.2.2.2.2.2.2.2.1; have s8 := st.oldCell (i := 0) get0 HC.out.2.2.2.2.2.2.2.2.2; (focus (first | (go_simp; done) | (go_simp; first | rfl | (rw [if_neg] <;> first | rfl | omega) | (rw [if_pos] <;> first | rfl | omega))))); (try simp only [Rg4.nrm]))
        (refine Rg4.w4_any (Rg4.want_none rfl) rfl ?_; apply Exists.intro; refine ⟨fun w' => ?_, ?_⟩; (focus (first | (go_simp; done) | (go_simp; first | rfl | (rw [if_neg] <;> first | rfl | omega) | (rw [if_pos] <;> first | rfl | omega)))); (try simp only [Rg4.nrm]))
        refine Rg4.w4_nil (fun w' hw' hcl' _ => ?_); subst hw'; clear hcl'
        cases hxy : credEq (⟨kk, (ho, hd), nw, (bo, bd), (co, cd), we⟩ : CredT) (⟨kk', (ho', hd'), nw', (bo', bd'), (co', cd'), we'⟩ : CredT) with
        | true =>
          have hb : (!true) = false := rfl
          have HF : Hid (l.take (j + 1) = l'.take (j + 1)) := Lib.hid (by rw [credEq_eq, decide_eq_true_eq] at hxy; rw [HX.out.1, HX.out.2.1, HT.out, hxy])
          clear hxy
          simp only [hb]
          go_wp2_with fail
          exact ⟨⟨j + 1, by omega, by go_num, HF, st⟩, by simp [intOf]; omega⟩
        | false =>
          have hb : (!false) = true := rfl
          have HF : Hid (l ≠ l') := Lib.hid (HX.out.2.2 (by rw [credEq_eq, decide_eq_false_iff_not] at hxy; exact hxy))
          clear hxy
          simp only [hb]
          go_wp2_with fail
          go_ret
          exact ⟨by rw [decide_eq_false HF.out]; rfl, st.ext0⟩
      · obtain rfl : j = n := by omega
        have HF : Hid (l = l') := Lib.hid (by have := HT.out; rw [List.take_of_length_le (by have := HNL.out; omega), List.take_of_length_le (by have := HNL.out; omega)] at this; exact this)
        go_wp2_with fail
        go_ret
        exact ⟨by rw [decide_eq_true HF.out]; rfl, st.ext0⟩
  · have HF : Hid (l ≠ l') := Lib.hid (fun h => hnn (by rw [HNL.out.1, HNL.out.2, h]))
    go_enter Try.func19, Try.ntmps19
    go_wp2_with fail
    go_ret
    exact ⟨by rw [decide_eq_false HF.out]; rfl, st.ext0⟩
end Go.Proofs.Ythdbobnebpoolaa

namespace Go.Proofs.Ythdbobnebpoolaa
set_option linter.unusedSimpArgs false
set_option linter.unusedVariables false
open Go Go.RowKit
set_option maxRecDepth 100000 in
set_option maxHeartbeats 1000000 in
theorem refSgRt_any (x : SgnT) (W : World) (hl : CredL 100000 x.c) : Calls Try.prog 36 #[sgV x] W fun e w' => e = .returned (.bool (credR x.c && (x.n == 8))) ∧ Ext W w' := by
  have HCR := Lib.hid (fun W => refCredRight_any x.c W (by unfold CredL at hl; omega))
  obtain ⟨cr, hcr⟩ : ∃ q, credR x.c = q := ⟨_, rfl⟩
  rw [hcr] at HCR ⊢
  clear hcr hl
  obtain ⟨⟨ck, ⟨ho, hd⟩, cw, ⟨bo, bd⟩, ⟨co, cd⟩, we⟩, a1, n1, m1, xs⟩ := x
  have st := Own.startOld W
  unfold cV S at HCR
  unfold sgV S
  simp only at HCR ⊢
  (try simp only [nsl, Value.cells, unB] at st)
  (try clear hc); have hc := st.facts; (try simp only [nfl, nft, Nat.reduceAdd] at hc)
  cases cr with
  | false =>
    go_enter Try.func36, Try.ntmps36
    go_wp2_with ((((with_reducible refine wl_box ?_ (fun K hK => ?_)); rfl; refine owp_box (o := ⟨some 1, _, _, _, _, _⟩) rfl st ?_; apply Exists.intro; refine ⟨?_, ?_⟩; (focus (go_simp; try rfl)); (clear st; intro b1 w hb st; clear hb))); (try simp only [nsl, Value.cells, unB] at st); (try clear hc); have hc := st.facts; (try simp only [nfl, nft, Nat.reduceAdd] at hc))
    refine (HCR.out _).mono ?_
    rintro en w ⟨rfl, hx⟩
    replace st := st.ext hx
    clear hx
    (try clear hc); have hc := st.facts; (try simp only [nfl, nft, Nat.reduceAdd] at hc)
    go_wp2_with ((((with_reducible refine wl_box ?_ (fun K hK => ?_)); rfl; refine owp_box (o := ⟨some 1, _, _, _, _, _⟩) rfl st ?_; apply Exists.intro; refine ⟨?_, ?_⟩; (focus (go_simp; try rfl)); (clear st; intro b1 w hb st; clear hb))); (try simp only [nsl, Value.cells, unB] at st); (try clear hc); have hc := st.facts; (try simp only [nfl, nft, Nat.reduceAdd] at hc))
    go_ret
    exact ⟨rfl, st.ext0⟩
  | true =>
    by_cases h8 : n1 = 8
    · subst h8
      go_enter Try.func36, Try.ntmps36
      go_wp2_with ((((with_reducible refine wl_box ?_ (fun K hK => ?_)); rfl; refine owp_box (o := ⟨some 1, _, _, _, _, _⟩) rfl st ?_; apply Exists.intro; refine ⟨?_, ?_⟩; (focus (go_simp; try rfl)); (clear st; intro b1 w hb st; clear hb))); (try simp only [nsl, Value.cells, unB] at st); (try clear hc); have hc := st.facts; (try simp only [nfl, nft, Nat.reduceAdd] at hc))
      refine (HCR.out _).mono ?_
      rintro en w ⟨rfl, hx⟩
      replace st := st.ext hx
      clear hx
      (try clear hc); have hc := st.facts; (try simp only [nfl, nft, Nat.reduceAdd] at hc)
      go_wp2_with ((((with_reducible refine wl_box ?_ (fun K hK => ?_)); rfl; refine owp_box (o := ⟨some 1, _, _, _, _, _⟩) rfl st ?_; apply Exists.intro; refine ⟨?_, ?_⟩; (focus (go_simp; try rfl)); (clear st; intro b1 w hb st; clear hb))); (try simp only [nsl, Value.cells, unB] at st); (try clear hc); have hc := st.facts; (try simp only [nfl, nft, Nat.reduceAdd] at hc))
      go_ret
      exact ⟨rfl, st.ext0⟩
    · have h8b : ((n1 : Int) == 8) = false := by simpa using (by omega : (n1 : Int) ≠ 8)
      have H8 : Hid ((n1 == 8) = false) := Lib.hid (by simpa using h8)
      clear h8
      go_enter Try.func36, Try.ntmps36
      go_wp2_with ((((with_reducible refine wl_box ?_ (fun K hK => ?_)); rfl; refine owp_box (o := ⟨some 1, _, _, _, _, _⟩) rfl st ?_; apply Exists.intro; refine ⟨?_, ?_⟩; (focus (go_simp; try rfl)); (clear st; intro b1 w hb st; clear hb))); (try simp only [nsl, Value.cells, unB] at st); (try clear hc); have hc := st.facts; (try simp only [nfl, nft, Nat.reduceAdd] at hc))
      refine (HCR.out _).mono ?_
      rintro en w ⟨rfl, hx⟩
      replace st := st.ext hx
      clear hx
      (try clear hc); have hc := st.facts; (try simp only [nfl, nft, Nat.reduceAdd] at hc)
      go_wp2_with ((((with_reducible refine wl_box ?_ (fun K hK => ?_)); rfl; refine owp_box (o := ⟨some 1, _, _, _, _, _⟩) rfl st ?_; apply Exists.intro; refine ⟨?_, ?_⟩; (focus (go_simp; try rfl)); (clear st; intro b1 w hb st; clear hb))); (try simp only [nsl, Value.cells, unB] at st); (try clear hc); have hc := st.facts; (try simp only [nfl, nft, Nat.reduceAdd] at hc))
      go_ret
      exact ⟨by rw [H8.out]; rfl, st.ext0⟩
end Go.Proofs.Ythdbobnebpoolaa

namespace Go.Proofs.Ythdbobnebpoolaa
set_option linter.unusedSimpArgs false
set_option linter.unusedVariables false
open Go Go.RowKit
theorem find_drop {p : SgnT → Bool} {l : List SgnT} {k : Nat} (hk : k < l.length) (h : (l.drop k).find? p = l.find? p) (hn : p l[k] = false) : (l.drop (k + 1)).find? p = l.find? p := by
  rw [← h, List.drop_eq_getElem_cons hk, List.find?_cons, hn]
theorem find_here {p : SgnT → Bool} {l : List SgnT} {k : Nat} (hk : k < l.length) (h : (l.drop k).find? p = l.find? p) (hn : p l[k] = true) : l.find? p = some l[k] := by
  rw [← h, List.drop_eq_getElem_cons hk, List.find?_cons, hn]
set_option maxRecDepth 100000 in
set_option maxHeartbeats 4000000 in
theorem refVGet_any (a : Option Addr) (n c : Nat) (most : Int) (rs : List SgnT) (x : CredT) (W : World) (h : Fl W a n rs) (hn : n ≤ 1000000) :
    Calls Try.prog 17 #[.agg #[.slice a n c, .int .i64 most], cV x] W fun e w' => ∃ y : SgnT, e = .returned (.tuple #[sgV y, .bool (rs.find? fun s => decide (s.c = x)).isSome]) ∧ (rs.find? fun s => decide (s.c = x)).getD zSg = y ∧ Ext W w' := by
  have H := Lib.hid h
  have HN := Lib.hid h.1
  have st := Own.startOld W
  obtain ⟨xg, hxg⟩ : ∃ g, x = g := ⟨_, rfl⟩
  have HXG := Lib.hid hxg
  obtain ⟨xk, ⟨xo, xd⟩, xw, ⟨yo, yd⟩, ⟨zo, zd⟩, xe⟩ := x
  unfold cV S
  simp only
  rw [hxg]
  clear h hxg
  (try simp only [nsl, Value.cells, unB] at st)
  (try clear hc); have hc := st.facts; (try simp only [nfl, nft, elI, elF, Nat.reduceAdd] at hc)
  go_enter Try.func17, Try.ntmps17
  go_wp2_with ((first
        | ((with_reducible refine wl_box ?_ (fun K hK => ?_)); rfl; refine owp_box (o := ⟨some 2, _, _, _, _, _⟩) rfl st ?_; apply Exists.intro; refine ⟨?_, ?_⟩; (focus (go_simp; try rfl)); (clear st; intro b2 w hb st; clear hb))
        | ((with_reducible refine wl_box ?_ (fun K hK => ?_)); rfl; refine owp_box (o := ⟨some 3, _, _, _, _, _⟩) rfl st ?_; apply Exists.intro; refine ⟨?_, ?_⟩; (focus (go_simp; try rfl)); (clear st; intro b3 w hb st; clear hb))
        | ((with_reducible refine wl_alloc ?_ (fun K hK => ?_)); rfl; refine owp_alloc (o := ⟨some 4, _, _, _, _, _⟩) rfl st ?_; apply Exists.intro; apply Exists.intro; refine ⟨?_, ?_⟩; (focus (first | (go_simp; done) | (go_simp; rfl))); (clear st; intro b4 w hb st; clear hb))
        | ((with_reducible refine wl_alloc ?_ (fun K hK => ?_)); rfl; refine owp_alloc (o := ⟨some 7, _, _, _, _, _⟩) rfl st ?_; apply Exists.intro; apply Exists.intro; refine ⟨?_, ?_⟩; (focus (first | (go_simp; done) | (go_simp; rfl))); (clear st; intro b7 w hb st; clear hb))
        | ((with_reducible refine wl_store ?_ (fun K hK => ?_)); rfl; refine owp_store rfl st ?_; apply Exists.intro; apply Exists.intro; refine ⟨?_, ?_, ?_⟩; (focus (go_simp; try rfl)); (focus (go_simp; try rfl)); (first | (with_reducible refine ⟨0, _, _, _, _, get0, rfl, rfl, ?_, ?_, ?_, ?_⟩) | (with_reducible refine ⟨1, _, _, _, _, get1, rfl, rfl, ?_, ?_, ?_, ?_⟩) | (with_reducible refine ⟨2, _, _, _, _, get2, rfl, rfl, ?_, ?_, ?_, ?_⟩) | (with_reducible refine ⟨3, _, _, _, _, get3, rfl, rfl, ?_, ?_, ?_, ?_⟩) | (with_reducible refine ⟨4, _, _, _, _, get4, rfl, rfl, ?_, ?_, ?_, ?_⟩) | (with_reducible refine ⟨5, _, _, _, _, get5, rfl, rfl, ?_, ?_, ?_, ?_⟩) | (with_reducible refine ⟨6, _, _, _, _, get6, rfl, rfl, ?_, ?_, ?_, ?_⟩) | (with_reducible refine ⟨7, _, _, _, _, get7, rfl, rfl, ?_, ?_, ?_, ?_⟩)); (kernel_rfl); (simp [Value.cells]); (rfl); (clear st; intro w st))); (try simp only [nsl, Value.cells, unB] at st); (try clear hc); have hc := st.facts; (try simp only [nfl, nft, elI, elF, Nat.reduceAdd] at hc))
  go_loopg [11] n (fun q vi wr => ∃ k, q = n - k ∧ vi = .int .i64 (k : Int) ∧ k ≤ n ∧ Hid ((rs.drop k).find? (fun s => decide (s.c = xg)) = rs.find? (fun s => decide (s.c = xg))) ∧ Own (fun _ => False) (fun _ => True) W [oldI W, blkI b2 [.slice a n c, .int .i64 most], blkI b3 [.int .i64 xk, .string ⟨xo.toArray⟩, .string ⟨xd.toArray⟩, .string ⟨xw.toArray⟩, .string ⟨yo.toArray⟩, .string ⟨yd.toArray⟩, .string ⟨zo.toArray⟩, .string ⟨zd.toArray⟩, .string ⟨xe.toArray⟩], blkI b4 [.int .i64 0, .string ⟨#[]⟩, .string ⟨#[]⟩, .string ⟨#[]⟩, .string ⟨#[]⟩, .string ⟨#[]⟩, .string ⟨#[]⟩, .string ⟨#[]⟩, .string ⟨#[]⟩, .slice none 0 0]] wr)
  case atStart => exact ⟨0, by omega, rfl, by omega, Lib.hid rfl, st⟩
  case round =>
    obtain ⟨k, rfl, rfl, hk, HP, st'⟩ := hrel
    clear st hc
    have st := st'
    clear st'
    by_cases hlt : k < n
    · have hin : (k : Int) < (n : Int) := by omega
      have hps : k < rs.length := by have := HN.out; omega
      have hgs := List.getElem?_eq_getElem hps
      have HNO := Lib.hid (find_drop (p := fun s => decide (s.c = xg)) hps HP.out)
      have HYES := Lib.hid (find_here (p := fun s => decide (s.c = xg)) hps HP.out)
      generalize rs[k] = y at hgs HNO HYES
      obtain ⟨b, off, ha, hcell⟩ := H.out.sgn (by omega)
      subst ha
      clear hcell hps
      replace st := st.sgEl (i := 0) get0 H.out hgs
      simp only [List.cons_append, List.nil_append] at st
      obtain ⟨⟨ck, ⟨ho, hd⟩, cw, ⟨bo, bd⟩, ⟨co, cd⟩, we⟩, ta, tn, tm, ts⟩ := y
      unfold Proofs.Ythdbobnebpoolaa.sgEl at st
      simp only at st
      clear hgs
      (try simp only [nsl, Value.cells, unB] at st)
      (try clear hc); have hc := st.facts; (try simp only [nfl, nft, elI, elF, Nat.reduceAdd] at hc)
      cases he : credEq (⟨ck, (ho, hd), cw, (bo, bd), (co, cd), we⟩ : CredT) ⟨xk, (xo, xd), xw, (yo, yd), (zo, zd), xe⟩ with
      | false =>
        have HP2 := Lib.hid (HNO.out (by rw [credEq_eq, decide_eq_false_iff_not] at he; rw [← HXG.out, decide_eq_false_iff_not]; exact he))
        go_wp2_with ((first
              | ((with_reducible refine wl_box ?_ (fun K hK => ?_)); rfl; refine owp_box (o := ⟨some 2, _, _, _, _, _⟩) rfl st ?_; apply Exists.intro; refine ⟨?_, ?_⟩; (focus (go_simp; try rfl)); (clear st; intro b2 w hb st; clear hb))
              | ((with_reducible refine wl_box ?_ (fun K hK => ?_)); rfl; refine owp_box (o := ⟨some 3, _, _, _, _, _⟩) rfl st ?_; apply Exists.intro; refine ⟨?_, ?_⟩; (focus (go_simp; try rfl)); (clear st; intro b3 w hb st; clear hb))
              | ((with_reducible refine wl_alloc ?_ (fun K hK => ?_)); rfl; refine owp_alloc (o := ⟨some 4, _, _, _, _, _⟩) rfl st ?_; apply Exists.intro; apply Exists.intro; refine ⟨?_, ?_⟩; (focus (first | (go_simp; done) | (go_simp; rfl))); (clear st; intro b4 w hb st; clear hb))
              | ((with_reducible refine wl_alloc ?_ (fun K hK => ?_)); rfl; refine owp_alloc (o := ⟨some 7, _, _, _, _, _⟩) rfl st ?_; apply Exists.intro; apply Exists.intro; refine ⟨?_, ?_⟩; (focus (first | (go_simp; done) | (go_simp; rfl))); (clear st; intro b7 w hb st; clear hb))
              | ((with_reducible refine wl_store ?_ (fun K hK => ?_)); rfl; refine owp_store rfl st ?_; apply Exists.intro; apply Exists.intro; refine ⟨?_, ?_, ?_⟩; (focus (go_simp; try rfl)); (focus (go_simp; try rfl)); (first | (with_reducible refine ⟨0, _, _, _, _, get0, rfl, rfl, ?_, ?_, ?_, ?_⟩) | (with_reducible refine ⟨1, _, _, _, _, get1, rfl, rfl, ?_, ?_, ?_, ?_⟩) | (with_reducible refine ⟨2, _, _, _, _, get2, rfl, rfl, ?_, ?_, ?_, ?_⟩) | (with_reducible refine ⟨3, _, _, _, _, get3, rfl, rfl, ?_, ?_, ?_, ?_⟩) | (with_reducible refine ⟨4, _, _, _, _, get4, rfl, rfl, ?_, ?_, ?_, ?_⟩) | (with_reducible refine ⟨5, _, _, _, _, get5, rfl, rfl, ?_, ?_, ?_, ?_⟩) | (with_reducible refine ⟨6, _, _, _, _, get6, rfl, rfl, ?_, ?_, ?_, ?_⟩) | (with_reducible refine ⟨7, _, _, _, _, get7, rfl, rfl, ?_, ?_, ?_, ?_⟩)); (kernel_rfl); (simp [Value.cells]); (rfl); (clear st; intro w st))); (try simp only [nsl, Value.cells, unB] at st); (try clear hc); have hc := st.facts; (try simp only [nfl, nft, elI, elF, Nat.reduceAdd] at hc))
        have st2 := st.keep [0, 1, 2, 3] (by decide) (by simp)
        go_roundg (n - (k + 1))
        case measure => omega
        case rel => exact ⟨k + 1, rfl, by go_num, by omega, HP2, by simpa [pick] using st2⟩
      | true =>
        have HF := Lib.hid (HYES.out (by rw [credEq_eq, decide_eq_true_eq] at he; rw [← HXG.out, decide_eq_true_eq]; exact he))
        go_wp2_with ((first
              | ((with_reducible refine wl_box ?_ (fun K hK => ?_)); rfl; refine owp_box (o := ⟨some 2, _, _, _, _, _⟩) rfl st ?_; apply Exists.intro; refine ⟨?_, ?_⟩; (focus (go_simp; try rfl)); (clear st; intro b2 w hb st; clear hb))
              | ((with_reducible refine wl_box ?_ (fun K hK => ?_)); rfl; refine owp_box (o := ⟨some 3, _, _, _, _, _⟩) rfl st ?_; apply Exists.intro; refine ⟨?_, ?_⟩; (focus (go_simp; try rfl)); (clear st; intro b3 w hb st; clear hb))
              | ((with_reducible refine wl_alloc ?_ (fun K hK => ?_)); rfl; refine owp_alloc (o := ⟨some 4, _, _, _, _, _⟩) rfl st ?_; apply Exists.intro; apply Exists.intro; refine ⟨?_, ?_⟩; (focus (first | (go_simp; done) | (go_simp; rfl))); (clear st; intro b4 w hb st; clear hb))
              | ((with_reducible refine wl_alloc ?_ (fun K hK => ?_)); rfl; refine owp_alloc (o := ⟨some 7, _, _, _, _, _⟩) rfl st ?_; apply Exists.intro; apply Exists.intro; refine ⟨?_, ?_⟩; (focus (first | (go_simp; done) | (go_simp; rfl))); (clear st; intro b7 w hb st; clear hb))
              | ((with_reducible refine wl_store ?_ (fun K hK => ?_)); rfl; refine owp_store rfl st ?_; apply Exists.intro; apply Exists.intro; refine ⟨?_, ?_, ?_⟩; (focus (go_simp; try rfl)); (focus (go_simp; try rfl)); (first | (with_reducible refine ⟨0, _, _, _, _, get0, rfl, rfl, ?_, ?_, ?_, ?_⟩) | (with_reducible refine ⟨1, _, _, _, _, get1, rfl, rfl, ?_, ?_, ?_, ?_⟩) | (with_reducible refine ⟨2, _, _, _, _, get2, rfl, rfl, ?_, ?_, ?_, ?_⟩) | (with_reducible refine ⟨3, _, _, _, _, get3, rfl, rfl, ?_, ?_, ?_, ?_⟩) | (with_reducible refine ⟨4, _, _, _, _, get4, rfl, rfl, ?_, ?_, ?_, ?_⟩) | (with_reducible refine ⟨5, _, _, _, _, get5, rfl, rfl, ?_, ?_, ?_, ?_⟩) | (with_reducible refine ⟨6, _, _, _, _, get6, rfl, rfl, ?_, ?_, ?_, ?_⟩) | (with_reducible refine ⟨7, _, _, _, _, get7, rfl, rfl, ?_, ?_, ?_, ?_⟩)); (kernel_rfl); (simp [Value.cells]); (rfl); (clear st; intro w st))); (try simp only [nsl, Value.cells, unB] at st); (try clear hc); have hc := st.facts; (try simp only [nfl, nft, elI, elF, Nat.reduceAdd] at hc))
        (try simp only [Exit.inBlock, Exit.then])
        refine bodyPost_cell2 rfl rfl (st.blk (i := 3) get3) Try.underlying35 rfl (by kernel_rfl) rfl ?_
        exact ⟨⟨⟨ck, (ho, hd), cw, (bo, bd), (co, cd), we⟩, ta, tn, tm, ts⟩, by rw [HF.out]; rfl, by rw [HF.out]; rfl, st.ext0⟩
    · have hin : ¬ (k : Int) < (n : Int) := by omega
      obtain rfl : k = n := by omega
      have HF : Hid (rs.find? (fun s => decide (s.c = xg)) = none) := Lib.hid (by rw [← HP.out, HN.out, List.drop_length]; rfl)
      go_wp2_with ((first
            | ((with_reducible refine wl_box ?_ (fun K hK => ?_)); rfl; refine owp_box (o := ⟨some 2, _, _, _, _, _⟩) rfl st ?_; apply Exists.intro; refine ⟨?_, ?_⟩; (focus (go_simp; try rfl)); (clear st; intro b2 w hb st; clear hb))
            | ((with_reducible refine wl_box ?_ (fun K hK => ?_)); rfl; refine owp_box (o := ⟨some 3, _, _, _, _, _⟩) rfl st ?_; apply Exists.intro; refine ⟨?_, ?_⟩; (focus (go_simp; try rfl)); (clear st; intro b3 w hb st; clear hb))
            | ((with_reducible refine wl_alloc ?_ (fun K hK => ?_)); rfl; refine owp_alloc (o := ⟨some 4, _, _, _, _, _⟩) rfl st ?_; apply Exists.intro; apply Exists.intro; refine ⟨?_, ?_⟩; (focus (first | (go_simp; done) | (go_simp; rfl))); (clear st; intro b4 w hb st; clear hb))
            | ((with_reducible refine wl_alloc ?_ (fun K hK => ?_)); rfl; refine owp_alloc (o := ⟨some 7, _, _, _, _, _⟩) rfl st ?_; apply Exists.intro; apply Exists.intro; refine ⟨?_, ?_⟩; (focus (first | (go_simp; done) | (go_simp; rfl))); (clear st; intro b7 w hb st; clear hb))
            | ((with_reducible refine wl_store ?_ (fun K hK => ?_)); rfl; refine owp_store rfl st ?_; apply Exists.intro; apply Exists.intro; refine ⟨?_, ?_, ?_⟩; (focus (go_simp; try rfl)); (focus (go_simp; try rfl)); (first | (with_reducible refine ⟨0, _, _, _, _, get0, rfl, rfl, ?_, ?_, ?_, ?_⟩) | (with_reducible refine ⟨1, _, _, _, _, get1, rfl, rfl, ?_, ?_, ?_, ?_⟩) | (with_reducible refine ⟨2, _, _, _, _, get2, rfl, rfl, ?_, ?_, ?_, ?_⟩) | (with_reducible refine ⟨3, _, _, _, _, get3, rfl, rfl, ?_, ?_, ?_, ?_⟩) | (with_reducible refine ⟨4, _, _, _, _, get4, rfl, rfl, ?_, ?_, ?_, ?_⟩) | (with_reducible refine ⟨5, _, _, _, _, get5, rfl, rfl, ?_, ?_, ?_, ?_⟩) | (with_reducible refine ⟨6, _, _, _, _, get6, rfl, rfl, ?_, ?_, ?_, ?_⟩) | (with_reducible refine ⟨7, _, _, _, _, get7, rfl, rfl, ?_, ?_, ?_, ?_⟩)); (kernel_rfl); (simp [Value.cells]); (rfl); (clear st; intro w st))); (try simp only [nsl, Value.cells, unB] at st); (try clear hc); have hc := st.facts; (try simp only [nfl, nft, elI, elF, Nat.reduceAdd] at hc))
      (try simp only [Exit.inBlock, Exit.then])
      refine bodyPost_cell2 rfl rfl (st.blk (i := 3) get3) Try.underlying35 rfl (by kernel_rfl) rfl ?_
      exact ⟨zSg, by rw [HF.out]; rfl, by rw [HF.out]; rfl, st.ext0⟩
set_option maxRecDepth 100000 in
set_option maxHeartbeats 4000000 in
theorem refVCreds_any (a : Option Addr) (n c : Nat) (most : Int) (rs : List SgnT) (W : World) (h : Fl W a n rs) (hn : n ≤ 1000000) :
    Calls Try.prog 20 #[.agg #[.slice a n c, .int .i64 most]] W fun e w' => ∃ va vc, e = .returned (.slice va n vc) ∧ FreshI W w' (rowI 32 9 (.slice va n vc) n (cellsL (rs.map SgnT.c))) := by
  have H := Lib.hid h
  have HN := Lib.hid h.1
  have st := Own.startOld W
  clear h
  (try simp only [nsl, Value.cells, unB] at st)
  (try clear hc); have hc := st.facts; (try simp only [nfl, nft, elI, elF, Nat.reduceAdd] at hc)
  go_enter Try.func20, Try.ntmps20
  go_wp2_with ((first
        | ((with_reducible refine wl_box ?_ (fun K hK => ?_)); rfl; refine owp_box (o := ⟨some 1, _, _, _, _, _⟩) rfl st ?_; apply Exists.intro; refine ⟨?_, ?_⟩; (focus (go_simp; try rfl)); (clear st; intro b1 w hb st; clear hb))
        | ((with_reducible refine wl_alloc ?_ (fun K hK => ?_)); rfl; refine owp_alloc (o := ⟨some 5, _, _, _, _, _⟩) rfl st ?_; apply Exists.intro; apply Exists.intro; refine ⟨?_, ?_⟩; (focus (first | (go_simp; done) | (go_simp; rfl))); (clear st; intro b5 w hb st; clear hb))
        | ((with_reducible refine wl_store ?_ (fun K hK => ?_)); rfl; refine owp_store rfl st ?_; apply Exists.intro; apply Exists.intro; refine ⟨?_, ?_, ?_⟩; (focus (go_simp; try rfl)); (focus (go_simp; try rfl)); (first | (with_reducible refine ⟨0, _, _, _, _, get0, rfl, rfl, ?_, ?_, ?_, ?_⟩) | (with_reducible refine ⟨1, _, _, _, _, get1, rfl, rfl, ?_, ?_, ?_, ?_⟩) | (with_reducible refine ⟨2, _, _, _, _, get2, rfl, rfl, ?_, ?_, ?_, ?_⟩) | (with_reducible refine ⟨3, _, _, _, _, get3, rfl, rfl, ?_, ?_, ?_, ?_⟩) | (with_reducible refine ⟨4, _, _, _, _, get4, rfl, rfl, ?_, ?_, ?_, ?_⟩) | (with_reducible refine ⟨5, _, _, _, _, get5, rfl, rfl, ?_, ?_, ?_, ?_⟩) | (with_reducible refine ⟨6, _, _, _, _, get6, rfl, rfl, ?_, ?_, ?_, ?_⟩) | (with_reducible refine ⟨7, _, _, _, _, get7, rfl, rfl, ?_, ?_, ?_, ?_⟩)); (kernel_rfl); (simp [Value.cells]); (rfl); (clear st; intro w st))
        | ((with_reducible refine wl_buildSlice ?_ (fun K hK => ?_)); rfl; refine owp_buildSlice (o := ⟨some 16, _, _, _, _, _⟩) rfl st ?_; apply Exists.intro; apply Exists.intro; apply Exists.intro; apply Exists.intro; refine ⟨?_, ?_⟩; (focus (go_simp; (first | done | exact ⟨⟨rfl, rfl⟩, rfl⟩ | rfl))); (clear st; intro b16 w hb st; clear hb))); (try simp only [nsl, Value.cells, unB] at st); (try clear hc); have hc := st.facts; (try simp only [nfl, nft, elI, elF, Nat.reduceAdd] at hc))
  replace st := st.row_nil 32 9
  simp only [List.cons_append, List.nil_append] at st
  go_loopg [9, 3] n (fun q vi vo wr => ∃ k va vc, q = n - k ∧ vi = .int .i64 (k : Int) ∧ vo = .slice va k vc ∧ k ≤ n ∧ Own (fun _ => False) (fun _ => True) W [oldI W, blkI b1 [.slice a n c, .int .i64 most], rowI 32 9 (.slice va k vc) k (cellsL ((rs.take k).map SgnT.c))] wr)
  case atStart => exact ⟨0, none, 0, by omega, rfl, rfl, by omega, st⟩
  case round =>
    obtain ⟨k, va, vc, rfl, rfl, rfl, hk, st'⟩ := hrel
    clear st hc
    have st := st'
    clear st'
    by_cases hlt : k < n
    · have hin : (k : Int) < (n : Int) := by omega
      have hps : k < rs.length := by have := HN.out; omega
      have hgs := List.getElem?_eq_getElem hps
      have HTK : Hid (rs.take (k + 1) = rs.take k ++ [rs[k]]) := Lib.hid (by rw [List.take_append_getElem])
      generalize rs[k] = y at hgs HTK
      obtain ⟨b, off, ha, hcell⟩ := H.out.sgn (by omega)
      subst ha
      clear hcell hps
      replace st := st.sgEl (i := 0) get0 H.out hgs
      simp only [List.cons_append, List.nil_append] at st
      obtain ⟨⟨ck, ⟨ho, hd⟩, cw, ⟨bo, bd⟩, ⟨co, cd⟩, we⟩, ta, tn, tm, ts⟩ := y
      unfold Proofs.Ythdbobnebpoolaa.sgEl at st
      simp only at st
      clear hgs
      (try simp only [nsl, Value.cells, unB] at st)
      (try clear hc); have hc := st.facts; (try simp only [nfl, nft, elI, elF, Nat.reduceAdd] at hc)
      go_wp2_with (first
          | ((with_reducible refine wl_append ?_ (fun K hK => ?_)); (rfl); (obtain ⟨inf, hinf, hz0, hz1, hz2⟩ := credInfo); (refine owp_append rfl st 2 get2 Try.underlying41 hinf hz0 hz1 hz2 rfl (by decide) rfl rfl ((st.blk (i := 5) get5).flat rfl) (by first | exact cellsL_all _ | simp [Value.oneCell']) (by simp only [maxLen]; omega) (by omega) ?_); (clear hinf hz0 hz1 hz2 inf); (clear st; intro v' w st); (obtain ⟨va', vc', rfl⟩ := own_slice (st.row (i := 2) get2)); (try simp only [nsl, Value.cells, unB] at st); (try simp only [Nat.zero_add] at st); (try clear hc); have hc := st.facts; (try simp only [nfl, nft, elI, elF, Nat.reduceAdd] at hc))
          | ((first
            | ((with_reducible refine wl_box ?_ (fun K hK => ?_)); rfl; refine owp_box (o := ⟨some 1, _, _, _, _, _⟩) rfl st ?_; apply Exists.intro; refine ⟨?_, ?_⟩; (focus (go_simp; try rfl)); (clear st; intro b1 w hb st; clear hb))
            | ((with_reducible refine wl_alloc ?_ (fun K hK => ?_)); rfl; refine owp_alloc (o := ⟨some 5, _, _, _, _, _⟩) rfl st ?_; apply Exists.intro; apply Exists.intro; refine ⟨?_, ?_⟩; (focus (first | (go_simp; done) | (go_simp; rfl))); (clear st; intro b5 w hb st; clear hb))
            | ((with_reducible refine wl_store ?_ (fun K hK => ?_)); rfl; refine owp_store rfl st ?_; apply Exists.intro; apply Exists.intro; refine ⟨?_, ?_, ?_⟩; (focus (go_simp; try rfl)); (focus (go_simp; try rfl)); (first | (with_reducible refine ⟨0, _, _, _, _, get0, rfl, rfl, ?_, ?_, ?_, ?_⟩) | (with_reducible refine ⟨1, _, _, _, _, get1, rfl, rfl, ?_, ?_, ?_, ?_⟩) | (with_reducible refine ⟨2, _, _, _, _, get2, rfl, rfl, ?_, ?_, ?_, ?_⟩) | (with_reducible refine ⟨3, _, _, _, _, get3, rfl, rfl, ?_, ?_, ?_, ?_⟩) | (with_reducible refine ⟨4, _, _, _, _, get4, rfl, rfl, ?_, ?_, ?_, ?_⟩) | (with_reducible refine ⟨5, _, _, _, _, get5, rfl, rfl, ?_, ?_, ?_, ?_⟩) | (with_reducible refine ⟨6, _, _, _, _, get6, rfl, rfl, ?_, ?_, ?_, ?_⟩) | (with_reducible refine ⟨7, _, _, _, _, get7, rfl, rfl, ?_, ?_, ?_, ?_⟩)); (kernel_rfl); (simp [Value.cells]); (rfl); (clear st; intro w st))
            | ((with_reducible refine wl_buildSlice ?_ (fun K hK => ?_)); rfl; refine owp_buildSlice (o := ⟨some 16, _, _, _, _, _⟩) rfl st ?_; apply Exists.intro; apply Exists.intro; apply Exists.intro; apply Exists.intro; refine ⟨?_, ?_⟩; (focus (go_simp; (first | done | exact ⟨⟨rfl, rfl⟩, rfl⟩ | rfl))); (clear st; intro b16 w hb st; clear hb))); (try simp only [nsl, Value.cells, unB] at st); (try clear hc); have hc := st.facts; (try simp only [nfl, nft, elI, elF, Nat.reduceAdd] at hc)))
      have st2 := st.keep [0, 1, 2] (by decide) (by simp)
      go_roundg (n - (k + 1))
      case measure => omega
      case rel => exact ⟨k + 1, va', vc', rfl, by go_num, rfl, by omega, by rw [HTK.out, List.map_append, cellsL_append, List.map_cons, List.map_nil, cellsL_one', cred_cells]; simpa [pick] using st2⟩
    · have hin : ¬ (k : Int) < (n : Int) := by omega
      obtain rfl : k = n := by omega
      go_wp2_with ((first
            | ((with_reducible refine wl_box ?_ (fun K hK => ?_)); rfl; refine owp_box (o := ⟨some 1, _, _, _, _, _⟩) rfl st ?_; apply Exists.intro; refine ⟨?_, ?_⟩; (focus (go_simp; try rfl)); (clear st; intro b1 w hb st; clear hb))
            | ((with_reducible refine wl_alloc ?_ (fun K hK => ?_)); rfl; refine owp_alloc (o := ⟨some 5, _, _, _, _, _⟩) rfl st ?_; apply Exists.intro; apply Exists.intro; refine ⟨?_, ?_⟩; (focus (first | (go_simp; done) | (go_simp; rfl))); (clear st; intro b5 w hb st; clear hb))
            | ((with_reducible refine wl_store ?_ (fun K hK => ?_)); rfl; refine owp_store rfl st ?_; apply Exists.intro; apply Exists.intro; refine ⟨?_, ?_, ?_⟩; (focus (go_simp; try rfl)); (focus (go_simp; try rfl)); (first | (with_reducible refine ⟨0, _, _, _, _, get0, rfl, rfl, ?_, ?_, ?_, ?_⟩) | (with_reducible refine ⟨1, _, _, _, _, get1, rfl, rfl, ?_, ?_, ?_, ?_⟩) | (with_reducible refine ⟨2, _, _, _, _, get2, rfl, rfl, ?_, ?_, ?_, ?_⟩) | (with_reducible refine ⟨3, _, _, _, _, get3, rfl, rfl, ?_, ?_, ?_, ?_⟩) | (with_reducible refine ⟨4, _, _, _, _, get4, rfl, rfl, ?_, ?_, ?_, ?_⟩) | (with_reducible refine ⟨5, _, _, _, _, get5, rfl, rfl, ?_, ?_, ?_, ?_⟩) | (with_reducible refine ⟨6, _, _, _, _, get6, rfl, rfl, ?_, ?_, ?_, ?_⟩) | (with_reducible refine ⟨7, _, _, _, _, get7, rfl, rfl, ?_, ?_, ?_, ?_⟩)); (kernel_rfl); (simp [Value.cells]); (rfl); (clear st; intro w st))
            | ((with_reducible refine wl_buildSlice ?_ (fun K hK => ?_)); rfl; refine owp_buildSlice (o := ⟨some 16, _, _, _, _, _⟩) rfl st ?_; apply Exists.intro; apply Exists.intro; apply Exists.intro; apply Exists.intro; refine ⟨?_, ?_⟩; (focus (go_simp; (first | done | exact ⟨⟨rfl, rfl⟩, rfl⟩ | rfl))); (clear st; intro b16 w hb st; clear hb))); (try simp only [nsl, Value.cells, unB] at st); (try clear hc); have hc := st.facts; (try simp only [nfl, nft, elI, elF, Nat.reduceAdd] at hc))
      go_ret
      have hf := st.toFresh (i := 2) get2
      rw [HN.out, List.take_length] at hf
      exact ⟨va, vc, rfl, by rw [HN.out]; exact hf⟩
end Go.Proofs.Ythdbobnebpoolaa
