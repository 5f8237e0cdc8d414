/- TapeReads: what any bytes tell, call by call. -/
import Derived.Test.YtabadgpebhiigaaBackM
namespace Go.Proofs.Ytabadgpebhiigaa
set_option linter.unusedSimpArgs false
set_option linter.unusedVariables false
open Go Go.RowKit
/-- What an operation does: 0 a number, 1 a text, else a failure. -/
def knd (o : OpT) : Int := (IntKind.u64.wrap o.k).tmod 3
def rdOp (o : OpT) (xs : List UInt8) : Except Int (List UInt8) :=
  if knd o = 0 then (match rdNumber o.n xs with | .error e => .error e | .ok (_, ys) => .ok ys)
  else if knd o = 1 then (match rdText o.n xs with | .error e => .error e | .ok (_, ys) => .ok ys)
  else if o.n = 0 then .ok xs else .error o.n
def rdOps : List OpT → List UInt8 → Nat × Except Int (List UInt8)
  | [], xs => (0, .ok xs)
  | o :: l, xs => match rdOp o xs with
    | .error e => (1, .error e)
    | .ok ys => ((rdOps l ys).1 + 1, (rdOps l ys).2)
theorem rdText_err {most : Int} {xs : List UInt8} {e : Int} (h : rdText most xs = .error e) : e ≠ 0 := by
  unfold rdText at h
  cases hr : rdNum xs with
  | error e' => rw [hr] at h; simp at h; subst h; exact rdNum_err hr
  | ok p =>
    obtain ⟨n, ys⟩ := p
    rw [hr] at h
    simp only at h
    split at h
    · simp at h; subst h; decide
    · split at h
      · simp at h; subst h; decide
      · simp at h
theorem rdOp_err {o : OpT} {xs : List UInt8} {e : Int} (h : rdOp o xs = .error e) : e ≠ 0 := by
  unfold rdOp at h
  split at h
  · split at h
    · simp at h; subst h; exact rdNumber_err (by assumption)
    · simp at h
  · split at h
    · split at h
      · simp at h; subst h; exact rdText_err (by assumption)
      · simp at h
    · split at h
      · simp at h
      · simp at h; subst h; assumption
theorem rdOps_step {l : List OpT} {j : Nat} (hj : j < l.length) (xs : List UInt8) : rdOps (l.drop j) xs = match rdOp l[j] xs with
    | .error e => (1, .error e)
    | .ok ys => ((rdOps (l.drop (j + 1)) ys).1 + 1, (rdOps (l.drop (j + 1)) ys).2) := by
  rw [List.drop_eq_getElem_cons hj, rdOps]
theorem rdText_len {most : Int} {xs : List UInt8} {bs ys : List UInt8} (h : rdText most xs = .ok (bs, ys)) : ys.length ≤ xs.length := by
  unfold rdText at h
  cases hr : rdNum xs with
  | error e' => rw [hr] at h; simp at h
  | ok p =>
    obtain ⟨n, zs⟩ := p
    rw [hr] at h
    simp only at h
    have := (rdNum_spec hr).2
    split at h
    · simp at h
    · split at h
      · simp at h
      · simp at h
        rw [← h.2]; simp; omega
theorem refNumber_c {fr al : Nat → Prop} {w : World} {t : Nat} {xs : List UInt8} (st : Own fr al w [blkI t [S xs, .int .i64 0]] w) (most : Int) :
    Calls Try.prog 45 #[.pointer (some ⟨t, 0, none⟩), .int .i64 most] w fun en w' => match rdNumber most xs with
      | .error e => en = .returned (.int .i64 0) ∧ ∃ s, Own fr al w [blkI t [S s, .int .i64 e]] w'
      | .ok (n, ys) => en = .returned (.int .i64 (n : Int)) ∧ Own fr al w [blkI t [S ys, .int .i64 0]] w' := by
  refine (refTNumber_any w t xs most (st.blk (i := 0) rfl)).mono ?_
  rintro en w' ⟨hm, h⟩
  have up : ∀ vs, Blk w' t vs → Own fr al w [blkI t vs] w' := fun vs hb => st.upd (i := 0) (I' := blkI t vs) rfl fun e s ⟨h1, h2⟩ h3 h4 => ⟨e, s, ⟨h1, hb⟩, fun b hb => ⟨Nat.lt_of_lt_of_le (h3 b (.inl hb)) hm.size, .inl hb⟩, fun b hb => ⟨Nat.lt_of_lt_of_le (h3 b (.inr hb)) hm.size, .inr (.inl hb)⟩, h4, hm.mono fun k hk => by obtain rfl : k = t := hk; exact h1⟩
  cases hr : rdNumber most xs with
  | error e => rw [hr] at h; exact ⟨h.1, h.2.imp fun s hs => up _ hs⟩
  | ok p => obtain ⟨n, ys⟩ := p; rw [hr] at h; exact ⟨h.1, up _ h.2⟩
theorem refText_c {fr al : Nat → Prop} {w : World} {t : Nat} {xs : List UInt8} (st : Own fr al w [blkI t [S xs, .int .i64 0]] w) (most : Int) (hl : xs.length ≤ 100000000000) :
    Calls Try.prog 47 #[.pointer (some ⟨t, 0, none⟩), .int .i64 most] w fun en w' => match rdText most xs with
      | .error e => en = .returned (S []) ∧ ∃ s, Own fr al w [blkI t [S s, .int .i64 e]] w'
      | .ok (bs, ys) => en = .returned (S bs) ∧ Own fr al w [blkI t [S ys, .int .i64 0]] w' := by
  refine (refTText_any w t xs most (st.blk (i := 0) rfl) hl).mono ?_
  rintro en w' ⟨hm, h⟩
  have up : ∀ vs, Blk w' t vs → Own fr al w [blkI t vs] w' := fun vs hb => st.upd (i := 0) (I' := blkI t vs) rfl fun e s ⟨h1, h2⟩ h3 h4 => ⟨e, s, ⟨h1, hb⟩, fun b hb => ⟨Nat.lt_of_lt_of_le (h3 b (.inl hb)) hm.size, .inl hb⟩, fun b hb => ⟨Nat.lt_of_lt_of_le (h3 b (.inr hb)) hm.size, .inr (.inl hb)⟩, h4, hm.mono fun k hk => by obtain rfl : k = t := hk; exact h1⟩
  cases hr : rdText most xs with
  | error e => rw [hr] at h; exact ⟨h.1, h.2.imp fun s hs => up _ hs⟩
  | ok p => obtain ⟨n, ys⟩ := p; rw [hr] at h; exact ⟨h.1, up _ h.2⟩
set_option maxRecDepth 100000 in
set_option maxHeartbeats 1000000 in
theorem def_c {fr al : Nat → Prop} {w0 w : World} {L : List It} (st : Own fr al w0 L w) (i : Nat) {b : Nat} {x : Value} (hi : L[i]? = some (blkI b [x])) (u : FrameMode) :
    CallsD Try.prog 44 #[.pointer (some ⟨b, 0, none⟩)] u w fun en u' w' => u' = u ∧ (en = .returned (.tuple #[]) ∧ Own fr al w0 (L.set i (blkI b [.bool true])) w') := by
  have h0 := (st.blk hi).cell 0
  have f0 := (st.blk hi).free 0
  have hst := st.set hi 0 (.bool true)
  have HS := Lib.hid hst
  clear hst st hi
  go_enter_d Try.func44, Try.ntmps44
  go_wp2
  go_end0
  exact ⟨rfl, by simpa using HS.out⟩
theorem inv44 (w : World) (b : Value) : (invoke (.fn (.func 44) #[b]) #[]).run Try.prog w = .ok (.enter 44 #[b]) w := by kernel_rfl
/-- How the function ends that tape.Read is given. -/
def RdsPost (fr al : Nat → Prop) (W1 W : World) (r t bk bd bl bc bx bg n c : Nat) (a : Option Addr) (res : Nat × Except Int (List UInt8)) (en : Ending) (w' : World) : Prop :=
  match res with
  | (k, .ok ys) => en = .returned (.tuple #[]) ∧ Own fr al W1 [oldI W, blkI bk [.pointer (some ⟨r, 0, none⟩)], blkI bd [.bool true], blkI bl [.slice a n c], blkI bc [.int .i64 (k : Int)], blkI bx [.pointer (some ⟨t, 0, none⟩)], blkI bg [.bool true], blkI t [S ys, .int .i64 0], rdI r ys] w'
  | (k, .error e) => en = .panicked [{ v := failV r e, recovered := false }] ∧ ∃ s, Own fr al W1 [oldI W, blkI bk [.pointer (some ⟨r, 0, none⟩)], blkI bd [.bool true], blkI bl [.slice a n c], blkI bc [.int .i64 (k : Int)], blkI bx [.pointer (some ⟨t, 0, none⟩)], blkI bg [.bool true], blkI t [S s, .int .i64 e], rdAnyI r] w'
set_option maxRecDepth 100000 in
set_option maxHeartbeats 4000000 in
theorem reads1_c {fr al : Nat → Prop} {W1 W : World} {r t bk bd bl bc bx bg n c : Nat} {a : Option Addr} {kv : Value} {l : List OpT} {xs : List UInt8} (hy : Arr 3 opR W a n l) (hn60 : n ≤ 60) (hx3 : xs.length ≤ 3000)
    (st : Own fr al W1 [oldI W, blkI bk [kv], blkI bd [.bool false], blkI bl [.slice a n c], blkI bc [.int .i64 0], blkI bx [.pointer (some ⟨t, 0, none⟩)], blkI bg [.bool true], blkI t [S xs, .int .i64 0], rdI r xs] W1) :
    Calls Try.prog 43 #[.pointer (some ⟨r, 0, none⟩), .pointer (some ⟨bk, 0, none⟩), .pointer (some ⟨bd, 0, none⟩), .pointer (some ⟨bl, 0, none⟩), .pointer (some ⟨bc, 0, none⟩), .pointer (some ⟨bx, 0, none⟩), .pointer (some ⟨bg, 0, none⟩)] W1
      (RdsPost fr al W1 W r t bk bd bl bc bx bg n c a (rdOps l xs)) := by
  have HY := Lib.hid hy
  clear hy
  go_enter_defers Try.func43, Try.ntmps43
  (try simp only [Value.cells, List.cons_append, List.nil_append, List.set, spl, putIt, pick, List.map_cons, List.map_nil, List.getElem?_cons_zero, List.getElem?_cons_succ, Option.getD_some, List.drop_succ_cons, List.drop_zero, List.drop_nil, List.append_nil, unB] at st)
  (try clear hc); have hc := st.facts; (try simp only [factsOf, blkI, blkFacts, rowI, byI, datI, nullI, oldI, penI, rdI, rdAnyI, rdOverI, Nat.zero_add, Nat.reduceAdd, and_true, true_and, and_self] at hc)
  go_wp2_with (first
      | ((with_reducible refine wl_store ?_ (fun K hK => ?_)); (rfl); ((refine owp_store rfl st ?_; apply Exists.intro; apply Exists.intro; refine ⟨?_, ?_, ?_⟩; (focus (go_simp; try rfl)); (focus (go_simp; try rfl)); (first | with_reducible refine ⟨0, _, _, _, _, get0, rfl, rfl, ?_, ?_, ?_, ?_⟩ | with_reducible refine ⟨1, _, _, _, _, get1, rfl, rfl, ?_, ?_, ?_, ?_⟩ | with_reducible refine ⟨2, _, _, _, _, get2, rfl, rfl, ?_, ?_, ?_, ?_⟩ | with_reducible refine ⟨3, _, _, _, _, get3, rfl, rfl, ?_, ?_, ?_, ?_⟩ | with_reducible refine ⟨4, _, _, _, _, get4, rfl, rfl, ?_, ?_, ?_, ?_⟩ | with_reducible refine ⟨5, _, _, _, _, get5, rfl, rfl, ?_, ?_, ?_, ?_⟩ | with_reducible refine ⟨6, _, _, _, _, get6, rfl, rfl, ?_, ?_, ?_, ?_⟩ | with_reducible refine ⟨7, _, _, _, _, get7, rfl, rfl, ?_, ?_, ?_, ?_⟩ | with_reducible refine ⟨8, _, _, _, _, get8, rfl, rfl, ?_, ?_, ?_, ?_⟩ | with_reducible refine ⟨9, _, _, _, _, get9, rfl, rfl, ?_, ?_, ?_, ?_⟩ | with_reducible refine ⟨10, _, _, _, _, get10, rfl, rfl, ?_, ?_, ?_, ?_⟩ | with_reducible refine ⟨11, _, _, _, _, get11, rfl, rfl, ?_, ?_, ?_, ?_⟩); (kernel_rfl); (simp [Value.cells]); (rfl); (clear st; intro w st)); (try simp only [Value.cells, List.cons_append, List.nil_append, List.set, spl, putIt, pick, List.map_cons, List.map_nil, List.getElem?_cons_zero, List.getElem?_cons_succ, Option.getD_some, List.drop_succ_cons, List.drop_zero, List.drop_nil, List.append_nil, unB] at st); (try clear hc); have hc := st.facts; (try simp only [factsOf, blkI, blkFacts, rowI, byI, datI, nullI, oldI, penI, rdI, rdAnyI, rdOverI, Nat.zero_add, Nat.reduceAdd, and_true, true_and, and_self] at hc)))
      | ((with_reducible refine wl_alloc ?_ (fun K hK => ?_)); (rfl); ((refine owp_alloc (o := ⟨some 9, _, _, _, _, _⟩) rfl st ?_; apply Exists.intro; apply Exists.intro; refine ⟨?_, ?_⟩; (focus (first | (go_simp; done) | (go_simp; rfl))); (clear st; intro b9 w hb st; clear hb)); (try simp only [Value.cells, List.cons_append, List.nil_append, List.set, spl, putIt, pick, List.map_cons, List.map_nil, List.getElem?_cons_zero, List.getElem?_cons_succ, Option.getD_some, List.drop_succ_cons, List.drop_zero, List.drop_nil, List.append_nil, unB] at st); (try clear hc); have hc := st.facts; (try simp only [factsOf, blkI, blkFacts, rowI, byI, datI, nullI, oldI, penI, rdI, rdAnyI, rdOverI, Nat.zero_add, Nat.reduceAdd, and_true, true_and, and_self] at hc)))
      | ((with_reducible refine wl_convert ?_ (fun K hK => ?_)); (rfl); ((first | refine owp_bs (o := ⟨some 78, _, _, _, _, _⟩) rfl st 0 get0 rfl Try.underlying22 Try.underlying5 Try.underlying9 ?_ | refine owp_bs (o := ⟨some 78, _, _, _, _, _⟩) rfl st 1 get1 rfl Try.underlying22 Try.underlying5 Try.underlying9 ?_ | refine owp_bs (o := ⟨some 78, _, _, _, _, _⟩) rfl st 2 get2 rfl Try.underlying22 Try.underlying5 Try.underlying9 ?_ | refine owp_bs (o := ⟨some 78, _, _, _, _, _⟩) rfl st 3 get3 rfl Try.underlying22 Try.underlying5 Try.underlying9 ?_ | refine owp_bs (o := ⟨some 78, _, _, _, _, _⟩) rfl st 4 get4 rfl Try.underlying22 Try.underlying5 Try.underlying9 ?_ | refine owp_bs (o := ⟨some 78, _, _, _, _, _⟩) rfl st 5 get5 rfl Try.underlying22 Try.underlying5 Try.underlying9 ?_ | refine owp_bs (o := ⟨some 78, _, _, _, _, _⟩) rfl st 6 get6 rfl Try.underlying22 Try.underlying5 Try.underlying9 ?_ | refine owp_bs (o := ⟨some 78, _, _, _, _, _⟩) rfl st 7 get7 rfl Try.underlying22 Try.underlying5 Try.underlying9 ?_ | refine owp_bs (o := ⟨some 78, _, _, _, _, _⟩) rfl st 8 get8 rfl Try.underlying22 Try.underlying5 Try.underlying9 ?_ | refine owp_bs (o := ⟨some 78, _, _, _, _, _⟩) rfl st 9 get9 rfl Try.underlying22 Try.underlying5 Try.underlying9 ?_ | refine owp_bs (o := ⟨some 78, _, _, _, _, _⟩) rfl st 10 get10 rfl Try.underlying22 Try.underlying5 Try.underlying9 ?_ | refine owp_bs (o := ⟨some 78, _, _, _, _, _⟩) rfl st 11 get11 rfl Try.underlying22 Try.underlying5 Try.underlying9 ?_); (try simp only [Value.cells, List.cons_append, List.nil_append, List.set, spl, putIt, pick, List.map_cons, List.map_nil, List.getElem?_cons_zero, List.getElem?_cons_succ, Option.getD_some, List.drop_succ_cons, List.drop_zero, List.drop_nil, List.append_nil, unB] at st); (try clear hc); have hc := st.facts; (try simp only [factsOf, blkI, blkFacts, rowI, byI, datI, nullI, oldI, penI, rdI, rdAnyI, rdOverI, Nat.zero_add, Nat.reduceAdd, and_true, true_and, and_self] at hc))))
  have hnl : n = l.length := HY.out.1
  have HNL := Lib.hid hnl
  clear hnl
  go_loopw [18] (fun i wr => ∃ (j : Nat) (ys : List UInt8), j ≤ n ∧ i = .int .i64 (j : Int) ∧ Hid (rdOps l xs = (j + (rdOps (l.drop j) ys).1, (rdOps (l.drop j) ys).2) ∧ ys.length ≤ 3000) ∧ Own fr al W1 [oldI W, blkI bk [.pointer (some ⟨r, 0, none⟩)], blkI bd [.bool false], blkI bl [.slice a n c], blkI bc [.int .i64 (j : Int)], blkI bx [.pointer (some ⟨t, 0, none⟩)], blkI bg [.bool true], blkI t [S ys, .int .i64 0], rdI r ys] wr) (fun i _ => n - (intOf i).toNat)
  case atStart => exact ⟨0, xs, by omega, rfl, Lib.hid ⟨by simp, hx3⟩, st⟩
  case round =>
    obtain ⟨j, ys, hj, rfl, HR, st'⟩ := hrel
    clear st hc
    have st := st'
    clear st'
    (try simp only [Value.cells, List.cons_append, List.nil_append, List.set, spl, putIt, pick, List.map_cons, List.map_nil, List.getElem?_cons_zero, List.getElem?_cons_succ, Option.getD_some, List.drop_succ_cons, List.drop_zero, List.drop_nil, List.append_nil, unB] at st)
    (try clear hc); have hc := st.facts; (try simp only [factsOf, blkI, blkFacts, rowI, byI, datI, nullI, oldI, penI, rdI, rdAnyI, rdOverI, Nat.zero_add, Nat.reduceAdd, and_true, true_and, and_self] at hc)
    by_cases hjn : j < n
    · have hjl : j < l.length := by have := HNL.out; omega
      obtain ⟨b, off, ha, hcell⟩ := HY.out.2 (by omega)
      subst ha
      have hop := hcell j l[j] (List.getElem?_eq_getElem hjl)
      have hstep := rdOps_step hjl ys
      have HS := Lib.hid hstep
      generalize l[j] = o at *
      clear hstep hcell
      obtain ⟨y0, y1, r2, r3, am, m2, c2', y4, y5, r6⟩ := hop
      have r0 := st.oldCell (i := 0) get0 y0
      have r1 := st.oldCell (i := 0) get0 y1
      have r4 := st.oldCell (i := 0) get0 y4
      obtain ⟨ok, on, ob⟩ := o
      simp only at r0 r1 r4
      clear y0 y1 y4 y5 r6
      have hys := HR.out.2
      by_cases hk0 : (IntKind.u64.wrap ok).tmod 3 = 0
      · have hb0 : ((IntKind.u64.wrap ok).tmod 3 == 0) = true := by simp [hk0]
        have hop : rdOp ⟨ok, on, ob⟩ ys = (match rdNumber on ys with | .error e => .error e | .ok (_, ys) => .ok ys) := by unfold rdOp knd; simp only [hk0, if_true]
        have HOP := Lib.hid hop
        clear hop
        go_wp2_with (first
            | ((with_reducible refine wl_store ?_ (fun K hK => ?_)); (rfl); ((refine owp_store rfl st ?_; apply Exists.intro; apply Exists.intro; refine ⟨?_, ?_, ?_⟩; (focus (go_simp; try rfl)); (focus (go_simp; try rfl)); (first | with_reducible refine ⟨0, _, _, _, _, get0, rfl, rfl, ?_, ?_, ?_, ?_⟩ | with_reducible refine ⟨1, _, _, _, _, get1, rfl, rfl, ?_, ?_, ?_, ?_⟩ | with_reducible refine ⟨2, _, _, _, _, get2, rfl, rfl, ?_, ?_, ?_, ?_⟩ | with_reducible refine ⟨3, _, _, _, _, get3, rfl, rfl, ?_, ?_, ?_, ?_⟩ | with_reducible refine ⟨4, _, _, _, _, get4, rfl, rfl, ?_, ?_, ?_, ?_⟩ | with_reducible refine ⟨5, _, _, _, _, get5, rfl, rfl, ?_, ?_, ?_, ?_⟩ | with_reducible refine ⟨6, _, _, _, _, get6, rfl, rfl, ?_, ?_, ?_, ?_⟩ | with_reducible refine ⟨7, _, _, _, _, get7, rfl, rfl, ?_, ?_, ?_, ?_⟩ | with_reducible refine ⟨8, _, _, _, _, get8, rfl, rfl, ?_, ?_, ?_, ?_⟩ | with_reducible refine ⟨9, _, _, _, _, get9, rfl, rfl, ?_, ?_, ?_, ?_⟩ | with_reducible refine ⟨10, _, _, _, _, get10, rfl, rfl, ?_, ?_, ?_, ?_⟩ | with_reducible refine ⟨11, _, _, _, _, get11, rfl, rfl, ?_, ?_, ?_, ?_⟩); (kernel_rfl); (simp [Value.cells]); (rfl); (clear st; intro w st)); (try simp only [Value.cells, List.cons_append, List.nil_append, List.set, spl, putIt, pick, List.map_cons, List.map_nil, List.getElem?_cons_zero, List.getElem?_cons_succ, Option.getD_some, List.drop_succ_cons, List.drop_zero, List.drop_nil, List.append_nil, unB] at st); (try clear hc); have hc := st.facts; (try simp only [factsOf, blkI, blkFacts, rowI, byI, datI, nullI, oldI, penI, rdI, rdAnyI, rdOverI, Nat.zero_add, Nat.reduceAdd, and_true, true_and, and_self] at hc)))
            | ((with_reducible refine wl_alloc ?_ (fun K hK => ?_)); (rfl); ((refine owp_alloc (o := ⟨some 9, _, _, _, _, _⟩) rfl st ?_; apply Exists.intro; apply Exists.intro; refine ⟨?_, ?_⟩; (focus (first | (go_simp; done) | (go_simp; rfl))); (clear st; intro b9 w hb st; clear hb)); (try simp only [Value.cells, List.cons_append, List.nil_append, List.set, spl, putIt, pick, List.map_cons, List.map_nil, List.getElem?_cons_zero, List.getElem?_cons_succ, Option.getD_some, List.drop_succ_cons, List.drop_zero, List.drop_nil, List.append_nil, unB] at st); (try clear hc); have hc := st.facts; (try simp only [factsOf, blkI, blkFacts, rowI, byI, datI, nullI, oldI, penI, rdI, rdAnyI, rdOverI, Nat.zero_add, Nat.reduceAdd, and_true, true_and, and_self] at hc)))
            | ((with_reducible refine wl_convert ?_ (fun K hK => ?_)); (rfl); ((first | refine owp_bs (o := ⟨some 78, _, _, _, _, _⟩) rfl st 0 get0 rfl Try.underlying22 Try.underlying5 Try.underlying9 ?_ | refine owp_bs (o := ⟨some 78, _, _, _, _, _⟩) rfl st 1 get1 rfl Try.underlying22 Try.underlying5 Try.underlying9 ?_ | refine owp_bs (o := ⟨some 78, _, _, _, _, _⟩) rfl st 2 get2 rfl Try.underlying22 Try.underlying5 Try.underlying9 ?_ | refine owp_bs (o := ⟨some 78, _, _, _, _, _⟩) rfl st 3 get3 rfl Try.underlying22 Try.underlying5 Try.underlying9 ?_ | refine owp_bs (o := ⟨some 78, _, _, _, _, _⟩) rfl st 4 get4 rfl Try.underlying22 Try.underlying5 Try.underlying9 ?_ | refine owp_bs (o := ⟨some 78, _, _, _, _, _⟩) rfl st 5 get5 rfl Try.underlying22 Try.underlying5 Try.underlying9 ?_ | refine owp_bs (o := ⟨some 78, _, _, _, _, _⟩) rfl st 6 get6 rfl Try.underlying22 Try.underlying5 Try.underlying9 ?_ | refine owp_bs (o := ⟨some 78, _, _, _, _, _⟩) rfl st 7 get7 rfl Try.underlying22 Try.underlying5 Try.underlying9 ?_ | refine owp_bs (o := ⟨some 78, _, _, _, _, _⟩) rfl st 8 get8 rfl Try.underlying22 Try.underlying5 Try.underlying9 ?_ | refine owp_bs (o := ⟨some 78, _, _, _, _, _⟩) rfl st 9 get9 rfl Try.underlying22 Try.underlying5 Try.underlying9 ?_ | refine owp_bs (o := ⟨some 78, _, _, _, _, _⟩) rfl st 10 get10 rfl Try.underlying22 Try.underlying5 Try.underlying9 ?_ | refine owp_bs (o := ⟨some 78, _, _, _, _, _⟩) rfl st 11 get11 rfl Try.underlying22 Try.underlying5 Try.underlying9 ?_); (try simp only [Value.cells, List.cons_append, List.nil_append, List.set, spl, putIt, pick, List.map_cons, List.map_nil, List.getElem?_cons_zero, List.getElem?_cons_succ, Option.getD_some, List.drop_succ_cons, List.drop_zero, List.drop_nil, List.append_nil, unB] at st); (try clear hc); have hc := st.facts; (try simp only [factsOf, blkI, blkFacts, rowI, byI, datI, nullI, oldI, penI, rdI, rdAnyI, rdOverI, Nat.zero_add, Nat.reduceAdd, and_true, true_and, and_self] at hc))))
        obtain ⟨fr', al', st', back⟩ := st.sub [7] (by decide) (by simp)
        (try simp only [Value.cells, List.cons_append, List.nil_append, List.set, spl, putIt, pick, List.map_cons, List.map_nil, List.getElem?_cons_zero, List.getElem?_cons_succ, Option.getD_some, List.drop_succ_cons, List.drop_zero, List.drop_nil, List.append_nil, unB] at st')
        refine (refNumber_c st' on).mono ?_
        intro en w hen
        clear st'
        cases hr : rdNumber on ys with
        | error e =>
          rw [hr] at hen
          obtain ⟨rfl, s, st'⟩ := hen
          replace st := back _ _ (by simp) st'
          clear back st'
          (try simp only [Value.cells, List.cons_append, List.nil_append, List.set, spl, putIt, pick, List.map_cons, List.map_nil, List.getElem?_cons_zero, List.getElem?_cons_succ, Option.getD_some, List.drop_succ_cons, List.drop_zero, List.drop_nil, List.append_nil, unB] at st)
          (try clear hc); have hc := st.facts; (try simp only [factsOf, blkI, blkFacts, rowI, byI, datI, nullI, oldI, penI, rdI, rdAnyI, rdOverI, Nat.zero_add, Nat.reduceAdd, and_true, true_and, and_self] at hc)
          have HE : rdOp ⟨ok, on, ob⟩ ys = .error e := by rw [HOP.out, hr]
          have HE := Lib.hid HE
          go_wp2_with fail
          obtain ⟨fr', al', st', back⟩ := st.sub [8] (by decide) (by simp)
          (try simp only [Value.cells, List.cons_append, List.nil_append, List.set, spl, putIt, pick, List.map_cons, List.map_nil, List.getElem?_cons_zero, List.getElem?_cons_succ, Option.getD_some, List.drop_succ_cons, List.drop_zero, List.drop_nil, List.append_nil, unB] at st')
          refine (number_c st' on).mono ?_
          intro en w hen
          clear st'
          unfold RdC at hen
          rw [hr] at hen
          obtain ⟨rfl, st'⟩ := hen
          replace st := back _ _ (by simp) st'
          clear back st'
          (try simp only [Value.cells, List.cons_append, List.nil_append, List.set, spl, putIt, pick, List.map_cons, List.map_nil, List.getElem?_cons_zero, List.getElem?_cons_succ, Option.getD_some, List.drop_succ_cons, List.drop_zero, List.drop_nil, List.append_nil, unB] at st)
          (try clear hc); have hc := st.facts; (try simp only [factsOf, blkI, blkFacts, rowI, byI, datI, nullI, oldI, penI, rdI, rdAnyI, rdOverI, Nat.zero_add, Nat.reduceAdd, and_true, true_and, and_self] at hc)
          go_wp2_with fail
          refine leaves_cons (by simp) (inv44 _ _) ?_
          refine (def_c st 2 get2 _).mono ?_
          rintro en u w ⟨rfl, rfl, st⟩
          have st' := st.keep [0, 1, 2, 3, 4, 5, 6, 7, 8] (by decide) (by simp)
          have e1 : rdOps l xs = (j + 1, .error e) := by rw [HR.out.1, HS.out, HE.out]
          simp only [settle, Leaves]
          show RdsPost _ _ _ _ _ _ _ _ _ _ _ _ _ _ _ _ _ _
          rw [e1]
          exact ⟨rfl, _, by simpa [pick] using st'⟩
        | ok p =>
          obtain ⟨m, zs⟩ := p
          rw [hr] at hen
          obtain ⟨rfl, st'⟩ := hen
          replace st := back _ _ (by simp) st'
          clear back st'
          (try simp only [Value.cells, List.cons_append, List.nil_append, List.set, spl, putIt, pick, List.map_cons, List.map_nil, List.getElem?_cons_zero, List.getElem?_cons_succ, Option.getD_some, List.drop_succ_cons, List.drop_zero, List.drop_nil, List.append_nil, unB] at st)
          (try clear hc); have hc := st.facts; (try simp only [factsOf, blkI, blkFacts, rowI, byI, datI, nullI, oldI, penI, rdI, rdAnyI, rdOverI, Nat.zero_add, Nat.reduceAdd, and_true, true_and, and_self] at hc)
          have HE : rdOp ⟨ok, on, ob⟩ ys = .ok zs := by rw [HOP.out, hr]
          have HE := Lib.hid HE
          have HZ : zs.length ≤ 3000 := by have := (rdNum_spec (rdNumber_ok hr)).2; omega
          have HRR := Lib.hid hr
          clear hr
          go_wp2_with (first
              | ((with_reducible refine wl_store ?_ (fun K hK => ?_)); (rfl); ((refine owp_store rfl st ?_; apply Exists.intro; apply Exists.intro; refine ⟨?_, ?_, ?_⟩; (focus (go_simp; try rfl)); (focus (go_simp; try rfl)); (first | with_reducible refine ⟨0, _, _, _, _, get0, rfl, rfl, ?_, ?_, ?_, ?_⟩ | with_reducible refine ⟨1, _, _, _, _, get1, rfl, rfl, ?_, ?_, ?_, ?_⟩ | with_reducible refine ⟨2, _, _, _, _, get2, rfl, rfl, ?_, ?_, ?_, ?_⟩ | with_reducible refine ⟨3, _, _, _, _, get3, rfl, rfl, ?_, ?_, ?_, ?_⟩ | with_reducible refine ⟨4, _, _, _, _, get4, rfl, rfl, ?_, ?_, ?_, ?_⟩ | with_reducible refine ⟨5, _, _, _, _, get5, rfl, rfl, ?_, ?_, ?_, ?_⟩ | with_reducible refine ⟨6, _, _, _, _, get6, rfl, rfl, ?_, ?_, ?_, ?_⟩ | with_reducible refine ⟨7, _, _, _, _, get7, rfl, rfl, ?_, ?_, ?_, ?_⟩ | with_reducible refine ⟨8, _, _, _, _, get8, rfl, rfl, ?_, ?_, ?_, ?_⟩ | with_reducible refine ⟨9, _, _, _, _, get9, rfl, rfl, ?_, ?_, ?_, ?_⟩ | with_reducible refine ⟨10, _, _, _, _, get10, rfl, rfl, ?_, ?_, ?_, ?_⟩ | with_reducible refine ⟨11, _, _, _, _, get11, rfl, rfl, ?_, ?_, ?_, ?_⟩); (kernel_rfl); (simp [Value.cells]); (rfl); (clear st; intro w st)); (try simp only [Value.cells, List.cons_append, List.nil_append, List.set, spl, putIt, pick, List.map_cons, List.map_nil, List.getElem?_cons_zero, List.getElem?_cons_succ, Option.getD_some, List.drop_succ_cons, List.drop_zero, List.drop_nil, List.append_nil, unB] at st); (try clear hc); have hc := st.facts; (try simp only [factsOf, blkI, blkFacts, rowI, byI, datI, nullI, oldI, penI, rdI, rdAnyI, rdOverI, Nat.zero_add, Nat.reduceAdd, and_true, true_and, and_self] at hc)))
              | ((with_reducible refine wl_alloc ?_ (fun K hK => ?_)); (rfl); ((refine owp_alloc (o := ⟨some 9, _, _, _, _, _⟩) rfl st ?_; apply Exists.intro; apply Exists.intro; refine ⟨?_, ?_⟩; (focus (first | (go_simp; done) | (go_simp; rfl))); (clear st; intro b9 w hb st; clear hb)); (try simp only [Value.cells, List.cons_append, List.nil_append, List.set, spl, putIt, pick, List.map_cons, List.map_nil, List.getElem?_cons_zero, List.getElem?_cons_succ, Option.getD_some, List.drop_succ_cons, List.drop_zero, List.drop_nil, List.append_nil, unB] at st); (try clear hc); have hc := st.facts; (try simp only [factsOf, blkI, blkFacts, rowI, byI, datI, nullI, oldI, penI, rdI, rdAnyI, rdOverI, Nat.zero_add, Nat.reduceAdd, and_true, true_and, and_self] at hc)))
              | ((with_reducible refine wl_convert ?_ (fun K hK => ?_)); (rfl); ((first | refine owp_bs (o := ⟨some 78, _, _, _, _, _⟩) rfl st 0 get0 rfl Try.underlying22 Try.underlying5 Try.underlying9 ?_ | refine owp_bs (o := ⟨some 78, _, _, _, _, _⟩) rfl st 1 get1 rfl Try.underlying22 Try.underlying5 Try.underlying9 ?_ | refine owp_bs (o := ⟨some 78, _, _, _, _, _⟩) rfl st 2 get2 rfl Try.underlying22 Try.underlying5 Try.underlying9 ?_ | refine owp_bs (o := ⟨some 78, _, _, _, _, _⟩) rfl st 3 get3 rfl Try.underlying22 Try.underlying5 Try.underlying9 ?_ | refine owp_bs (o := ⟨some 78, _, _, _, _, _⟩) rfl st 4 get4 rfl Try.underlying22 Try.underlying5 Try.underlying9 ?_ | refine owp_bs (o := ⟨some 78, _, _, _, _, _⟩) rfl st 5 get5 rfl Try.underlying22 Try.underlying5 Try.underlying9 ?_ | refine owp_bs (o := ⟨some 78, _, _, _, _, _⟩) rfl st 6 get6 rfl Try.underlying22 Try.underlying5 Try.underlying9 ?_ | refine owp_bs (o := ⟨some 78, _, _, _, _, _⟩) rfl st 7 get7 rfl Try.underlying22 Try.underlying5 Try.underlying9 ?_ | refine owp_bs (o := ⟨some 78, _, _, _, _, _⟩) rfl st 8 get8 rfl Try.underlying22 Try.underlying5 Try.underlying9 ?_ | refine owp_bs (o := ⟨some 78, _, _, _, _, _⟩) rfl st 9 get9 rfl Try.underlying22 Try.underlying5 Try.underlying9 ?_ | refine owp_bs (o := ⟨some 78, _, _, _, _, _⟩) rfl st 10 get10 rfl Try.underlying22 Try.underlying5 Try.underlying9 ?_ | refine owp_bs (o := ⟨some 78, _, _, _, _, _⟩) rfl st 11 get11 rfl Try.underlying22 Try.underlying5 Try.underlying9 ?_); (try simp only [Value.cells, List.cons_append, List.nil_append, List.set, spl, putIt, pick, List.map_cons, List.map_nil, List.getElem?_cons_zero, List.getElem?_cons_succ, Option.getD_some, List.drop_succ_cons, List.drop_zero, List.drop_nil, List.append_nil, unB] at st); (try clear hc); have hc := st.facts; (try simp only [factsOf, blkI, blkFacts, rowI, byI, datI, nullI, oldI, penI, rdI, rdAnyI, rdOverI, Nat.zero_add, Nat.reduceAdd, and_true, true_and, and_self] at hc))))
          obtain ⟨fr', al', st', back⟩ := st.sub [8] (by decide) (by simp)
          (try simp only [Value.cells, List.cons_append, List.nil_append, List.set, spl, putIt, pick, List.map_cons, List.map_nil, List.getElem?_cons_zero, List.getElem?_cons_succ, Option.getD_some, List.drop_succ_cons, List.drop_zero, List.drop_nil, List.append_nil, unB] at st')
          refine (number_c st' on).mono ?_
          clear st'
          intro en w hen
          unfold RdC at hen
          rw [HRR.out] at hen
          obtain ⟨v, M, rfl, ⟨rfl, rfl⟩, st'⟩ := hen
          replace st := back _ _ (by simp) st'
          clear back st'
          (try simp only [Value.cells, List.cons_append, List.nil_append, List.set, spl, putIt, pick, List.map_cons, List.map_nil, List.getElem?_cons_zero, List.getElem?_cons_succ, Option.getD_some, List.drop_succ_cons, List.drop_zero, List.drop_nil, List.append_nil, unB] at st)
          (try clear hc); have hc := st.facts; (try simp only [factsOf, blkI, blkFacts, rowI, byI, datI, nullI, oldI, penI, rdI, rdAnyI, rdOverI, Nat.zero_add, Nat.reduceAdd, and_true, true_and, and_self] at hc)
          go_wp2_with (first
              | ((with_reducible refine wl_store ?_ (fun K hK => ?_)); (rfl); ((refine owp_store rfl st ?_; apply Exists.intro; apply Exists.intro; refine ⟨?_, ?_, ?_⟩; (focus (go_simp; try rfl)); (focus (go_simp; try rfl)); (first | with_reducible refine ⟨0, _, _, _, _, get0, rfl, rfl, ?_, ?_, ?_, ?_⟩ | with_reducible refine ⟨1, _, _, _, _, get1, rfl, rfl, ?_, ?_, ?_, ?_⟩ | with_reducible refine ⟨2, _, _, _, _, get2, rfl, rfl, ?_, ?_, ?_, ?_⟩ | with_reducible refine ⟨3, _, _, _, _, get3, rfl, rfl, ?_, ?_, ?_, ?_⟩ | with_reducible refine ⟨4, _, _, _, _, get4, rfl, rfl, ?_, ?_, ?_, ?_⟩ | with_reducible refine ⟨5, _, _, _, _, get5, rfl, rfl, ?_, ?_, ?_, ?_⟩ | with_reducible refine ⟨6, _, _, _, _, get6, rfl, rfl, ?_, ?_, ?_, ?_⟩ | with_reducible refine ⟨7, _, _, _, _, get7, rfl, rfl, ?_, ?_, ?_, ?_⟩ | with_reducible refine ⟨8, _, _, _, _, get8, rfl, rfl, ?_, ?_, ?_, ?_⟩ | with_reducible refine ⟨9, _, _, _, _, get9, rfl, rfl, ?_, ?_, ?_, ?_⟩ | with_reducible refine ⟨10, _, _, _, _, get10, rfl, rfl, ?_, ?_, ?_, ?_⟩ | with_reducible refine ⟨11, _, _, _, _, get11, rfl, rfl, ?_, ?_, ?_, ?_⟩); (kernel_rfl); (simp [Value.cells]); (rfl); (clear st; intro w st)); (try simp only [Value.cells, List.cons_append, List.nil_append, List.set, spl, putIt, pick, List.map_cons, List.map_nil, List.getElem?_cons_zero, List.getElem?_cons_succ, Option.getD_some, List.drop_succ_cons, List.drop_zero, List.drop_nil, List.append_nil, unB] at st); (try clear hc); have hc := st.facts; (try simp only [factsOf, blkI, blkFacts, rowI, byI, datI, nullI, oldI, penI, rdI, rdAnyI, rdOverI, Nat.zero_add, Nat.reduceAdd, and_true, true_and, and_self] at hc)))
              | ((with_reducible refine wl_alloc ?_ (fun K hK => ?_)); (rfl); ((refine owp_alloc (o := ⟨some 9, _, _, _, _, _⟩) rfl st ?_; apply Exists.intro; apply Exists.intro; refine ⟨?_, ?_⟩; (focus (first | (go_simp; done) | (go_simp; rfl))); (clear st; intro b9 w hb st; clear hb)); (try simp only [Value.cells, List.cons_append, List.nil_append, List.set, spl, putIt, pick, List.map_cons, List.map_nil, List.getElem?_cons_zero, List.getElem?_cons_succ, Option.getD_some, List.drop_succ_cons, List.drop_zero, List.drop_nil, List.append_nil, unB] at st); (try clear hc); have hc := st.facts; (try simp only [factsOf, blkI, blkFacts, rowI, byI, datI, nullI, oldI, penI, rdI, rdAnyI, rdOverI, Nat.zero_add, Nat.reduceAdd, and_true, true_and, and_self] at hc)))
              | ((with_reducible refine wl_convert ?_ (fun K hK => ?_)); (rfl); ((first | refine owp_bs (o := ⟨some 78, _, _, _, _, _⟩) rfl st 0 get0 rfl Try.underlying22 Try.underlying5 Try.underlying9 ?_ | refine owp_bs (o := ⟨some 78, _, _, _, _, _⟩) rfl st 1 get1 rfl Try.underlying22 Try.underlying5 Try.underlying9 ?_ | refine owp_bs (o := ⟨some 78, _, _, _, _, _⟩) rfl st 2 get2 rfl Try.underlying22 Try.underlying5 Try.underlying9 ?_ | refine owp_bs (o := ⟨some 78, _, _, _, _, _⟩) rfl st 3 get3 rfl Try.underlying22 Try.underlying5 Try.underlying9 ?_ | refine owp_bs (o := ⟨some 78, _, _, _, _, _⟩) rfl st 4 get4 rfl Try.underlying22 Try.underlying5 Try.underlying9 ?_ | refine owp_bs (o := ⟨some 78, _, _, _, _, _⟩) rfl st 5 get5 rfl Try.underlying22 Try.underlying5 Try.underlying9 ?_ | refine owp_bs (o := ⟨some 78, _, _, _, _, _⟩) rfl st 6 get6 rfl Try.underlying22 Try.underlying5 Try.underlying9 ?_ | refine owp_bs (o := ⟨some 78, _, _, _, _, _⟩) rfl st 7 get7 rfl Try.underlying22 Try.underlying5 Try.underlying9 ?_ | refine owp_bs (o := ⟨some 78, _, _, _, _, _⟩) rfl st 8 get8 rfl Try.underlying22 Try.underlying5 Try.underlying9 ?_ | refine owp_bs (o := ⟨some 78, _, _, _, _, _⟩) rfl st 9 get9 rfl Try.underlying22 Try.underlying5 Try.underlying9 ?_ | refine owp_bs (o := ⟨some 78, _, _, _, _, _⟩) rfl st 10 get10 rfl Try.underlying22 Try.underlying5 Try.underlying9 ?_ | refine owp_bs (o := ⟨some 78, _, _, _, _, _⟩) rfl st 11 get11 rfl Try.underlying22 Try.underlying5 Try.underlying9 ?_); (try simp only [Value.cells, List.cons_append, List.nil_append, List.set, spl, putIt, pick, List.map_cons, List.map_nil, List.getElem?_cons_zero, List.getElem?_cons_succ, Option.getD_some, List.drop_succ_cons, List.drop_zero, List.drop_nil, List.append_nil, unB] at st); (try clear hc); have hc := st.facts; (try simp only [factsOf, blkI, blkFacts, rowI, byI, datI, nullI, oldI, penI, rdI, rdAnyI, rdOverI, Nat.zero_add, Nat.reduceAdd, and_true, true_and, and_self] at hc))))
          refine Rg4.wp_region4 (Rel := Ext) #[0, 1, 3, 7, 3, 19, 51, 115, 243, 511, 1023, 2047]
            [(3, .val (.int .i64 (zs.length : Int)))] [11] [0, 4, 7] (fun _ => True) [0, 1, 2, 3, 4, 5, 6, 7, 8, 9, 10, 11] (by kernel_rfl) (by kernel_rfl) (by kernel_rfl) (by kernel_rfl) Ext.refl (fun _ _ _ => Ext.trans) (show Rg4.PB _ by repeat (first | with_reducible exact Rg4.pb_body | with_reducible exact Rg4.pb_bodyD rfl | with_reducible refine Rg4.pb_then ?_ | with_reducible refine Rg4.pb_inBlock ?_ | with_reducible refine Rg4.pb_noGoto ?_)) (trivial) ?_
          replace st := st.drew
          change Rg4.wp4 _ _ _ _ _ _ _ _ _ (World.drew _) _ _
          generalize World.drew _ = w at st ⊢
          (try clear hc); have hc := st.facts; (try simp only [factsOf, blkI, blkFacts, rowI, byI, datI, nullI, oldI, penI, rdI, rdAnyI, rdOverI, Nat.zero_add, Nat.reduceAdd, and_true, true_and, and_self] at hc)
          (refine Rg4.w4_read (Rg4.want_none rfl) rfl rfl ?_; apply Exists.intro; refine ⟨fun w' hw' hcl' => ?_, ?_⟩; focus (have st' := st.ext hw'; have hc' := st'.facts; (try simp only [factsOf, blkI, blkFacts, rowI, byI, datI, nullI, oldI, penI, rdI, rdAnyI, rdOverI, Nat.zero_add, Nat.reduceAdd, and_true, true_and, and_self] at hc'); (focus (first | (go_simp; done) | (go_simp; first | rfl | (rw [if_neg] <;> first | rfl | omega))))); (try simp only [Act.put, List.setIfInBounds_toArray, List.set]))
          (refine Rg4.w4_any (Rg4.want_none rfl) rfl ?_; apply Exists.intro; refine ⟨fun w' => ?_, ?_⟩; (focus (first | (go_simp; done) | (go_simp; first | rfl | (rw [if_neg] <;> first | rfl | omega)))); (try simp only [Act.put, List.setIfInBounds_toArray, List.set]))
          (first | (refine Rg4.w4_any (Rg4.want_of 1 93 true rfl rfl rfl) rfl ?_; apply Exists.intro; refine ⟨fun w' => ?_, ?_⟩; (focus (first | (go_simp; done) | (go_simp; first | rfl | (rw [if_neg] <;> first | rfl | omega)))); (try simp only [Act.put, List.setIfInBounds_toArray, List.set])) | (refine Rg4.w4_skip (Rg4.unwant_of 1 93 true rfl rfl rfl) ?_; (try simp only [Act.put, List.setIfInBounds_toArray, List.set])))
          refine Rg4.w4_some (Rg4.want_of 1 93 true rfl rfl rfl) rfl (fun w' hw' hcl' _ => ?_) ?_
          · have st' := (st.ext hw').keep [8] (by decide) (by simp)
            refine Rg.relAt_call (by go_simp; exact ⟨rfl, rfl⟩) ?_
            refine (left_c (L := []) st').mono ?_
            rintro en w'' ⟨rfl, rfl⟩
            exact ⟨_, rfl, Ext.refl _, trivial, rfl⟩
          rintro v ⟨_, _, _, rfl⟩
          (try simp only [Act.put, List.setIfInBounds_toArray, List.set])
          (first | (refine Rg4.w4_read (Rg4.want_of 1 93 true rfl rfl rfl) rfl rfl ?_; apply Exists.intro; refine ⟨fun w' hw' hcl' => ?_, ?_⟩; focus (have st' := st.ext hw'; have hc' := st'.facts; (try simp only [factsOf, blkI, blkFacts, rowI, byI, datI, nullI, oldI, penI, rdI, rdAnyI, rdOverI, Nat.zero_add, Nat.reduceAdd, and_true, true_and, and_self] at hc'); (focus (first | (go_simp; done) | (go_simp; first | rfl | (rw [if_neg] <;> first | rfl | omega))))); (try simp only [Act.put, List.setIfInBounds_toArray, List.set])) | (refine Rg4.w4_skip (Rg4.unwant_of 1 93 true rfl rfl rfl) ?_; (try simp only [Act.put, List.setIfInBounds_toArray, List.set])))
          (first | (refine Rg4.w4_any (Rg4.want_of 1 93 true rfl rfl rfl) rfl ?_; apply Exists.intro; refine ⟨fun w' => ?_, ?_⟩; (focus (first | (go_simp; done) | (go_simp; first | rfl | (rw [if_neg] <;> first | rfl | omega)))); (try simp only [Act.put, List.setIfInBounds_toArray, List.set])) | (refine Rg4.w4_skip (Rg4.unwant_of 1 93 true rfl rfl rfl) ?_; (try simp only [Act.put, List.setIfInBounds_toArray, List.set])))
          (first | (refine Rg4.w4_any (Rg4.want_of 1 93 true rfl rfl rfl) rfl ?_; apply Exists.intro; refine ⟨fun w' => ?_, ?_⟩; (focus (first | (go_simp; done) | (go_simp; first | rfl | (rw [if_neg] <;> first | rfl | omega)))); (try simp only [Act.put, List.setIfInBounds_toArray, List.set])) | (refine Rg4.w4_skip (Rg4.unwant_of 1 93 true rfl rfl rfl) ?_; (try simp only [Act.put, List.setIfInBounds_toArray, List.set])))
          (first | (refine Rg4.w4_read (Rg4.want_of 1 93 true rfl rfl rfl) rfl rfl ?_; apply Exists.intro; refine ⟨fun w' hw' hcl' => ?_, ?_⟩; focus (have st' := st.ext hw'; have hc' := st'.facts; (try simp only [factsOf, blkI, blkFacts, rowI, byI, datI, nullI, oldI, penI, rdI, rdAnyI, rdOverI, Nat.zero_add, Nat.reduceAdd, and_true, true_and, and_self] at hc'); (focus (first | (go_simp; done) | (go_simp; first | rfl | (rw [if_neg] <;> first | rfl | omega))))); (try simp only [Act.put, List.setIfInBounds_toArray, List.set])) | (refine Rg4.w4_skip (Rg4.unwant_of 1 93 true rfl rfl rfl) ?_; (try simp only [Act.put, List.setIfInBounds_toArray, List.set])))
          (first | (refine Rg4.w4_any (Rg4.want_of 1 93 true rfl rfl rfl) rfl ?_; apply Exists.intro; refine ⟨fun w' => ?_, ?_⟩; (focus (first | (go_simp; done) | (go_simp; first | rfl | (rw [if_neg] <;> first | rfl | omega)))); (try simp only [Act.put, List.setIfInBounds_toArray, List.set])) | (refine Rg4.w4_skip (Rg4.unwant_of 1 93 true rfl rfl rfl) ?_; (try simp only [Act.put, List.setIfInBounds_toArray, List.set])))
          (first | (refine Rg4.w4_any (Rg4.want_of 1 93 true rfl rfl rfl) rfl ?_; apply Exists.intro; refine ⟨fun w' => ?_, ?_⟩; (focus (first | (go_simp; done) | (go_simp; first | rfl | (rw [if_neg] <;> first | rfl | omega)))); (try simp only [Act.put, List.setIfInBounds_toArray, List.set])) | (refine Rg4.w4_skip (Rg4.unwant_of 1 93 true rfl rfl rfl) ?_; (try simp only [Act.put, List.setIfInBounds_toArray, List.set])))
          (refine Rg4.w4_any (Rg4.want_none rfl) rfl ?_; apply Exists.intro; refine ⟨fun w' => ?_, ?_⟩; (focus (first | (go_simp; done) | (go_simp; first | rfl | (rw [if_neg] <;> first | rfl | omega)))); (try simp only [Act.put, List.setIfInBounds_toArray, List.set]))
          (refine Rg4.w4_bar (Rg4.want_none rfl) rfl (fun w' hw' hcl' _ K hK => ?_); replace st := st.ext hw'; ((refine owp_store rfl st ?_; apply Exists.intro; apply Exists.intro; refine ⟨?_, ?_, ?_⟩; (focus (go_simp; try rfl)); (focus (go_simp; try rfl)); (first | with_reducible refine ⟨0, _, _, _, _, get0, rfl, rfl, ?_, ?_, ?_, ?_⟩ | with_reducible refine ⟨1, _, _, _, _, get1, rfl, rfl, ?_, ?_, ?_, ?_⟩ | with_reducible refine ⟨2, _, _, _, _, get2, rfl, rfl, ?_, ?_, ?_, ?_⟩ | with_reducible refine ⟨3, _, _, _, _, get3, rfl, rfl, ?_, ?_, ?_, ?_⟩ | with_reducible refine ⟨4, _, _, _, _, get4, rfl, rfl, ?_, ?_, ?_, ?_⟩ | with_reducible refine ⟨5, _, _, _, _, get5, rfl, rfl, ?_, ?_, ?_, ?_⟩ | with_reducible refine ⟨6, _, _, _, _, get6, rfl, rfl, ?_, ?_, ?_, ?_⟩ | with_reducible refine ⟨7, _, _, _, _, get7, rfl, rfl, ?_, ?_, ?_, ?_⟩ | with_reducible refine ⟨8, _, _, _, _, get8, rfl, rfl, ?_, ?_, ?_, ?_⟩ | with_reducible refine ⟨9, _, _, _, _, get9, rfl, rfl, ?_, ?_, ?_, ?_⟩ | with_reducible refine ⟨10, _, _, _, _, get10, rfl, rfl, ?_, ?_, ?_, ?_⟩ | with_reducible refine ⟨11, _, _, _, _, get11, rfl, rfl, ?_, ?_, ?_, ?_⟩); (kernel_rfl); (simp [Value.cells]); (rfl); (clear st; intro w st)); (try simp only [Value.cells, List.cons_append, List.nil_append, List.set, spl, putIt, pick, List.map_cons, List.map_nil, List.getElem?_cons_zero, List.getElem?_cons_succ, Option.getD_some, List.drop_succ_cons, List.drop_zero, List.drop_nil, List.append_nil, unB] at st); (try clear hc); have hc := st.facts; (try simp only [factsOf, blkI, blkFacts, rowI, byI, datI, nullI, oldI, penI, rdI, rdAnyI, rdOverI, Nat.zero_add, Nat.reduceAdd, and_true, true_and, and_self] at hc)); refine hK _ _ ⟨trivial, ?_⟩; (try simp only [Act.put, List.setIfInBounds_toArray, List.set]))
          refine Rg4.w4_nil (fun w' hw' hcl' _ => ?_); replace st := st.ext hw'; clear hw' hcl'; (try clear hc); have hc := st.facts; (try simp only [factsOf, blkI, blkFacts, rowI, byI, datI, nullI, oldI, penI, rdI, rdAnyI, rdOverI, Nat.zero_add, Nat.reduceAdd, and_true, true_and, and_self] at hc)
          go_wp2_with fail
          have st' := st.keep [0, 1, 2, 3, 4, 5, 6, 7, 8] (by decide) (by simp)
          refine ⟨⟨j + 1, zs, by omega, by go_num, Lib.hid ⟨?_, HZ⟩, by simpa [pick] using st'⟩, by simp [intOf]; omega⟩
          rw [HR.out.1, HS.out, HE.out]
          simp only [Nat.add_assoc, Nat.add_comm 1]
      · by_cases hk1 : (IntKind.u64.wrap ok).tmod 3 = 1
        · have hb0 : ((IntKind.u64.wrap ok).tmod 3 == 0) = false := by simp [hk0]
          have hb1 : ((IntKind.u64.wrap ok).tmod 3 == 1) = true := by simp [hk1]
          have hop : rdOp ⟨ok, on, ob⟩ ys = (match rdText on ys with | .error e => .error e | .ok (_, ys) => .ok ys) := by unfold rdOp knd; rw [if_neg hk0, if_pos hk1]
          have HOP := Lib.hid hop
          clear hop
          go_wp2_with (first
              | ((with_reducible refine wl_store ?_ (fun K hK => ?_)); (rfl); ((refine owp_store rfl st ?_; apply Exists.intro; apply Exists.intro; refine ⟨?_, ?_, ?_⟩; (focus (go_simp; try rfl)); (focus (go_simp; try rfl)); (first | with_reducible refine ⟨0, _, _, _, _, get0, rfl, rfl, ?_, ?_, ?_, ?_⟩ | with_reducible refine ⟨1, _, _, _, _, get1, rfl, rfl, ?_, ?_, ?_, ?_⟩ | with_reducible refine ⟨2, _, _, _, _, get2, rfl, rfl, ?_, ?_, ?_, ?_⟩ | with_reducible refine ⟨3, _, _, _, _, get3, rfl, rfl, ?_, ?_, ?_, ?_⟩ | with_reducible refine ⟨4, _, _, _, _, get4, rfl, rfl, ?_, ?_, ?_, ?_⟩ | with_reducible refine ⟨5, _, _, _, _, get5, rfl, rfl, ?_, ?_, ?_, ?_⟩ | with_reducible refine ⟨6, _, _, _, _, get6, rfl, rfl, ?_, ?_, ?_, ?_⟩ | with_reducible refine ⟨7, _, _, _, _, get7, rfl, rfl, ?_, ?_, ?_, ?_⟩ | with_reducible refine ⟨8, _, _, _, _, get8, rfl, rfl, ?_, ?_, ?_, ?_⟩ | with_reducible refine ⟨9, _, _, _, _, get9, rfl, rfl, ?_, ?_, ?_, ?_⟩ | with_reducible refine ⟨10, _, _, _, _, get10, rfl, rfl, ?_, ?_, ?_, ?_⟩ | with_reducible refine ⟨11, _, _, _, _, get11, rfl, rfl, ?_, ?_, ?_, ?_⟩); (kernel_rfl); (simp [Value.cells]); (rfl); (clear st; intro w st)); (try simp only [Value.cells, List.cons_append, List.nil_append, List.set, spl, putIt, pick, List.map_cons, List.map_nil, List.getElem?_cons_zero, List.getElem?_cons_succ, Option.getD_some, List.drop_succ_cons, List.drop_zero, List.drop_nil, List.append_nil, unB] at st); (try clear hc); have hc := st.facts; (try simp only [factsOf, blkI, blkFacts, rowI, byI, datI, nullI, oldI, penI, rdI, rdAnyI, rdOverI, Nat.zero_add, Nat.reduceAdd, and_true, true_and, and_self] at hc)))
              | ((with_reducible refine wl_alloc ?_ (fun K hK => ?_)); (rfl); ((refine owp_alloc (o := ⟨some 9, _, _, _, _, _⟩) rfl st ?_; apply Exists.intro; apply Exists.intro; refine ⟨?_, ?_⟩; (focus (first | (go_simp; done) | (go_simp; rfl))); (clear st; intro b9 w hb st; clear hb)); (try simp only [Value.cells, List.cons_append, List.nil_append, List.set, spl, putIt, pick, List.map_cons, List.map_nil, List.getElem?_cons_zero, List.getElem?_cons_succ, Option.getD_some, List.drop_succ_cons, List.drop_zero, List.drop_nil, List.append_nil, unB] at st); (try clear hc); have hc := st.facts; (try simp only [factsOf, blkI, blkFacts, rowI, byI, datI, nullI, oldI, penI, rdI, rdAnyI, rdOverI, Nat.zero_add, Nat.reduceAdd, and_true, true_and, and_self] at hc)))
              | ((with_reducible refine wl_convert ?_ (fun K hK => ?_)); (rfl); ((first | refine owp_bs (o := ⟨some 78, _, _, _, _, _⟩) rfl st 0 get0 rfl Try.underlying22 Try.underlying5 Try.underlying9 ?_ | refine owp_bs (o := ⟨some 78, _, _, _, _, _⟩) rfl st 1 get1 rfl Try.underlying22 Try.underlying5 Try.underlying9 ?_ | refine owp_bs (o := ⟨some 78, _, _, _, _, _⟩) rfl st 2 get2 rfl Try.underlying22 Try.underlying5 Try.underlying9 ?_ | refine owp_bs (o := ⟨some 78, _, _, _, _, _⟩) rfl st 3 get3 rfl Try.underlying22 Try.underlying5 Try.underlying9 ?_ | refine owp_bs (o := ⟨some 78, _, _, _, _, _⟩) rfl st 4 get4 rfl Try.underlying22 Try.underlying5 Try.underlying9 ?_ | refine owp_bs (o := ⟨some 78, _, _, _, _, _⟩) rfl st 5 get5 rfl Try.underlying22 Try.underlying5 Try.underlying9 ?_ | refine owp_bs (o := ⟨some 78, _, _, _, _, _⟩) rfl st 6 get6 rfl Try.underlying22 Try.underlying5 Try.underlying9 ?_ | refine owp_bs (o := ⟨some 78, _, _, _, _, _⟩) rfl st 7 get7 rfl Try.underlying22 Try.underlying5 Try.underlying9 ?_ | refine owp_bs (o := ⟨some 78, _, _, _, _, _⟩) rfl st 8 get8 rfl Try.underlying22 Try.underlying5 Try.underlying9 ?_ | refine owp_bs (o := ⟨some 78, _, _, _, _, _⟩) rfl st 9 get9 rfl Try.underlying22 Try.underlying5 Try.underlying9 ?_ | refine owp_bs (o := ⟨some 78, _, _, _, _, _⟩) rfl st 10 get10 rfl Try.underlying22 Try.underlying5 Try.underlying9 ?_ | refine owp_bs (o := ⟨some 78, _, _, _, _, _⟩) rfl st 11 get11 rfl Try.underlying22 Try.underlying5 Try.underlying9 ?_); (try simp only [Value.cells, List.cons_append, List.nil_append, List.set, spl, putIt, pick, List.map_cons, List.map_nil, List.getElem?_cons_zero, List.getElem?_cons_succ, Option.getD_some, List.drop_succ_cons, List.drop_zero, List.drop_nil, List.append_nil, unB] at st); (try clear hc); have hc := st.facts; (try simp only [factsOf, blkI, blkFacts, rowI, byI, datI, nullI, oldI, penI, rdI, rdAnyI, rdOverI, Nat.zero_add, Nat.reduceAdd, and_true, true_and, and_self] at hc))))
          obtain ⟨fr', al', st', back⟩ := st.sub [7] (by decide) (by simp)
          (try simp only [Value.cells, List.cons_append, List.nil_append, List.set, spl, putIt, pick, List.map_cons, List.map_nil, List.getElem?_cons_zero, List.getElem?_cons_succ, Option.getD_some, List.drop_succ_cons, List.drop_zero, List.drop_nil, List.append_nil, unB] at st')
          refine (refText_c st' on (by omega)).mono ?_
          intro en w hen
          clear st'
          cases hr : rdText on ys with
          | error e =>
            rw [hr] at hen
            obtain ⟨rfl, s, st'⟩ := hen
            replace st := back _ _ (by simp) st'
            clear back st'
            (try simp only [Value.cells, List.cons_append, List.nil_append, List.set, spl, putIt, pick, List.map_cons, List.map_nil, List.getElem?_cons_zero, List.getElem?_cons_succ, Option.getD_some, List.drop_succ_cons, List.drop_zero, List.drop_nil, List.append_nil, unB] at st)
            (try clear hc); have hc := st.facts; (try simp only [factsOf, blkI, blkFacts, rowI, byI, datI, nullI, oldI, penI, rdI, rdAnyI, rdOverI, Nat.zero_add, Nat.reduceAdd, and_true, true_and, and_self] at hc)
            have HE : rdOp ⟨ok, on, ob⟩ ys = .error e := by rw [HOP.out, hr]
            have HE := Lib.hid HE
            go_wp2_with fail
            obtain ⟨fr', al', st', back⟩ := st.sub [8] (by decide) (by simp)
            (try simp only [Value.cells, List.cons_append, List.nil_append, List.set, spl, putIt, pick, List.map_cons, List.map_nil, List.getElem?_cons_zero, List.getElem?_cons_succ, Option.getD_some, List.drop_succ_cons, List.drop_zero, List.drop_nil, List.append_nil, unB] at st')
            refine (text_c st' on (by omega)).mono ?_
            intro en w hen
            clear st'
            unfold RdC at hen
            rw [hr] at hen
            obtain ⟨rfl, st'⟩ := hen
            replace st := back _ _ (by simp) st'
            clear back st'
            (try simp only [Value.cells, List.cons_append, List.nil_append, List.set, spl, putIt, pick, List.map_cons, List.map_nil, List.getElem?_cons_zero, List.getElem?_cons_succ, Option.getD_some, List.drop_succ_cons, List.drop_zero, List.drop_nil, List.append_nil, unB] at st)
            (try clear hc); have hc := st.facts; (try simp only [factsOf, blkI, blkFacts, rowI, byI, datI, nullI, oldI, penI, rdI, rdAnyI, rdOverI, Nat.zero_add, Nat.reduceAdd, and_true, true_and, and_self] at hc)
            go_wp2_with fail
            refine leaves_cons (by simp) (inv44 _ _) ?_
            refine (def_c st 2 get2 _).mono ?_
            rintro en u w ⟨rfl, rfl, st⟩
            have st' := st.keep [0, 1, 2, 3, 4, 5, 6, 7, 8] (by decide) (by simp)
            have e1 : rdOps l xs = (j + 1, .error e) := by rw [HR.out.1, HS.out, HE.out]
            simp only [settle, Leaves]
            show RdsPost _ _ _ _ _ _ _ _ _ _ _ _ _ _ _ _ _ _
            rw [e1]
            exact ⟨rfl, _, by simpa [pick] using st'⟩
          | ok p =>
            obtain ⟨m, zs⟩ := p
            rw [hr] at hen
            obtain ⟨rfl, st'⟩ := hen
            replace st := back _ _ (by simp) st'
            clear back st'
            (try simp only [Value.cells, List.cons_append, List.nil_append, List.set, spl, putIt, pick, List.map_cons, List.map_nil, List.getElem?_cons_zero, List.getElem?_cons_succ, Option.getD_some, List.drop_succ_cons, List.drop_zero, List.drop_nil, List.append_nil, unB] at st)
            (try clear hc); have hc := st.facts; (try simp only [factsOf, blkI, blkFacts, rowI, byI, datI, nullI, oldI, penI, rdI, rdAnyI, rdOverI, Nat.zero_add, Nat.reduceAdd, and_true, true_and, and_self] at hc)
            have HE : rdOp ⟨ok, on, ob⟩ ys = .ok zs := by rw [HOP.out, hr]
            have HE := Lib.hid HE
            have HZ : zs.length ≤ 3000 := by have := rdText_len hr; omega
            have HRR := Lib.hid hr
            clear hr
            unfold S
            go_wp2_with (first
                | ((with_reducible refine wl_store ?_ (fun K hK => ?_)); (rfl); ((refine owp_store rfl st ?_; apply Exists.intro; apply Exists.intro; refine ⟨?_, ?_, ?_⟩; (focus (go_simp; try rfl)); (focus (go_simp; try rfl)); (first | with_reducible refine ⟨0, _, _, _, _, get0, rfl, rfl, ?_, ?_, ?_, ?_⟩ | with_reducible refine ⟨1, _, _, _, _, get1, rfl, rfl, ?_, ?_, ?_, ?_⟩ | with_reducible refine ⟨2, _, _, _, _, get2, rfl, rfl, ?_, ?_, ?_, ?_⟩ | with_reducible refine ⟨3, _, _, _, _, get3, rfl, rfl, ?_, ?_, ?_, ?_⟩ | with_reducible refine ⟨4, _, _, _, _, get4, rfl, rfl, ?_, ?_, ?_, ?_⟩ | with_reducible refine ⟨5, _, _, _, _, get5, rfl, rfl, ?_, ?_, ?_, ?_⟩ | with_reducible refine ⟨6, _, _, _, _, get6, rfl, rfl, ?_, ?_, ?_, ?_⟩ | with_reducible refine ⟨7, _, _, _, _, get7, rfl, rfl, ?_, ?_, ?_, ?_⟩ | with_reducible refine ⟨8, _, _, _, _, get8, rfl, rfl, ?_, ?_, ?_, ?_⟩ | with_reducible refine ⟨9, _, _, _, _, get9, rfl, rfl, ?_, ?_, ?_, ?_⟩ | with_reducible refine ⟨10, _, _, _, _, get10, rfl, rfl, ?_, ?_, ?_, ?_⟩ | with_reducible refine ⟨11, _, _, _, _, get11, rfl, rfl, ?_, ?_, ?_, ?_⟩); (kernel_rfl); (simp [Value.cells]); (rfl); (clear st; intro w st)); (try simp only [Value.cells, List.cons_append, List.nil_append, List.set, spl, putIt, pick, List.map_cons, List.map_nil, List.getElem?_cons_zero, List.getElem?_cons_succ, Option.getD_some, List.drop_succ_cons, List.drop_zero, List.drop_nil, List.append_nil, unB] at st); (try clear hc); have hc := st.facts; (try simp only [factsOf, blkI, blkFacts, rowI, byI, datI, nullI, oldI, penI, rdI, rdAnyI, rdOverI, Nat.zero_add, Nat.reduceAdd, and_true, true_and, and_self] at hc)))
                | ((with_reducible refine wl_alloc ?_ (fun K hK => ?_)); (rfl); ((refine owp_alloc (o := ⟨some 9, _, _, _, _, _⟩) rfl st ?_; apply Exists.intro; apply Exists.intro; refine ⟨?_, ?_⟩; (focus (first | (go_simp; done) | (go_simp; rfl))); (clear st; intro b9 w hb st; clear hb)); (try simp only [Value.cells, List.cons_append, List.nil_append, List.set, spl, putIt, pick, List.map_cons, List.map_nil, List.getElem?_cons_zero, List.getElem?_cons_succ, Option.getD_some, List.drop_succ_cons, List.drop_zero, List.drop_nil, List.append_nil, unB] at st); (try clear hc); have hc := st.facts; (try simp only [factsOf, blkI, blkFacts, rowI, byI, datI, nullI, oldI, penI, rdI, rdAnyI, rdOverI, Nat.zero_add, Nat.reduceAdd, and_true, true_and, and_self] at hc)))
                | ((with_reducible refine wl_convert ?_ (fun K hK => ?_)); (rfl); ((first | refine owp_bs (o := ⟨some 78, _, _, _, _, _⟩) rfl st 0 get0 rfl Try.underlying22 Try.underlying5 Try.underlying9 ?_ | refine owp_bs (o := ⟨some 78, _, _, _, _, _⟩) rfl st 1 get1 rfl Try.underlying22 Try.underlying5 Try.underlying9 ?_ | refine owp_bs (o := ⟨some 78, _, _, _, _, _⟩) rfl st 2 get2 rfl Try.underlying22 Try.underlying5 Try.underlying9 ?_ | refine owp_bs (o := ⟨some 78, _, _, _, _, _⟩) rfl st 3 get3 rfl Try.underlying22 Try.underlying5 Try.underlying9 ?_ | refine owp_bs (o := ⟨some 78, _, _, _, _, _⟩) rfl st 4 get4 rfl Try.underlying22 Try.underlying5 Try.underlying9 ?_ | refine owp_bs (o := ⟨some 78, _, _, _, _, _⟩) rfl st 5 get5 rfl Try.underlying22 Try.underlying5 Try.underlying9 ?_ | refine owp_bs (o := ⟨some 78, _, _, _, _, _⟩) rfl st 6 get6 rfl Try.underlying22 Try.underlying5 Try.underlying9 ?_ | refine owp_bs (o := ⟨some 78, _, _, _, _, _⟩) rfl st 7 get7 rfl Try.underlying22 Try.underlying5 Try.underlying9 ?_ | refine owp_bs (o := ⟨some 78, _, _, _, _, _⟩) rfl st 8 get8 rfl Try.underlying22 Try.underlying5 Try.underlying9 ?_ | refine owp_bs (o := ⟨some 78, _, _, _, _, _⟩) rfl st 9 get9 rfl Try.underlying22 Try.underlying5 Try.underlying9 ?_ | refine owp_bs (o := ⟨some 78, _, _, _, _, _⟩) rfl st 10 get10 rfl Try.underlying22 Try.underlying5 Try.underlying9 ?_ | refine owp_bs (o := ⟨some 78, _, _, _, _, _⟩) rfl st 11 get11 rfl Try.underlying22 Try.underlying5 Try.underlying9 ?_); (try simp only [Value.cells, List.cons_append, List.nil_append, List.set, spl, putIt, pick, List.map_cons, List.map_nil, List.getElem?_cons_zero, List.getElem?_cons_succ, Option.getD_some, List.drop_succ_cons, List.drop_zero, List.drop_nil, List.append_nil, unB] at st); (try clear hc); have hc := st.facts; (try simp only [factsOf, blkI, blkFacts, rowI, byI, datI, nullI, oldI, penI, rdI, rdAnyI, rdOverI, Nat.zero_add, Nat.reduceAdd, and_true, true_and, and_self] at hc))))
            obtain ⟨fr', al', st', back⟩ := st.sub [8] (by decide) (by simp)
            (try simp only [Value.cells, List.cons_append, List.nil_append, List.set, spl, putIt, pick, List.map_cons, List.map_nil, List.getElem?_cons_zero, List.getElem?_cons_succ, Option.getD_some, List.drop_succ_cons, List.drop_zero, List.drop_nil, List.append_nil, unB] at st')
            refine (text_c st' on (by omega)).mono ?_
            clear st'
            intro en w hen
            unfold RdC at hen
            rw [HRR.out] at hen
            obtain ⟨v, M, rfl, ⟨a', c', rfl, hc1, rfl⟩, st'⟩ := hen
            replace st := back _ _ (by simp) st'
            clear back st'
            (try simp only [Value.cells, List.cons_append, List.nil_append, List.set, spl, putIt, pick, List.map_cons, List.map_nil, List.getElem?_cons_zero, List.getElem?_cons_succ, Option.getD_some, List.drop_succ_cons, List.drop_zero, List.drop_nil, List.append_nil, unB] at st)
            (try clear hc); have hc := st.facts; (try simp only [factsOf, blkI, blkFacts, rowI, byI, datI, nullI, oldI, penI, rdI, rdAnyI, rdOverI, Nat.zero_add, Nat.reduceAdd, and_true, true_and, and_self] at hc)
            go_wp2_with (first
                | ((with_reducible refine wl_store ?_ (fun K hK => ?_)); (rfl); ((refine owp_store rfl st ?_; apply Exists.intro; apply Exists.intro; refine ⟨?_, ?_, ?_⟩; (focus (go_simp; try rfl)); (focus (go_simp; try rfl)); (first | with_reducible refine ⟨0, _, _, _, _, get0, rfl, rfl, ?_, ?_, ?_, ?_⟩ | with_reducible refine ⟨1, _, _, _, _, get1, rfl, rfl, ?_, ?_, ?_, ?_⟩ | with_reducible refine ⟨2, _, _, _, _, get2, rfl, rfl, ?_, ?_, ?_, ?_⟩ | with_reducible refine ⟨3, _, _, _, _, get3, rfl, rfl, ?_, ?_, ?_, ?_⟩ | with_reducible refine ⟨4, _, _, _, _, get4, rfl, rfl, ?_, ?_, ?_, ?_⟩ | with_reducible refine ⟨5, _, _, _, _, get5, rfl, rfl, ?_, ?_, ?_, ?_⟩ | with_reducible refine ⟨6, _, _, _, _, get6, rfl, rfl, ?_, ?_, ?_, ?_⟩ | with_reducible refine ⟨7, _, _, _, _, get7, rfl, rfl, ?_, ?_, ?_, ?_⟩ | with_reducible refine ⟨8, _, _, _, _, get8, rfl, rfl, ?_, ?_, ?_, ?_⟩ | with_reducible refine ⟨9, _, _, _, _, get9, rfl, rfl, ?_, ?_, ?_, ?_⟩ | with_reducible refine ⟨10, _, _, _, _, get10, rfl, rfl, ?_, ?_, ?_, ?_⟩ | with_reducible refine ⟨11, _, _, _, _, get11, rfl, rfl, ?_, ?_, ?_, ?_⟩); (kernel_rfl); (simp [Value.cells]); (rfl); (clear st; intro w st)); (try simp only [Value.cells, List.cons_append, List.nil_append, List.set, spl, putIt, pick, List.map_cons, List.map_nil, List.getElem?_cons_zero, List.getElem?_cons_succ, Option.getD_some, List.drop_succ_cons, List.drop_zero, List.drop_nil, List.append_nil, unB] at st); (try clear hc); have hc := st.facts; (try simp only [factsOf, blkI, blkFacts, rowI, byI, datI, nullI, oldI, penI, rdI, rdAnyI, rdOverI, Nat.zero_add, Nat.reduceAdd, and_true, true_and, and_self] at hc)))
                | ((with_reducible refine wl_alloc ?_ (fun K hK => ?_)); (rfl); ((refine owp_alloc (o := ⟨some 9, _, _, _, _, _⟩) rfl st ?_; apply Exists.intro; apply Exists.intro; refine ⟨?_, ?_⟩; (focus (first | (go_simp; done) | (go_simp; rfl))); (clear st; intro b9 w hb st; clear hb)); (try simp only [Value.cells, List.cons_append, List.nil_append, List.set, spl, putIt, pick, List.map_cons, List.map_nil, List.getElem?_cons_zero, List.getElem?_cons_succ, Option.getD_some, List.drop_succ_cons, List.drop_zero, List.drop_nil, List.append_nil, unB] at st); (try clear hc); have hc := st.facts; (try simp only [factsOf, blkI, blkFacts, rowI, byI, datI, nullI, oldI, penI, rdI, rdAnyI, rdOverI, Nat.zero_add, Nat.reduceAdd, and_true, true_and, and_self] at hc)))
                | ((with_reducible refine wl_convert ?_ (fun K hK => ?_)); (rfl); ((first | refine owp_bs (o := ⟨some 78, _, _, _, _, _⟩) rfl st 0 get0 rfl Try.underlying22 Try.underlying5 Try.underlying9 ?_ | refine owp_bs (o := ⟨some 78, _, _, _, _, _⟩) rfl st 1 get1 rfl Try.underlying22 Try.underlying5 Try.underlying9 ?_ | refine owp_bs (o := ⟨some 78, _, _, _, _, _⟩) rfl st 2 get2 rfl Try.underlying22 Try.underlying5 Try.underlying9 ?_ | refine owp_bs (o := ⟨some 78, _, _, _, _, _⟩) rfl st 3 get3 rfl Try.underlying22 Try.underlying5 Try.underlying9 ?_ | refine owp_bs (o := ⟨some 78, _, _, _, _, _⟩) rfl st 4 get4 rfl Try.underlying22 Try.underlying5 Try.underlying9 ?_ | refine owp_bs (o := ⟨some 78, _, _, _, _, _⟩) rfl st 5 get5 rfl Try.underlying22 Try.underlying5 Try.underlying9 ?_ | refine owp_bs (o := ⟨some 78, _, _, _, _, _⟩) rfl st 6 get6 rfl Try.underlying22 Try.underlying5 Try.underlying9 ?_ | refine owp_bs (o := ⟨some 78, _, _, _, _, _⟩) rfl st 7 get7 rfl Try.underlying22 Try.underlying5 Try.underlying9 ?_ | refine owp_bs (o := ⟨some 78, _, _, _, _, _⟩) rfl st 8 get8 rfl Try.underlying22 Try.underlying5 Try.underlying9 ?_ | refine owp_bs (o := ⟨some 78, _, _, _, _, _⟩) rfl st 9 get9 rfl Try.underlying22 Try.underlying5 Try.underlying9 ?_ | refine owp_bs (o := ⟨some 78, _, _, _, _, _⟩) rfl st 10 get10 rfl Try.underlying22 Try.underlying5 Try.underlying9 ?_ | refine owp_bs (o := ⟨some 78, _, _, _, _, _⟩) rfl st 11 get11 rfl Try.underlying22 Try.underlying5 Try.underlying9 ?_); (try simp only [Value.cells, List.cons_append, List.nil_append, List.set, spl, putIt, pick, List.map_cons, List.map_nil, List.getElem?_cons_zero, List.getElem?_cons_succ, Option.getD_some, List.drop_succ_cons, List.drop_zero, List.drop_nil, List.append_nil, unB] at st); (try clear hc); have hc := st.facts; (try simp only [factsOf, blkI, blkFacts, rowI, byI, datI, nullI, oldI, penI, rdI, rdAnyI, rdOverI, Nat.zero_add, Nat.reduceAdd, and_true, true_and, and_self] at hc))))
            refine Rg4.wp_region4 (Rel := Ext) #[0, 1, 3, 7, 3, 19, 51, 115, 243, 511, 1023, 2047]
              [(3, .val (.int .i64 (zs.length : Int)))] [11] [0, 4, 7] (fun _ => True) [0, 1, 2, 3, 4, 5, 6, 7, 8, 9, 10, 11] (by kernel_rfl) (by kernel_rfl) (by kernel_rfl) (by kernel_rfl) Ext.refl (fun _ _ _ => Ext.trans) (show Rg4.PB _ by repeat (first | with_reducible exact Rg4.pb_body | with_reducible exact Rg4.pb_bodyD rfl | with_reducible refine Rg4.pb_then ?_ | with_reducible refine Rg4.pb_inBlock ?_ | with_reducible refine Rg4.pb_noGoto ?_)) (trivial) ?_
            replace st := st.drew
            change Rg4.wp4 _ _ _ _ _ _ _ _ _ (World.drew _) _ _
            generalize World.drew _ = w at st ⊢
            (try clear hc); have hc := st.facts; (try simp only [factsOf, blkI, blkFacts, rowI, byI, datI, nullI, oldI, penI, rdI, rdAnyI, rdOverI, Nat.zero_add, Nat.reduceAdd, and_true, true_and, and_self] at hc)
            (refine Rg4.w4_read (Rg4.want_none rfl) rfl rfl ?_; apply Exists.intro; refine ⟨fun w' hw' hcl' => ?_, ?_⟩; focus (have st' := st.ext hw'; have hc' := st'.facts; (try simp only [factsOf, blkI, blkFacts, rowI, byI, datI, nullI, oldI, penI, rdI, rdAnyI, rdOverI, Nat.zero_add, Nat.reduceAdd, and_true, true_and, and_self] at hc'); (focus (first | (go_simp; done) | (go_simp; first | rfl | (rw [if_neg] <;> first | rfl | omega))))); (try simp only [Act.put, List.setIfInBounds_toArray, List.set]))
            (refine Rg4.w4_any (Rg4.want_none rfl) rfl ?_; apply Exists.intro; refine ⟨fun w' => ?_, ?_⟩; (focus (first | (go_simp; done) | (go_simp; first | rfl | (rw [if_neg] <;> first | rfl | omega)))); (try simp only [Act.put, List.setIfInBounds_toArray, List.set]))
            (first | (refine Rg4.w4_any (Rg4.want_of 1 93 true rfl rfl rfl) rfl ?_; apply Exists.intro; refine ⟨fun w' => ?_, ?_⟩; (focus (first | (go_simp; done) | (go_simp; first | rfl | (rw [if_neg] <;> first | rfl | omega)))); (try simp only [Act.put, List.setIfInBounds_toArray, List.set])) | (refine Rg4.w4_skip (Rg4.unwant_of 1 93 true rfl rfl rfl) ?_; (try simp only [Act.put, List.setIfInBounds_toArray, List.set])))
            refine Rg4.w4_some (Rg4.want_of 1 93 true rfl rfl rfl) rfl (fun w' hw' hcl' _ => ?_) ?_
            · have st' := (st.ext hw').keep [8] (by decide) (by simp)
              refine Rg.relAt_call (by go_simp; exact ⟨rfl, rfl⟩) ?_
              refine (left_c (L := []) st').mono ?_
              rintro en w'' ⟨rfl, rfl⟩
              exact ⟨_, rfl, Ext.refl _, trivial, rfl⟩
            rintro v ⟨_, _, _, rfl⟩
            (try simp only [Act.put, List.setIfInBounds_toArray, List.set])
            (first | (refine Rg4.w4_read (Rg4.want_of 1 93 true rfl rfl rfl) rfl rfl ?_; apply Exists.intro; refine ⟨fun w' hw' hcl' => ?_, ?_⟩; focus (have st' := st.ext hw'; have hc' := st'.facts; (try simp only [factsOf, blkI, blkFacts, rowI, byI, datI, nullI, oldI, penI, rdI, rdAnyI, rdOverI, Nat.zero_add, Nat.reduceAdd, and_true, true_and, and_self] at hc'); (focus (first | (go_simp; done) | (go_simp; first | rfl | (rw [if_neg] <;> first | rfl | omega))))); (try simp only [Act.put, List.setIfInBounds_toArray, List.set])) | (refine Rg4.w4_skip (Rg4.unwant_of 1 93 true rfl rfl rfl) ?_; (try simp only [Act.put, List.setIfInBounds_toArray, List.set])))
            (first | (refine Rg4.w4_any (Rg4.want_of 1 93 true rfl rfl rfl) rfl ?_; apply Exists.intro; refine ⟨fun w' => ?_, ?_⟩; (focus (first | (go_simp; done) | (go_simp; first | rfl | (rw [if_neg] <;> first | rfl | omega)))); (try simp only [Act.put, List.setIfInBounds_toArray, List.set])) | (refine Rg4.w4_skip (Rg4.unwant_of 1 93 true rfl rfl rfl) ?_; (try simp only [Act.put, List.setIfInBounds_toArray, List.set])))
            (first | (refine Rg4.w4_any (Rg4.want_of 1 93 true rfl rfl rfl) rfl ?_; apply Exists.intro; refine ⟨fun w' => ?_, ?_⟩; (focus (first | (go_simp; done) | (go_simp; first | rfl | (rw [if_neg] <;> first | rfl | omega)))); (try simp only [Act.put, List.setIfInBounds_toArray, List.set])) | (refine Rg4.w4_skip (Rg4.unwant_of 1 93 true rfl rfl rfl) ?_; (try simp only [Act.put, List.setIfInBounds_toArray, List.set])))
            (first | (refine Rg4.w4_read (Rg4.want_of 1 93 true rfl rfl rfl) rfl rfl ?_; apply Exists.intro; refine ⟨fun w' hw' hcl' => ?_, ?_⟩; focus (have st' := st.ext hw'; have hc' := st'.facts; (try simp only [factsOf, blkI, blkFacts, rowI, byI, datI, nullI, oldI, penI, rdI, rdAnyI, rdOverI, Nat.zero_add, Nat.reduceAdd, and_true, true_and, and_self] at hc'); (focus (first | (go_simp; done) | (go_simp; first | rfl | (rw [if_neg] <;> first | rfl | omega))))); (try simp only [Act.put, List.setIfInBounds_toArray, List.set])) | (refine Rg4.w4_skip (Rg4.unwant_of 1 93 true rfl rfl rfl) ?_; (try simp only [Act.put, List.setIfInBounds_toArray, List.set])))
            (first | (refine Rg4.w4_any (Rg4.want_of 1 93 true rfl rfl rfl) rfl ?_; apply Exists.intro; refine ⟨fun w' => ?_, ?_⟩; (focus (first | (go_simp; done) | (go_simp; first | rfl | (rw [if_neg] <;> first | rfl | omega)))); (try simp only [Act.put, List.setIfInBounds_toArray, List.set])) | (refine Rg4.w4_skip (Rg4.unwant_of 1 93 true rfl rfl rfl) ?_; (try simp only [Act.put, List.setIfInBounds_toArray, List.set])))
            (first | (refine Rg4.w4_any (Rg4.want_of 1 93 true rfl rfl rfl) rfl ?_; apply Exists.intro; refine ⟨fun w' => ?_, ?_⟩; (focus (first | (go_simp; done) | (go_simp; first | rfl | (rw [if_neg] <;> first | rfl | omega)))); (try simp only [Act.put, List.setIfInBounds_toArray, List.set])) | (refine Rg4.w4_skip (Rg4.unwant_of 1 93 true rfl rfl rfl) ?_; (try simp only [Act.put, List.setIfInBounds_toArray, List.set])))
            (refine Rg4.w4_any (Rg4.want_none rfl) rfl ?_; apply Exists.intro; refine ⟨fun w' => ?_, ?_⟩; (focus (first | (go_simp; done) | (go_simp; first | rfl | (rw [if_neg] <;> first | rfl | omega)))); (try simp only [Act.put, List.setIfInBounds_toArray, List.set]))
            (refine Rg4.w4_bar (Rg4.want_none rfl) rfl (fun w' hw' hcl' _ K hK => ?_); replace st := st.ext hw'; ((refine owp_store rfl st ?_; apply Exists.intro; apply Exists.intro; refine ⟨?_, ?_, ?_⟩; (focus (go_simp; try rfl)); (focus (go_simp; try rfl)); (first | with_reducible refine ⟨0, _, _, _, _, get0, rfl, rfl, ?_, ?_, ?_, ?_⟩ | with_reducible refine ⟨1, _, _, _, _, get1, rfl, rfl, ?_, ?_, ?_, ?_⟩ | with_reducible refine ⟨2, _, _, _, _, get2, rfl, rfl, ?_, ?_, ?_, ?_⟩ | with_reducible refine ⟨3, _, _, _, _, get3, rfl, rfl, ?_, ?_, ?_, ?_⟩ | with_reducible refine ⟨4, _, _, _, _, get4, rfl, rfl, ?_, ?_, ?_, ?_⟩ | with_reducible refine ⟨5, _, _, _, _, get5, rfl, rfl, ?_, ?_, ?_, ?_⟩ | with_reducible refine ⟨6, _, _, _, _, get6, rfl, rfl, ?_, ?_, ?_, ?_⟩ | with_reducible refine ⟨7, _, _, _, _, get7, rfl, rfl, ?_, ?_, ?_, ?_⟩ | with_reducible refine ⟨8, _, _, _, _, get8, rfl, rfl, ?_, ?_, ?_, ?_⟩ | with_reducible refine ⟨9, _, _, _, _, get9, rfl, rfl, ?_, ?_, ?_, ?_⟩ | with_reducible refine ⟨10, _, _, _, _, get10, rfl, rfl, ?_, ?_, ?_, ?_⟩ | with_reducible refine ⟨11, _, _, _, _, get11, rfl, rfl, ?_, ?_, ?_, ?_⟩); (kernel_rfl); (simp [Value.cells]); (rfl); (clear st; intro w st)); (try simp only [Value.cells, List.cons_append, List.nil_append, List.set, spl, putIt, pick, List.map_cons, List.map_nil, List.getElem?_cons_zero, List.getElem?_cons_succ, Option.getD_some, List.drop_succ_cons, List.drop_zero, List.drop_nil, List.append_nil, unB] at st); (try clear hc); have hc := st.facts; (try simp only [factsOf, blkI, blkFacts, rowI, byI, datI, nullI, oldI, penI, rdI, rdAnyI, rdOverI, Nat.zero_add, Nat.reduceAdd, and_true, true_and, and_self] at hc)); refine hK _ _ ⟨trivial, ?_⟩; (try simp only [Act.put, List.setIfInBounds_toArray, List.set]))
            refine Rg4.w4_nil (fun w' hw' hcl' _ => ?_); replace st := st.ext hw'; clear hw' hcl'; (try clear hc); have hc := st.facts; (try simp only [factsOf, blkI, blkFacts, rowI, byI, datI, nullI, oldI, penI, rdI, rdAnyI, rdOverI, Nat.zero_add, Nat.reduceAdd, and_true, true_and, and_self] at hc)
            go_wp2_with fail
            have st' := st.keep [0, 1, 2, 3, 4, 5, 6, 7, 8] (by decide) (by simp)
            refine ⟨⟨j + 1, zs, by omega, by go_num, Lib.hid ⟨?_, HZ⟩, by simpa [pick] using st'⟩, by simp [intOf]; omega⟩
            rw [HR.out.1, HS.out, HE.out]
            simp only [Nat.add_assoc, Nat.add_comm 1]
        · have hb0 : ((IntKind.u64.wrap ok).tmod 3 == 0) = false := by simp [hk0]
          have hb1 : ((IntKind.u64.wrap ok).tmod 3 == 1) = false := by simp [hk1]
          have hop : rdOp ⟨ok, on, ob⟩ ys = (if on = 0 then .ok ys else .error on) := by unfold rdOp knd; rw [if_neg hk0, if_neg hk1]
          have HOP := Lib.hid hop
          clear hop
          go_wp2_with (first
              | ((with_reducible refine wl_store ?_ (fun K hK => ?_)); (rfl); ((refine owp_store rfl st ?_; apply Exists.intro; apply Exists.intro; refine ⟨?_, ?_, ?_⟩; (focus (go_simp; try rfl)); (focus (go_simp; try rfl)); (first | with_reducible refine ⟨0, _, _, _, _, get0, rfl, rfl, ?_, ?_, ?_, ?_⟩ | with_reducible refine ⟨1, _, _, _, _, get1, rfl, rfl, ?_, ?_, ?_, ?_⟩ | with_reducible refine ⟨2, _, _, _, _, get2, rfl, rfl, ?_, ?_, ?_, ?_⟩ | with_reducible refine ⟨3, _, _, _, _, get3, rfl, rfl, ?_, ?_, ?_, ?_⟩ | with_reducible refine ⟨4, _, _, _, _, get4, rfl, rfl, ?_, ?_, ?_, ?_⟩ | with_reducible refine ⟨5, _, _, _, _, get5, rfl, rfl, ?_, ?_, ?_, ?_⟩ | with_reducible refine ⟨6, _, _, _, _, get6, rfl, rfl, ?_, ?_, ?_, ?_⟩ | with_reducible refine ⟨7, _, _, _, _, get7, rfl, rfl, ?_, ?_, ?_, ?_⟩ | with_reducible refine ⟨8, _, _, _, _, get8, rfl, rfl, ?_, ?_, ?_, ?_⟩ | with_reducible refine ⟨9, _, _, _, _, get9, rfl, rfl, ?_, ?_, ?_, ?_⟩ | with_reducible refine ⟨10, _, _, _, _, get10, rfl, rfl, ?_, ?_, ?_, ?_⟩ | with_reducible refine ⟨11, _, _, _, _, get11, rfl, rfl, ?_, ?_, ?_, ?_⟩); (kernel_rfl); (simp [Value.cells]); (rfl); (clear st; intro w st)); (try simp only [Value.cells, List.cons_append, List.nil_append, List.set, spl, putIt, pick, List.map_cons, List.map_nil, List.getElem?_cons_zero, List.getElem?_cons_succ, Option.getD_some, List.drop_succ_cons, List.drop_zero, List.drop_nil, List.append_nil, unB] at st); (try clear hc); have hc := st.facts; (try simp only [factsOf, blkI, blkFacts, rowI, byI, datI, nullI, oldI, penI, rdI, rdAnyI, rdOverI, Nat.zero_add, Nat.reduceAdd, and_true, true_and, and_self] at hc)))
              | ((with_reducible refine wl_alloc ?_ (fun K hK => ?_)); (rfl); ((refine owp_alloc (o := ⟨some 9, _, _, _, _, _⟩) rfl st ?_; apply Exists.intro; apply Exists.intro; refine ⟨?_, ?_⟩; (focus (first | (go_simp; done) | (go_simp; rfl))); (clear st; intro b9 w hb st; clear hb)); (try simp only [Value.cells, List.cons_append, List.nil_append, List.set, spl, putIt, pick, List.map_cons, List.map_nil, List.getElem?_cons_zero, List.getElem?_cons_succ, Option.getD_some, List.drop_succ_cons, List.drop_zero, List.drop_nil, List.append_nil, unB] at st); (try clear hc); have hc := st.facts; (try simp only [factsOf, blkI, blkFacts, rowI, byI, datI, nullI, oldI, penI, rdI, rdAnyI, rdOverI, Nat.zero_add, Nat.reduceAdd, and_true, true_and, and_self] at hc)))
              | ((with_reducible refine wl_convert ?_ (fun K hK => ?_)); (rfl); ((first | refine owp_bs (o := ⟨some 78, _, _, _, _, _⟩) rfl st 0 get0 rfl Try.underlying22 Try.underlying5 Try.underlying9 ?_ | refine owp_bs (o := ⟨some 78, _, _, _, _, _⟩) rfl st 1 get1 rfl Try.underlying22 Try.underlying5 Try.underlying9 ?_ | refine owp_bs (o := ⟨some 78, _, _, _, _, _⟩) rfl st 2 get2 rfl Try.underlying22 Try.underlying5 Try.underlying9 ?_ | refine owp_bs (o := ⟨some 78, _, _, _, _, _⟩) rfl st 3 get3 rfl Try.underlying22 Try.underlying5 Try.underlying9 ?_ | refine owp_bs (o := ⟨some 78, _, _, _, _, _⟩) rfl st 4 get4 rfl Try.underlying22 Try.underlying5 Try.underlying9 ?_ | refine owp_bs (o := ⟨some 78, _, _, _, _, _⟩) rfl st 5 get5 rfl Try.underlying22 Try.underlying5 Try.underlying9 ?_ | refine owp_bs (o := ⟨some 78, _, _, _, _, _⟩) rfl st 6 get6 rfl Try.underlying22 Try.underlying5 Try.underlying9 ?_ | refine owp_bs (o := ⟨some 78, _, _, _, _, _⟩) rfl st 7 get7 rfl Try.underlying22 Try.underlying5 Try.underlying9 ?_ | refine owp_bs (o := ⟨some 78, _, _, _, _, _⟩) rfl st 8 get8 rfl Try.underlying22 Try.underlying5 Try.underlying9 ?_ | refine owp_bs (o := ⟨some 78, _, _, _, _, _⟩) rfl st 9 get9 rfl Try.underlying22 Try.underlying5 Try.underlying9 ?_ | refine owp_bs (o := ⟨some 78, _, _, _, _, _⟩) rfl st 10 get10 rfl Try.underlying22 Try.underlying5 Try.underlying9 ?_ | refine owp_bs (o := ⟨some 78, _, _, _, _, _⟩) rfl st 11 get11 rfl Try.underlying22 Try.underlying5 Try.underlying9 ?_); (try simp only [Value.cells, List.cons_append, List.nil_append, List.set, spl, putIt, pick, List.map_cons, List.map_nil, List.getElem?_cons_zero, List.getElem?_cons_succ, Option.getD_some, List.drop_succ_cons, List.drop_zero, List.drop_nil, List.append_nil, unB] at st); (try clear hc); have hc := st.facts; (try simp only [factsOf, blkI, blkFacts, rowI, byI, datI, nullI, oldI, penI, rdI, rdAnyI, rdOverI, Nat.zero_add, Nat.reduceAdd, and_true, true_and, and_self] at hc))))
          obtain ⟨_, sq, ⟨_, hrd⟩, _⟩ := st.get (i := 8) (I := rdI r ys) get8
          by_cases hn0 : on = 0
          · subst hn0
            have HE : rdOp ⟨ok, 0, ob⟩ ys = .ok ys := by rw [HOP.out]; simp
            have HE := Lib.hid HE
            refine (fail_off _ _ 0 (.inr (.inl rfl)) (fun ad had _ => by cases had; exact ⟨r, rfl, .inl hrd.any⟩)).mono ?_
            rintro en w' ⟨rfl, rfl⟩
            clear hrd
            have HZ := HR.out.2
            go_wp2_with (first
                | ((with_reducible refine wl_store ?_ (fun K hK => ?_)); (rfl); ((refine owp_store rfl st ?_; apply Exists.intro; apply Exists.intro; refine ⟨?_, ?_, ?_⟩; (focus (go_simp; try rfl)); (focus (go_simp; try rfl)); (first | with_reducible refine ⟨0, _, _, _, _, get0, rfl, rfl, ?_, ?_, ?_, ?_⟩ | with_reducible refine ⟨1, _, _, _, _, get1, rfl, rfl, ?_, ?_, ?_, ?_⟩ | with_reducible refine ⟨2, _, _, _, _, get2, rfl, rfl, ?_, ?_, ?_, ?_⟩ | with_reducible refine ⟨3, _, _, _, _, get3, rfl, rfl, ?_, ?_, ?_, ?_⟩ | with_reducible refine ⟨4, _, _, _, _, get4, rfl, rfl, ?_, ?_, ?_, ?_⟩ | with_reducible refine ⟨5, _, _, _, _, get5, rfl, rfl, ?_, ?_, ?_, ?_⟩ | with_reducible refine ⟨6, _, _, _, _, get6, rfl, rfl, ?_, ?_, ?_, ?_⟩ | with_reducible refine ⟨7, _, _, _, _, get7, rfl, rfl, ?_, ?_, ?_, ?_⟩ | with_reducible refine ⟨8, _, _, _, _, get8, rfl, rfl, ?_, ?_, ?_, ?_⟩ | with_reducible refine ⟨9, _, _, _, _, get9, rfl, rfl, ?_, ?_, ?_, ?_⟩ | with_reducible refine ⟨10, _, _, _, _, get10, rfl, rfl, ?_, ?_, ?_, ?_⟩ | with_reducible refine ⟨11, _, _, _, _, get11, rfl, rfl, ?_, ?_, ?_, ?_⟩); (kernel_rfl); (simp [Value.cells]); (rfl); (clear st; intro w st)); (try simp only [Value.cells, List.cons_append, List.nil_append, List.set, spl, putIt, pick, List.map_cons, List.map_nil, List.getElem?_cons_zero, List.getElem?_cons_succ, Option.getD_some, List.drop_succ_cons, List.drop_zero, List.drop_nil, List.append_nil, unB] at st); (try clear hc); have hc := st.facts; (try simp only [factsOf, blkI, blkFacts, rowI, byI, datI, nullI, oldI, penI, rdI, rdAnyI, rdOverI, Nat.zero_add, Nat.reduceAdd, and_true, true_and, and_self] at hc)))
                | ((with_reducible refine wl_alloc ?_ (fun K hK => ?_)); (rfl); ((refine owp_alloc (o := ⟨some 9, _, _, _, _, _⟩) rfl st ?_; apply Exists.intro; apply Exists.intro; refine ⟨?_, ?_⟩; (focus (first | (go_simp; done) | (go_simp; rfl))); (clear st; intro b9 w hb st; clear hb)); (try simp only [Value.cells, List.cons_append, List.nil_append, List.set, spl, putIt, pick, List.map_cons, List.map_nil, List.getElem?_cons_zero, List.getElem?_cons_succ, Option.getD_some, List.drop_succ_cons, List.drop_zero, List.drop_nil, List.append_nil, unB] at st); (try clear hc); have hc := st.facts; (try simp only [factsOf, blkI, blkFacts, rowI, byI, datI, nullI, oldI, penI, rdI, rdAnyI, rdOverI, Nat.zero_add, Nat.reduceAdd, and_true, true_and, and_self] at hc)))
                | ((with_reducible refine wl_convert ?_ (fun K hK => ?_)); (rfl); ((first | refine owp_bs (o := ⟨some 78, _, _, _, _, _⟩) rfl st 0 get0 rfl Try.underlying22 Try.underlying5 Try.underlying9 ?_ | refine owp_bs (o := ⟨some 78, _, _, _, _, _⟩) rfl st 1 get1 rfl Try.underlying22 Try.underlying5 Try.underlying9 ?_ | refine owp_bs (o := ⟨some 78, _, _, _, _, _⟩) rfl st 2 get2 rfl Try.underlying22 Try.underlying5 Try.underlying9 ?_ | refine owp_bs (o := ⟨some 78, _, _, _, _, _⟩) rfl st 3 get3 rfl Try.underlying22 Try.underlying5 Try.underlying9 ?_ | refine owp_bs (o := ⟨some 78, _, _, _, _, _⟩) rfl st 4 get4 rfl Try.underlying22 Try.underlying5 Try.underlying9 ?_ | refine owp_bs (o := ⟨some 78, _, _, _, _, _⟩) rfl st 5 get5 rfl Try.underlying22 Try.underlying5 Try.underlying9 ?_ | refine owp_bs (o := ⟨some 78, _, _, _, _, _⟩) rfl st 6 get6 rfl Try.underlying22 Try.underlying5 Try.underlying9 ?_ | refine owp_bs (o := ⟨some 78, _, _, _, _, _⟩) rfl st 7 get7 rfl Try.underlying22 Try.underlying5 Try.underlying9 ?_ | refine owp_bs (o := ⟨some 78, _, _, _, _, _⟩) rfl st 8 get8 rfl Try.underlying22 Try.underlying5 Try.underlying9 ?_ | refine owp_bs (o := ⟨some 78, _, _, _, _, _⟩) rfl st 9 get9 rfl Try.underlying22 Try.underlying5 Try.underlying9 ?_ | refine owp_bs (o := ⟨some 78, _, _, _, _, _⟩) rfl st 10 get10 rfl Try.underlying22 Try.underlying5 Try.underlying9 ?_ | refine owp_bs (o := ⟨some 78, _, _, _, _, _⟩) rfl st 11 get11 rfl Try.underlying22 Try.underlying5 Try.underlying9 ?_); (try simp only [Value.cells, List.cons_append, List.nil_append, List.set, spl, putIt, pick, List.map_cons, List.map_nil, List.getElem?_cons_zero, List.getElem?_cons_succ, Option.getD_some, List.drop_succ_cons, List.drop_zero, List.drop_nil, List.append_nil, unB] at st); (try clear hc); have hc := st.facts; (try simp only [factsOf, blkI, blkFacts, rowI, byI, datI, nullI, oldI, penI, rdI, rdAnyI, rdOverI, Nat.zero_add, Nat.reduceAdd, and_true, true_and, and_self] at hc))))
            refine Rg4.wp_region4 (Rel := Ext) #[0, 1, 3, 7, 3, 19, 51, 115, 243, 511, 1023, 2047]
              [(3, .val (.int .i64 (ys.length : Int)))] [11] [0, 4, 7] (fun _ => True) [0, 1, 2, 3, 4, 5, 6, 7, 8, 9, 10, 11] (by kernel_rfl) (by kernel_rfl) (by kernel_rfl) (by kernel_rfl) Ext.refl (fun _ _ _ => Ext.trans) (show Rg4.PB _ by repeat (first | with_reducible exact Rg4.pb_body | with_reducible exact Rg4.pb_bodyD rfl | with_reducible refine Rg4.pb_then ?_ | with_reducible refine Rg4.pb_inBlock ?_ | with_reducible refine Rg4.pb_noGoto ?_)) (trivial) ?_
            replace st := st.drew
            change Rg4.wp4 _ _ _ _ _ _ _ _ _ (World.drew _) _ _
            generalize World.drew _ = w at st ⊢
            (try clear hc); have hc := st.facts; (try simp only [factsOf, blkI, blkFacts, rowI, byI, datI, nullI, oldI, penI, rdI, rdAnyI, rdOverI, Nat.zero_add, Nat.reduceAdd, and_true, true_and, and_self] at hc)
            (refine Rg4.w4_read (Rg4.want_none rfl) rfl rfl ?_; apply Exists.intro; refine ⟨fun w' hw' hcl' => ?_, ?_⟩; focus (have st' := st.ext hw'; have hc' := st'.facts; (try simp only [factsOf, blkI, blkFacts, rowI, byI, datI, nullI, oldI, penI, rdI, rdAnyI, rdOverI, Nat.zero_add, Nat.reduceAdd, and_true, true_and, and_self] at hc'); (focus (first | (go_simp; done) | (go_simp; first | rfl | (rw [if_neg] <;> first | rfl | omega))))); (try simp only [Act.put, List.setIfInBounds_toArray, List.set]))
            (refine Rg4.w4_any (Rg4.want_none rfl) rfl ?_; apply Exists.intro; refine ⟨fun w' => ?_, ?_⟩; (focus (first | (go_simp; done) | (go_simp; first | rfl | (rw [if_neg] <;> first | rfl | omega)))); (try simp only [Act.put, List.setIfInBounds_toArray, List.set]))
            (first | (refine Rg4.w4_any (Rg4.want_of 1 93 true rfl rfl rfl) rfl ?_; apply Exists.intro; refine ⟨fun w' => ?_, ?_⟩; (focus (first | (go_simp; done) | (go_simp; first | rfl | (rw [if_neg] <;> first | rfl | omega)))); (try simp only [Act.put, List.setIfInBounds_toArray, List.set])) | (refine Rg4.w4_skip (Rg4.unwant_of 1 93 true rfl rfl rfl) ?_; (try simp only [Act.put, List.setIfInBounds_toArray, List.set])))
            refine Rg4.w4_some (Rg4.want_of 1 93 true rfl rfl rfl) rfl (fun w' hw' hcl' _ => ?_) ?_
            · have st' := (st.ext hw').keep [8] (by decide) (by simp)
              refine Rg.relAt_call (by go_simp; exact ⟨rfl, rfl⟩) ?_
              refine (left_c (L := []) st').mono ?_
              rintro en w'' ⟨rfl, rfl⟩
              exact ⟨_, rfl, Ext.refl _, trivial, rfl⟩
            rintro v ⟨_, _, _, rfl⟩
            (try simp only [Act.put, List.setIfInBounds_toArray, List.set])
            (first | (refine Rg4.w4_read (Rg4.want_of 1 93 true rfl rfl rfl) rfl rfl ?_; apply Exists.intro; refine ⟨fun w' hw' hcl' => ?_, ?_⟩; focus (have st' := st.ext hw'; have hc' := st'.facts; (try simp only [factsOf, blkI, blkFacts, rowI, byI, datI, nullI, oldI, penI, rdI, rdAnyI, rdOverI, Nat.zero_add, Nat.reduceAdd, and_true, true_and, and_self] at hc'); (focus (first | (go_simp; done) | (go_simp; first | rfl | (rw [if_neg] <;> first | rfl | omega))))); (try simp only [Act.put, List.setIfInBounds_toArray, List.set])) | (refine Rg4.w4_skip (Rg4.unwant_of 1 93 true rfl rfl rfl) ?_; (try simp only [Act.put, List.setIfInBounds_toArray, List.set])))
            (first | (refine Rg4.w4_any (Rg4.want_of 1 93 true rfl rfl rfl) rfl ?_; apply Exists.intro; refine ⟨fun w' => ?_, ?_⟩; (focus (first | (go_simp; done) | (go_simp; first | rfl | (rw [if_neg] <;> first | rfl | omega)))); (try simp only [Act.put, List.setIfInBounds_toArray, List.set])) | (refine Rg4.w4_skip (Rg4.unwant_of 1 93 true rfl rfl rfl) ?_; (try simp only [Act.put, List.setIfInBounds_toArray, List.set])))
            (first | (refine Rg4.w4_any (Rg4.want_of 1 93 true rfl rfl rfl) rfl ?_; apply Exists.intro; refine ⟨fun w' => ?_, ?_⟩; (focus (first | (go_simp; done) | (go_simp; first | rfl | (rw [if_neg] <;> first | rfl | omega)))); (try simp only [Act.put, List.setIfInBounds_toArray, List.set])) | (refine Rg4.w4_skip (Rg4.unwant_of 1 93 true rfl rfl rfl) ?_; (try simp only [Act.put, List.setIfInBounds_toArray, List.set])))
            (first | (refine Rg4.w4_read (Rg4.want_of 1 93 true rfl rfl rfl) rfl rfl ?_; apply Exists.intro; refine ⟨fun w' hw' hcl' => ?_, ?_⟩; focus (have st' := st.ext hw'; have hc' := st'.facts; (try simp only [factsOf, blkI, blkFacts, rowI, byI, datI, nullI, oldI, penI, rdI, rdAnyI, rdOverI, Nat.zero_add, Nat.reduceAdd, and_true, true_and, and_self] at hc'); (focus (first | (go_simp; done) | (go_simp; first | rfl | (rw [if_neg] <;> first | rfl | omega))))); (try simp only [Act.put, List.setIfInBounds_toArray, List.set])) | (refine Rg4.w4_skip (Rg4.unwant_of 1 93 true rfl rfl rfl) ?_; (try simp only [Act.put, List.setIfInBounds_toArray, List.set])))
            (first | (refine Rg4.w4_any (Rg4.want_of 1 93 true rfl rfl rfl) rfl ?_; apply Exists.intro; refine ⟨fun w' => ?_, ?_⟩; (focus (first | (go_simp; done) | (go_simp; first | rfl | (rw [if_neg] <;> first | rfl | omega)))); (try simp only [Act.put, List.setIfInBounds_toArray, List.set])) | (refine Rg4.w4_skip (Rg4.unwant_of 1 93 true rfl rfl rfl) ?_; (try simp only [Act.put, List.setIfInBounds_toArray, List.set])))
            (first | (refine Rg4.w4_any (Rg4.want_of 1 93 true rfl rfl rfl) rfl ?_; apply Exists.intro; refine ⟨fun w' => ?_, ?_⟩; (focus (first | (go_simp; done) | (go_simp; first | rfl | (rw [if_neg] <;> first | rfl | omega)))); (try simp only [Act.put, List.setIfInBounds_toArray, List.set])) | (refine Rg4.w4_skip (Rg4.unwant_of 1 93 true rfl rfl rfl) ?_; (try simp only [Act.put, List.setIfInBounds_toArray, List.set])))
            (refine Rg4.w4_any (Rg4.want_none rfl) rfl ?_; apply Exists.intro; refine ⟨fun w' => ?_, ?_⟩; (focus (first | (go_simp; done) | (go_simp; first | rfl | (rw [if_neg] <;> first | rfl | omega)))); (try simp only [Act.put, List.setIfInBounds_toArray, List.set]))
            (refine Rg4.w4_bar (Rg4.want_none rfl) rfl (fun w' hw' hcl' _ K hK => ?_); replace st := st.ext hw'; ((refine owp_store rfl st ?_; apply Exists.intro; apply Exists.intro; refine ⟨?_, ?_, ?_⟩; (focus (go_simp; try rfl)); (focus (go_simp; try rfl)); (first | with_reducible refine ⟨0, _, _, _, _, get0, rfl, rfl, ?_, ?_, ?_, ?_⟩ | with_reducible refine ⟨1, _, _, _, _, get1, rfl, rfl, ?_, ?_, ?_, ?_⟩ | with_reducible refine ⟨2, _, _, _, _, get2, rfl, rfl, ?_, ?_, ?_, ?_⟩ | with_reducible refine ⟨3, _, _, _, _, get3, rfl, rfl, ?_, ?_, ?_, ?_⟩ | with_reducible refine ⟨4, _, _, _, _, get4, rfl, rfl, ?_, ?_, ?_, ?_⟩ | with_reducible refine ⟨5, _, _, _, _, get5, rfl, rfl, ?_, ?_, ?_, ?_⟩ | with_reducible refine ⟨6, _, _, _, _, get6, rfl, rfl, ?_, ?_, ?_, ?_⟩ | with_reducible refine ⟨7, _, _, _, _, get7, rfl, rfl, ?_, ?_, ?_, ?_⟩ | with_reducible refine ⟨8, _, _, _, _, get8, rfl, rfl, ?_, ?_, ?_, ?_⟩ | with_reducible refine ⟨9, _, _, _, _, get9, rfl, rfl, ?_, ?_, ?_, ?_⟩ | with_reducible refine ⟨10, _, _, _, _, get10, rfl, rfl, ?_, ?_, ?_, ?_⟩ | with_reducible refine ⟨11, _, _, _, _, get11, rfl, rfl, ?_, ?_, ?_, ?_⟩); (kernel_rfl); (simp [Value.cells]); (rfl); (clear st; intro w st)); (try simp only [Value.cells, List.cons_append, List.nil_append, List.set, spl, putIt, pick, List.map_cons, List.map_nil, List.getElem?_cons_zero, List.getElem?_cons_succ, Option.getD_some, List.drop_succ_cons, List.drop_zero, List.drop_nil, List.append_nil, unB] at st); (try clear hc); have hc := st.facts; (try simp only [factsOf, blkI, blkFacts, rowI, byI, datI, nullI, oldI, penI, rdI, rdAnyI, rdOverI, Nat.zero_add, Nat.reduceAdd, and_true, true_and, and_self] at hc)); refine hK _ _ ⟨trivial, ?_⟩; (try simp only [Act.put, List.setIfInBounds_toArray, List.set]))
            refine Rg4.w4_nil (fun w' hw' hcl' _ => ?_); replace st := st.ext hw'; clear hw' hcl'; (try clear hc); have hc := st.facts; (try simp only [factsOf, blkI, blkFacts, rowI, byI, datI, nullI, oldI, penI, rdI, rdAnyI, rdOverI, Nat.zero_add, Nat.reduceAdd, and_true, true_and, and_self] at hc)
            go_wp2_with fail
            have st' := st.keep [0, 1, 2, 3, 4, 5, 6, 7, 8] (by decide) (by simp)
            refine ⟨⟨j + 1, ys, by omega, by go_num, Lib.hid ⟨?_, HZ⟩, by simpa [pick] using st'⟩, by simp [intOf]; omega⟩
            rw [HR.out.1, HS.out, HE.out]
            simp only [Nat.add_assoc, Nat.add_comm 1]
          · have HE : rdOp ⟨ok, on, ob⟩ ys = .error on := by rw [HOP.out, if_neg hn0]
            have HE := Lib.hid HE
            refine (fail_any _ r on hrd.any hn0).mono ?_
            rintro en w' ⟨rfl, rfl⟩
            clear hrd
            go_wp2_with fail
            refine leaves_cons (by simp) (inv44 _ _) ?_
            refine (def_c st 2 get2 _).mono ?_
            rintro en u w ⟨rfl, rfl, st⟩
            have st' := st.keep [0, 1, 2, 3, 4, 5, 6, 7, 8] (by decide) (by simp)
            replace st' := st'.conv (i := 8) (I := rdI r ys) (I' := rdAnyI r) rfl (fun e s h h3 => ⟨e, s, ⟨h.1, h.2.any⟩, fun _ q => q, fun _ q => .inr q, h3⟩)
            have e1 : rdOps l xs = (j + 1, .error on) := by rw [HR.out.1, HS.out, HE.out]
            simp only [settle, Leaves]
            show RdsPost _ _ _ _ _ _ _ _ _ _ _ _ _ _ _ _ _ _
            rw [e1]
            exact ⟨rfl, _, by simpa [pick] using st'⟩
    · obtain rfl : j = n := by omega
      go_wp2_with fail
      refine leaves_cons (by simp) (inv44 _ _) ?_
      refine (def_c st 2 get2 _).mono ?_
      rintro en u w ⟨rfl, rfl, st⟩
      have e1 : rdOps l xs = (j, .ok ys) := by rw [HR.out.1, List.drop_of_length_le (by have := HNL.out; omega)]; simp [rdOps]
      simp only [settle, Leaves]
      refine ⟨_, results_none rfl _ _ _, ?_⟩
      show RdsPost _ _ _ _ _ _ _ _ _ _ _ _ _ _ _ _ _ _
      rw [e1]
      exact ⟨rfl, by simpa using st⟩
end Go.Proofs.Ytabadgpebhiigaa
