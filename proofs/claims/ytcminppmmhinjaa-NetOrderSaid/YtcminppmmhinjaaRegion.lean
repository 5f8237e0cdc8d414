/- A REGION THAT DRAWS ITS ORDER AND WHOSE OPERATIONS MAY MAKE MEMORY OR CALL: one walk in the order of the text serves every order. Each operation either yields one value without touching the world, or bears a specification of its own (a property of its value and of memory that later steps keep). -/
import Derived.Orders
import Derived.Still
import Derived.KernelRfl
import Derived.Tactics
namespace Go.Proofs.Ytcminppmmhinjaa.Rg
set_option linter.unusedSimpArgs false
set_option linter.unusedVariables false
open Go

def relUpon (P : Program) (R : Value → World → Prop) : Result Next → Prop
  | .ok (.value u) w' => R u w'
  | .ok .skip w' => R undef w'
  | .ok (.enter f args) w' => Calls P f args w' (fun e w'' => ∃ v, e = .returned v ∧ R v w'')
  | _ => False

/-- Operation 'o', carried out in 'w', leaves a value and a world that meet 'R'. -/
def relAt (P : Program) (o : Oper) (a : Act) (w : World) (R : Value → World → Prop) : Prop := relUpon P R ((execOp a.eval o).run P w)

section
variable {P : Program} {R : Value → World → Prop} {w : World}
@[go_sem] theorem relUpon_value (u : Value) : relUpon P R (.ok (.value u) w) = R u w := rfl
@[go_sem] theorem relUpon_skip : relUpon P R (.ok .skip w) = R undef w := rfl
@[go_sem] theorem relUpon_enter (f : FuncId) (args : Array Value) : relUpon P R (.ok (.enter f args) w) = Calls P f args w (fun e w'' => ∃ v, e = .returned v ∧ R v w'') := rfl
end
/-- Operation 'o' yields 'c' and leaves the world. -/
def stillAt (P : Program) (o : Oper) (a : Act) (w : World) (c : Value) : Prop := (execOp a.eval o).run P w = .ok (.value c) w

abbrev Facts := Nat → World → Prop
def upd (F : Facts) (k : Nat) (S : World → Prop) : Facts := fun i w => F i w ∧ (i = k → S w)
def none : Facts := fun _ _ => True
def bef (ops : Array Oper) (T : Array Nat) (k m : Nat) : Bool := decide (k < ops.size) && decide (m < ops.size) && (T.getD k 0).testBit m
def Pre (ops : Array Oper) (T : Array Nat) (F : Facts) (k : Nat) (w : World) : Prop := ∀ i, bef ops T k i = true → F i w
def All (F : Facts) (w : World) : Prop := ∀ i, F i w

section
variable (P : Program) (ops : Array Oper) (T : Array Nat) (Rel : World → World → Prop) (w0 : World) (sp : Nat → Option (Value → World → Prop)) (Q : Act → World → Prop)

def Inh (F : Facts) : Prop := ∃ w, Rel w0 w ∧ All F w

def opT (k : Nat) (K : Facts → Act → Prop) (F : Facts) (a : Act) : Prop :=
  match ops[k]? with
  | .none => K F a
  | .some o =>
    if Region.wanted o (yielded ops a.tmps) = true then
      match sp k with
      | .none => ∃ c, (∀ w, Rel w0 w → Pre ops T F k w → stillAt P o a w c) ∧ K F (a.put o.dst c)
      | .some S => (∀ w, Rel w0 w → Pre ops T F k w → relAt P o a w (fun v w' => Rel w w' ∧ S v w')) ∧ ∀ v, K (upd F k (S v)) (a.put o.dst v)
    else K F (a.put o.dst undef)

def wpAnyT : Nat → Array Bool → Facts → Act → Prop
  | 0, listed, F, a => Inh Rel w0 F → Region.ready .any ops listed = [] ∧ ∀ w, Rel w0 w → All F w → Q a w
  | f + 1, listed, F, a => Inh Rel w0 F → (Region.ready .any ops listed = [] → ∀ w, Rel w0 w → All F w → Q a w) ∧
      ∀ i ∈ Region.ready .any ops listed, opT P ops T Rel w0 sp i (wpAnyT f (listed.setIfInBounds i true)) F a

/-- THE WALK IN THE ORDER OF THE TEXT. -/
def wpT : List Oper → Nat → Facts → Act → Prop
  | [], _, F, a => ∀ w, Rel w0 w → All F w → Q a w
  | o :: rest, k, F, a =>
    if Region.wanted o (yielded ops a.tmps) = true then
      match sp k with
      | .none => ∃ c, (∀ w, Rel w0 w → Pre ops T F k w → stillAt P o a w c) ∧ wpT rest (k + 1) F (a.put o.dst c)
      | .some S => (∀ w, Rel w0 w → Pre ops T F k w → relAt P o a w (fun v w' => Rel w w' ∧ S v w')) ∧
          ∀ v, (∃ w, Rel w0 w ∧ S v w) → wpT rest (k + 1) (upd F k (S v)) (a.put o.dst v)
    else wpT rest (k + 1) F (a.put o.dst undef)
end

def befOk (ops : Array Oper) (T : Array Nat) : Bool :=
  (List.range ops.size).all fun k => (List.range ops.size).all fun m => !(T.getD k 0).testBit m ||
    match ops[k]? with
    | .some o => o.after.any (fun e => Region.binds .any e && (e.on == m || (decide (e.on < ops.size) && (T.getD e.on 0).testBit m)))
    | .none => false

def Closed (ops : Array Oper) (T : Array Nat) (listed : Array Bool) : Prop := ∀ k m, listed.getD k false = true → bef ops T k m = true → listed.getD m false = true
def StableF (Rel : World → World → Prop) (F : Facts) : Prop := ∀ i w w', Rel w w' → F i w → F i w'

section
variable {P : Program} {ops : Array Oper} {T : Array Nat} {Rel : World → World → Prop} {w0 : World} {sp : Nat → Option (Value → World → Prop)} {Q : Act → World → Prop}

theorem bef_spec (hB : befOk ops T = true) {k m : Nat} {o : Oper} (hk : ops[k]? = .some o) (h : bef ops T k m = true) :
    ∃ e ∈ o.after, Region.binds .any e = true ∧ (e.on = m ∨ bef ops T e.on m = true) := by
  unfold bef at h
  simp only [Bool.and_eq_true, decide_eq_true_eq] at h
  obtain ⟨⟨h1, h2⟩, h3⟩ := h
  unfold befOk at hB
  rw [List.all_eq_true] at hB
  have h4 := hB k (List.mem_range.2 h1)
  rw [List.all_eq_true] at h4
  have h5 := h4 m (List.mem_range.2 h2)
  simp only [h3, Bool.not_true, Bool.false_or, hk] at h5
  obtain ⟨e, he, hb⟩ := Array.any_eq_true'.1 h5
  simp only [Bool.and_eq_true, Bool.or_eq_true, beq_iff_eq, decide_eq_true_eq] at hb
  refine ⟨e, he, hb.1, hb.2.imp id fun h => ?_⟩
  unfold bef
  rw [h.2, decide_eq_true h.1, decide_eq_true h2]; rfl

theorem bef_listed (hB : befOk ops T = true) {listed : Array Bool} (hc : Closed ops T listed) {k m : Nat} (hk : k ∈ Region.ready .any ops listed) (h : bef ops T k m = true) :
    listed.getD m false = true := by
  obtain ⟨_, o, ho, hall⟩ := mem_ready.1 hk
  obtain ⟨e, he, hb, h2⟩ := bef_spec hB ho h
  rcases h2 with rfl | h2
  · exact hall e he hb
  · exact hc _ _ (hall e he hb) h2

theorem not_bef (hB : befOk ops T = true) {listed : Array Bool} (hc : Closed ops T listed) {k m : Nat} (hk : k ∈ Region.ready .any ops listed) (hm : m ∈ Region.ready .any ops listed) :
    ¬ bef ops T k m = true := fun h => by
  have h1 := bef_listed hB hc hk h
  have h0 := (mem_ready.1 hm).1
  rcases Nat.lt_or_ge m listed.size with h' | h'
  · simp [h'] at h0 h1; rw [h0] at h1; cases h1
  · simp [Array.getElem?_eq_none h'] at h1

theorem closed_set (hB : befOk ops T = true) {listed : Array Bool} (hc : Closed ops T listed) {k : Nat} (hk : k ∈ Region.ready .any ops listed) :
    Closed ops T (listed.setIfInBounds k true) := fun i m hi hb => by
  by_cases hik : i = k
  · subst hik; exact getD_set_true (bef_listed hB hc hk hb)
  · rw [getD_set_ne false (Ne.symm hik)] at hi
    exact getD_set_true (hc i m hi hb)

theorem pre_upd {F : Facts} {k m : Nat} {S : World → Prop} {w : World} (h : ¬ bef ops T m k = true) : Pre ops T (upd F k S) m w ↔ Pre ops T F m w :=
  ⟨fun hp i hi => (hp i hi).1, fun hp i hi => ⟨hp i hi, fun e => absurd (e ▸ hi) h⟩⟩
theorem upd_comm (F : Facts) (i j : Nat) (S S' : World → Prop) : upd (upd F i S) j S' = upd (upd F j S') i S := by
  funext k w
  unfold upd
  exact propext ⟨fun ⟨⟨a, b⟩, c⟩ => ⟨⟨a, c⟩, b⟩, fun ⟨⟨a, b⟩, c⟩ => ⟨⟨a, c⟩, b⟩⟩
theorem inh_upd {F : Facts} {k : Nat} {S : World → Prop} (h : Inh Rel w0 (upd F k S)) : Inh Rel w0 F := let ⟨w, h1, h2⟩ := h; ⟨w, h1, fun i => (h2 i).1⟩
theorem inh_upd_mono {F : Facts} {j k : Nat} {S S' : World → Prop} (h : Inh Rel w0 (upd (upd F j S') k S)) : Inh Rel w0 (upd F k S) :=
  let ⟨w, h1, h2⟩ := h; ⟨w, h1, fun i => ⟨(h2 i).1.1, (h2 i).2⟩⟩
theorem wpAnyT_of_inh {f : Nat} {listed : Array Bool} {F : Facts} {a : Act} (h : Inh Rel w0 F → wpAnyT P ops T Rel w0 sp Q f listed F a) : wpAnyT P ops T Rel w0 sp Q f listed F a := by
  cases f with
  | zero => intro hi; exact h hi hi
  | succ f => intro hi; exact h hi hi
theorem stable_upd {F : Facts} {k : Nat} {S : World → Prop} (hF : StableF Rel F) (hS : ∀ w w', Rel w w' → S w → S w') : StableF Rel (upd F k S) :=
  fun i w w' hr ⟨h1, h2⟩ => ⟨hF i w w' hr h1, fun e => hS w w' hr (h2 e)⟩
theorem relUpon_mono {R R' : Value → World → Prop} (h : ∀ v w, R v w → R' v w) {r : Result Next} (hr : relUpon P R r) : relUpon P R' r := by
  cases r with
  | halt x w => exact hr
  | ok n w =>
    cases n with
    | value u => exact h _ _ hr
    | skip => exact h _ _ hr
    | enter f args => exact hr.mono fun e w' ⟨v, he, hv⟩ => ⟨v, he, h _ _ hv⟩
    | _ => exact hr
theorem relUpon_exists {R : Value → World → Prop} {r : Result Next} (hr : relUpon P R r) : ∃ v w, R v w := by
  cases r with
  | halt x w => exact hr.elim
  | ok n w =>
    cases n with
    | value u => exact ⟨_, _, hr⟩
    | skip => exact ⟨_, _, hr⟩
    | enter f args => obtain ⟨e, w', fr, ⟨v, _, hv⟩, _⟩ := hr []; exact ⟨_, _, hv⟩
    | _ => exact hr.elim
theorem wp_of_rel {o : Oper} {a : Act} {w : World} {R : Value → World → Prop} {K : Act → World → Prop} {Q' : Exit → Act → World → Prop} (hr : relAt P o a w R) (h : ∀ v w', R v w' → K (a.put o.dst v) w') :
    o.wp P a w K Q' := by
  unfold relAt at hr
  unfold Oper.wp
  generalize (execOp a.eval o).run P w = r at *
  cases r with
  | halt x w => exact hr.elim
  | ok n w =>
    cases n with
    | value u => exact h _ _ hr
    | skip => exact h _ _ hr
    | enter f args =>
      simp only [Oper.upon]
      exact hr.mono fun e w' ⟨v, he, hv⟩ => by subst he; exact h _ _ hv
    | _ => exact hr.elim

/-- The walk over any order is one. -/
theorem wpAny_of_T {Q' : Exit → Act → World → Prop} (htr : ∀ a b c, Rel a b → Rel b c → Rel a c) (hsp : ∀ k S, sp k = .some S → ∀ v w w', Rel w w' → S v w → S v w')
    (hQ : ∀ a w, Q a w → Q' .normal a w) : ∀ (f : Nat) (listed : Array Bool) (F : Facts) (a : Act) (w : World), StableF Rel F → Rel w0 w → All F w →
    wpAnyT P ops T Rel w0 sp Q f listed F a → wpAny P .any ops Q' f listed a w
  | 0, _, _, _, w, _, hw, hF, h => let h' := h ⟨w, hw, hF⟩; ⟨h'.1, hQ _ _ (h'.2 w hw hF)⟩
  | f + 1, listed, F, a, w, hst, hw, hF, h => by
    have h' := h ⟨w, hw, hF⟩
    refine ⟨fun h0 => hQ _ _ (h'.1 h0 w hw hF), fun i hi => ?_⟩
    have h1 := h'.2 i hi
    unfold opT at h1
    unfold wpOp
    cases ho : ops[i]? with
    | none => simp only [ho] at h1; exact wpAny_of_T htr hsp hQ f _ F a w hst hw hF h1
    | some o =>
      simp only [ho] at h1
      by_cases hwant : Region.wanted o (yielded ops a.tmps) = true
      · simp only [hwant, if_true] at h1 ⊢
        left
        cases hs : sp i with
        | none =>
          simp only [hs] at h1
          obtain ⟨c, h2, h3⟩ := h1
          have h4 := h2 w hw (fun i _ => hF i)
          unfold Oper.wp
          rw [show (execOp a.eval o).run P w = .ok (.value c) w from h4]
          exact wpAny_of_T htr hsp hQ f _ F _ w hst hw hF h3
        | some S =>
          simp only [hs] at h1
          obtain ⟨h2, h3⟩ := h1
          refine wp_of_rel (h2 w hw (fun i _ => hF i)) fun v w' ⟨hr, hS⟩ => ?_
          exact wpAny_of_T htr hsp hQ f _ _ _ w' (stable_upd hst (hsp i S hs v)) (htr _ _ _ hw hr) (fun k => ⟨hst k w w' hr (hF k), fun _ => hS⟩) (h3 v)
      · simp only [hwant] at h1 ⊢
        exact wpAny_of_T htr hsp hQ f _ F _ w hst hw hF h1

/-- **An operation that may come up now may be taken first.** -/
theorem wpAnyT_first (htr : ∀ a b c, Rel a b → Rel b c → Rel a c) (hsp : ∀ k S, sp k = .some S → ∀ v w w', Rel w w' → S v w → S v w') (hB : befOk ops T = true)
    {i : Nat} {oi : Oper} (hi : ops[i]? = .some oi) (hsel : ∀ (j : Nat) (o : Oper) cs b, ops[j]? = .some o → o.op ≠ .select cs b) :
    ∀ (f : Nat) (listed : Array Bool) (F : Facts) (a : Act), StableF Rel F → Closed ops T listed →
      (∀ j oj, ops[j]? = .some oj → j ≠ i → listed.getD j true = false → (∀ e ∈ oj.after, Region.binds .any e = true → e.on ≠ i) → oi.apart ops oj = true) →
      i ∈ Region.ready .any ops listed → opT P ops T Rel w0 sp i (wpAnyT P ops T Rel w0 sp Q f (listed.setIfInBounds i true)) F a →
      wpAnyT P ops T Rel w0 sp Q (f + 1) listed F a := by
  intro f
  induction f with
  | zero =>
    intro listed F a hst hc _ hr H hinh
    refine ⟨fun h => (by rw [h] at hr; cases hr), fun j hj => ?_⟩
    by_cases hji : j = i
    · subst hji; exact H
    · exfalso
      have hrj := ready_mono hj hji
      obtain ⟨w, hw, hF⟩ := hinh
      unfold opT at H
      simp only [hi] at H
      by_cases hwant : Region.wanted oi (yielded ops a.tmps) = true
      · simp only [hwant, if_true] at H
        cases hs : sp i with
        | none =>
          simp only [hs] at H
          obtain ⟨c, h2, h3⟩ := H
          have := (h3 ⟨w, hw, hF⟩).1
          rw [this] at hrj; cases hrj
        | some S =>
          simp only [hs] at H
          obtain ⟨h2, h3⟩ := H
          obtain ⟨v, w', hr', hS⟩ := relUpon_exists (h2 w hw (fun i _ => hF i))
          have := (h3 v ⟨w', htr _ _ _ hw hr', fun k => ⟨hst k w w' hr' (hF k), fun _ => hS⟩⟩).1
          rw [this] at hrj; cases hrj
      · simp only [hwant] at H
        have := (H ⟨w, hw, hF⟩).1
        rw [this] at hrj; cases hrj
  | succ f ih =>
    intro listed F a hst hc hfree hr H hinh
    refine ⟨fun h => (by rw [h] at hr; cases hr), fun j hj => ?_⟩
    by_cases hji : j = i
    · subst hji; exact H
    obtain ⟨hjun, oj, hoj, hall⟩ := mem_ready.1 hj
    have hnot : ∀ e ∈ oj.after, Region.binds .any e = true → e.on ≠ i := fun e he hb heq => by
      have h1 := hall e he hb
      have h0 := (mem_ready.1 hr).1
      rw [heq] at h1
      rcases Nat.lt_or_ge i listed.size with h' | h'
      · simp [h'] at h0 h1; rw [h0] at h1; cases h1
      · simp [Array.getElem?_eq_none h'] at h1
    have hap := hfree j oj hoj hji hjun hnot
    obtain ⟨a1, a2, a3⟩ := Oper.apart_spec hap
    have hseli := fun cs b => hsel i oi cs b hi
    have hselj := fun cs b => hsel j oj cs b hoj
    have hfree' : ∀ k ok, ops[k]? = .some ok → k ≠ i → (listed.setIfInBounds j true).getD k true = false →
        (∀ e ∈ ok.after, Region.binds .any e = true → e.on ≠ i) → oi.apart ops ok = true := fun k ok hk hki hun hno => by
      refine hfree k ok hk hki ?_ hno
      by_cases hjk : j = k
      · subst hjk; exact hjun
      · rw [getD_set_ne true hjk] at hun; exact hun
    have nij : ¬ bef ops T i j = true := not_bef hB hc hr hj
    have nji : ¬ bef ops T j i = true := not_bef hB hc hj hr
    have hc' := closed_set hB hc hj
    have hr' := ready_mono hr (Ne.symm hji)
    have hjr := ready_mono hj hji
    -- what the i-step gives at any instance of it
    have exi : ∀ u, execOp (a.put oj.dst u).eval oi = execOp a.eval oi := fun u => execOp_put oi hseli a oj.dst u a3
    have wai : ∀ u, Region.wanted oi (yielded ops (a.put oj.dst u).tmps) = Region.wanted oi (yielded ops a.tmps) := fun u => wanted_put oi a oj.dst u a3
    have exj : ∀ v, execOp (a.put oi.dst v).eval oj = execOp a.eval oj := fun v => execOp_put oj hselj a oi.dst v a1
    have waj : ∀ v, Region.wanted oj (yielded ops (a.put oi.dst v).tmps) = Region.wanted oj (yielded ops a.tmps) := fun v => wanted_put oj a oi.dst v a1
    -- the instances
    obtain ⟨Inst, hex, hinst, hback⟩ : ∃ Inst : Value → (Facts → Facts) → Prop,
        (∃ v U, Inst v U ∧ Inh Rel w0 (U F)) ∧
        (∀ v U, Inst v U → (∀ w, Pre ops T (U F) j w ↔ Pre ops T F j w) ∧ (∀ G S, U (upd G j S) = upd (U G) j S) ∧ (∀ G S, Inh Rel w0 (U (upd G j S)) → Inh Rel w0 (U G)) ∧ wpAnyT P ops T Rel w0 sp Q (f + 1) (listed.setIfInBounds i true) (U F) (a.put oi.dst v)) ∧
        (∀ (G : Facts) (u : Value) (K : Facts → Act → Prop), (∀ w, Pre ops T G i w → Pre ops T F i w) → (∀ v U, Inst v U → K (U G) ((a.put oj.dst u).put oi.dst v)) →
          opT P ops T Rel w0 sp i K G (a.put oj.dst u)) := by
      obtain ⟨w, hw, hF⟩ := hinh
      unfold opT at H
      simp only [hi] at H
      by_cases hwant : Region.wanted oi (yielded ops a.tmps) = true
      · simp only [hwant, if_true] at H
        cases hs : sp i with
        | none =>
          simp only [hs] at H
          obtain ⟨c, h2, h3⟩ := H
          refine ⟨fun v U => v = c ∧ U = id, ⟨c, id, ⟨rfl, rfl⟩, w, hw, hF⟩, ?_, ?_⟩
          · rintro v U ⟨rfl, rfl⟩
            exact ⟨fun _ => Iff.rfl, fun _ _ => rfl, fun _ _ h => inh_upd h, h3⟩
          · intro G u K hG hK
            unfold opT
            simp only [hi, wai, hwant, if_true, hs]
            refine ⟨c, fun w hw hp => ?_, hK c id ⟨rfl, rfl⟩⟩
            have := h2 w hw (hG w hp)
            unfold stillAt at *
            rw [exi]; exact this
        | some S =>
          simp only [hs] at H
          obtain ⟨h2, h3⟩ := H
          obtain ⟨v0, w', hr0, hS0⟩ := relUpon_exists (h2 w hw (fun i _ => hF i))
          refine ⟨fun v U => U = fun G => upd G i (S v), ⟨v0, _, rfl, w', htr _ _ _ hw hr0, fun k => ⟨hst k w w' hr0 (hF k), fun _ => hS0⟩⟩, ?_, ?_⟩
          · rintro v U rfl
            exact ⟨fun w => pre_upd nji, fun G S' => upd_comm _ _ _ _ _, fun G S' h => inh_upd_mono h, h3 v⟩
          · intro G u K hG hK
            unfold opT
            simp only [hi, wai, hwant, if_true, hs]
            refine ⟨fun w hw hp => ?_, fun v => hK v _ rfl⟩
            have := h2 w hw (hG w hp)
            unfold relAt at *
            rw [exi]; exact this
      · simp only [hwant] at H
        refine ⟨fun v U => v = undef ∧ U = id, ⟨undef, id, ⟨rfl, rfl⟩, w, hw, hF⟩, ?_, ?_⟩
        · rintro v U ⟨rfl, rfl⟩
          exact ⟨fun _ => Iff.rfl, fun _ _ => rfl, fun _ _ h => inh_upd h, H⟩
        · intro G u K hG hK
          unfold opT
          simp only [hi, wai, hwant]
          exact hK undef id ⟨rfl, rfl⟩
    obtain ⟨v0, U0, hI0, hinh0⟩ := hex
    -- the j-step at an instance
    have stepj : ∀ v U, Inst v U → Inh Rel w0 (U F) → opT P ops T Rel w0 sp j (wpAnyT P ops T Rel w0 sp Q f ((listed.setIfInBounds i true).setIfInBounds j true)) (U F) (a.put oi.dst v) :=
      fun v U hI hn => ((hinst v U hI).2.2.2 hn).2 j hjr
    have comm : ∀ u v, (a.put oj.dst u).put oi.dst v = (a.put oi.dst v).put oj.dst u := fun u v => (Act.put_comm a v u a2).symm
    have lcomm : (listed.setIfInBounds j true).setIfInBounds i true = (listed.setIfInBounds i true).setIfInBounds j true := Array.setIfInBounds_comm _ _ hji
    have s0 := stepj v0 U0 hI0 hinh0
    unfold opT at s0 ⊢
    simp only [hoj, waj] at s0 ⊢
    by_cases hwant : Region.wanted oj (yielded ops a.tmps) = true
    · simp only [hwant, if_true] at s0 ⊢
      cases hs : sp j with
      | none =>
        simp only [hs] at s0 ⊢
        obtain ⟨c, hc1, hc2⟩ := s0
        have hstill : ∀ w, Rel w0 w → Pre ops T F j w → stillAt P oj a w c := fun w hw hp => by
          have := hc1 w hw (((hinst v0 U0 hI0).1 w).2 hp)
          unfold stillAt at *
          rw [← exj v0]; exact this
        refine ⟨c, hstill, ih _ F _ hst hc' hfree' hr' (hback F c _ (fun _ h => h) fun v U hI => wpAnyT_of_inh fun hn => ?_)⟩
        have sv := stepj v U hI hn
        unfold opT at sv
        simp only [hoj, waj, hwant, if_true, hs] at sv
        obtain ⟨c', hc1', hc2'⟩ := sv
        obtain ⟨w, hw, hF⟩ := hn
        have e1 := hc1' w hw (fun i _ => hF i)
        have e2 := hstill w hw (((hinst v U hI).1 w).1 (fun i _ => hF i))
        unfold stillAt at e1 e2
        rw [exj, e2] at e1
        injection e1 with e1 _
        injection e1 with e1
        subst e1
        rw [lcomm, comm]
        exact hc2'
      | some S =>
        simp only [hs] at s0 ⊢
        obtain ⟨hc1, hc2⟩ := s0
        refine ⟨fun w hw hp => ?_, fun u => ih _ _ _ (stable_upd hst (hsp j S hs u)) hc' hfree' hr' (hback _ u _ (fun w h => (pre_upd nij).1 h) fun v U hI => wpAnyT_of_inh fun hn => ?_)⟩
        · have := hc1 w hw (((hinst v0 U0 hI0).1 w).2 hp)
          unfold relAt at *
          rw [← exj v0]; exact this
        · have hn' : Inh Rel w0 (U F) := (hinst v U hI).2.2.1 F _ hn
          have sv := stepj v U hI hn'
          unfold opT at sv
          simp only [hoj, waj, hwant, if_true, hs] at sv
          rw [lcomm, comm, (hinst v U hI).2.1]
          exact sv.2 u
    · simp only [hwant] at s0 ⊢
      refine ih _ F _ hst hc' hfree' hr' (hback F undef _ (fun _ h => h) fun v U hI => wpAnyT_of_inh fun hn => ?_)
      have sv := stepj v U hI hn
      unfold opT at sv
      simp only [hoj, waj, hwant] at sv
      rw [lcomm, comm]
      exact sv

theorem wpAnyT_lex (htr : ∀ a b c, Rel a b → Rel b c → Rel a c) (hsp : ∀ k S, sp k = .some S → ∀ v w w', Rel w w' → S v w → S v w') (hB : befOk ops T = true)
    (hs : Region.noSelect ops = true) : ∀ (l : List Oper) (k : Nat) (listed : Array Bool) (F : Facts) (a : Act), (∀ j, l[j]? = ops[k + j]?) →
    Region.lexFrom .any ops l.length k listed = true → Closed ops T listed → StableF Rel F → wpT P ops T Rel w0 sp Q l k F a → wpAnyT P ops T Rel w0 sp Q l.length listed F a
  | [], _, _, _, _, _, hL, _, _, h => fun _ => ⟨by simpa [Region.lexFrom] using hL, h⟩
  | o :: l, k, listed, F, a, hl, hL, hc, hst, h => by
    have h0 : ops[k]? = .some o := by simpa using (hl 0).symm
    simp only [List.length_cons, Region.lexFrom, Bool.and_eq_true] at hL
    obtain ⟨⟨hr, hf⟩, hL'⟩ := hL
    have hr' : k ∈ Region.ready .any ops listed := by simpa using hr
    have hl' : ∀ j, l[j]? = ops[k + 1 + j]? := fun j => by have := hl (j + 1); simpa [Nat.add_assoc, Nat.add_comm 1 j] using this
    have IH := fun F a hst h => wpAnyT_lex htr hsp hB hs l (k + 1) (listed.setIfInBounds k true) F a hl' hL' (closed_set hB hc hr') hst h
    refine wpAnyT_first htr hsp hB h0 (Region.noSelect_spec hs) l.length listed F a hst hc (Region.free_spec h0 hf) hr' ?_
    unfold opT
    unfold wpT at h
    simp only [h0]
    by_cases hwant : Region.wanted o (yielded ops a.tmps) = true
    · simp only [hwant, if_true] at h ⊢
      cases hs : sp k with
      | none =>
        simp only [hs] at h ⊢
        obtain ⟨c, h1, h2⟩ := h
        exact ⟨c, h1, IH _ _ hst h2⟩
      | some S =>
        simp only [hs] at h ⊢
        obtain ⟨h1, h2⟩ := h
        refine ⟨h1, fun v => wpAnyT_of_inh fun ⟨w, hw, hF⟩ => IH _ _ (stable_upd hst (hsp k S hs v)) (h2 v ⟨w, hw, (hF k).2 rfl⟩)⟩
    · simp only [hwant] at h ⊢
      exact IH _ _ hst h

/-- **ONE WALK IN THE ORDER OF THE TEXT SERVES EVERY ORDER.** 'T': of each operation the bits of all that must have come before it; 'sp': the specifications of the operations that call, make memory or read it; 'Rel': what the steps do to the world. -/
theorem wp_region_rel {id : Nat} {Q' : Exit → Act → World → Prop} {a : Act} {w : World} {l : List Oper} (hm : P.follows .mixedOrders = true) (hL : Region.lexB .any l.toArray = true) (hB : befOk l.toArray T = true)
    (hrefl : ∀ w, Rel w w) (htr : ∀ a b c, Rel a b → Rel b c → Rel a c) (hsp : ∀ k S, sp k = .some S → ∀ v w w', Rel w w' → S v w → S v w')
    (h : wpT P l.toArray T Rel { w with drawn := w.drawn + 1 } sp (fun a w => Q' .normal a w) l 0 none a) : (Code.region id l.toArray true).wp P Q' a w := by
  simp only [Region.lexB, Bool.and_eq_true] at hL
  refine wp_region_any hm (wpAny_of_T (T := T) (Q := fun a w => Q' .normal a w) htr hsp (fun _ _ h => h) _ _ none _ _ (fun _ _ _ _ _ => trivial) (hrefl _) (fun _ => trivial) ?_)
  have := wpAnyT_lex (P := P) (Q := fun a w => Q' .normal a w) htr hsp hB hL.1 l 0 (Array.replicate l.toArray.size false) none a (by simp) (by simpa using hL.2) (fun k m hk => by
    exfalso
    by_cases h : k < l.length <;> simp [h] at hk) (fun _ _ _ _ _ => trivial) h
  simpa using this

section steps
variable {o : Oper} {rest : List Oper} {k : Nat} {F : Facts} {a : Act}
theorem wpT_nil (h : ∀ w, Rel w0 w → All F w → Q a w) : wpT P ops T Rel w0 sp Q [] k F a := h
theorem wpT_skip (hw : Region.wanted o (yielded ops a.tmps) = false) (h : wpT P ops T Rel w0 sp Q rest (k + 1) F (a.put o.dst undef)) : wpT P ops T Rel w0 sp Q (o :: rest) k F a := by
  unfold wpT; rw [if_neg (by rw [hw]; decide)]; exact h
theorem wpT_pure (hw : Region.wanted o (yielded ops a.tmps) = true) (hs : sp k = .none) (h : ∃ c, (∀ w, (execOp a.eval o).run P w = .ok (.value c) w) ∧ wpT P ops T Rel w0 sp Q rest (k + 1) F (a.put o.dst c)) :
    wpT P ops T Rel w0 sp Q (o :: rest) k F a := by
  obtain ⟨c, hc, h⟩ := h
  unfold wpT; rw [if_pos hw, hs]; exact ⟨c, fun w _ _ => hc w, h⟩
theorem wpT_some {S : Value → World → Prop} (hw : Region.wanted o (yielded ops a.tmps) = true) (hs : sp k = .some S) (hc : ∀ w, Rel w0 w → Pre ops T F k w → relAt P o a w (fun v w' => Rel w w' ∧ S v w'))
    (h : ∀ v, (∃ w, Rel w0 w ∧ S v w) → wpT P ops T Rel w0 sp Q rest (k + 1) (upd F k (S v)) (a.put o.dst v)) : wpT P ops T Rel w0 sp Q (o :: rest) k F a := by
  unfold wpT; rw [if_pos hw, hs]; exact ⟨hc, h⟩
theorem relAt_value {R : Value → World → Prop} {w w' : World} {v : Value} (hr : (execOp a.eval o).run P w = .ok (.value v) w') (h : R v w') : relAt P o a w R := by
  unfold relAt; rw [hr]; exact h
theorem relAt_call {R : Value → World → Prop} {w : World} {f : FuncId} {args : Array Value} (hr : (execOp a.eval o).run P w = .ok (.enter f args) w) (h : Calls P f args w (fun e w'' => ∃ v, e = .returned v ∧ R v w'')) : relAt P o a w R := by
  unfold relAt; rw [hr]; exact h
theorem upd_old {F : Facts} {k i : Nat} {S : World → Prop} {w : World} (h : upd F k S i w) : F i w := h.1
theorem upd_at {F : Facts} {k : Nat} {S : World → Prop} {w : World} (h : upd F k S k w) : S w := h.2 rfl
end steps
end
/-- A property of a value and of memory that later steps keep. -/
structure Sp (Rel : World → World → Prop) where
  S : Value → World → Prop
  st : ∀ v w w', Rel w w' → S v w → S v w'
def Sp.val {Rel : World → World → Prop} (c : Value) : Sp Rel := ⟨fun v _ => v = c, fun _ _ _ _ h => h⟩
def spOf {Rel : World → World → Prop} : List (Nat × Sp Rel) → Nat → Option (Value → World → Prop)
  | [], _ => .none
  | (i, s) :: L, k => if k = i then .some s.S else spOf L k
theorem spOf_stable {Rel : World → World → Prop} : ∀ (L : List (Nat × Sp Rel)) (k : Nat) (S : Value → World → Prop), spOf L k = .some S → ∀ v w w', Rel w w' → S v w → S v w'
  | [], _, _, h => by cases h
  | (i, s) :: L, k, S, h => by
    unfold spOf at h
    split at h
    · injection h with h; subst h; exact s.st
    · exact spOf_stable L k S h
theorem wp_region_sp {P : Program} {Rel : World → World → Prop} (T : Array Nat) (L : List (Nat × Sp Rel)) {id : Nat} {Q' : Exit → Act → World → Prop} {a : Act} {w : World} {l : List Oper} (hm : P.follows .mixedOrders = true) (hL : Region.lexB .any l.toArray = true) (hB : befOk l.toArray T = true)
    (hrefl : ∀ w, Rel w w) (htr : ∀ a b c, Rel a b → Rel b c → Rel a c) (h : wpT P l.toArray T Rel { w with drawn := w.drawn + 1 } (spOf L) (fun a w => Q' .normal a w) l 0 none a) : (Code.region id l.toArray true).wp P Q' a w :=
  wp_region_rel hm hL hB hrefl htr (spOf_stable L) h
end Go.Proofs.Ytcminppmmhinjaa.Rg
