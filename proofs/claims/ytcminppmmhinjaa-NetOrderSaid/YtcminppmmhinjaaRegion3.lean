/- A REGION THAT DRAWS ITS ORDER, with three kinds of operations: (a) it yields one value in every world of a class and leaves the world; (b) it bears a specification that later steps keep (it may make memory or call); (c) anything else, a barrier: it comes when nothing else may. One walk in the order of the text serves every order. -/
import Derived.Test.YtcminppmmhinjaaRegion
namespace Go.Proofs.Ytcminppmmhinjaa.Rg
set_option linter.unusedSimpArgs false
set_option linter.unusedVariables false
open Go

/-- none: kind (a); some none: kind (c); some (some S): kind (b). -/
abbrev Kd := Option (Option (Value → World → Prop))

section
variable (P : Program) (ops : Array Oper) (T : Array Nat) (Rel : World → World → Prop) (Cl : World → Prop) (kd : Nat → Kd) (Q : Exit → Act → World → Prop)

def Inh3 (w0 : World) (F : Facts) : Prop := ∃ w, Rel w0 w ∧ Cl w ∧ All F w

def op3 (k : Nat) (K : World → Facts → Act → Prop) (w0 : World) (F : Facts) (a : Act) : Prop :=
  match ops[k]? with
  | .none => K w0 F a
  | .some o =>
    if Region.wanted o (yielded ops a.tmps) = true then
      match kd k with
      | .none => ∃ c, (∀ w, Cl w → stillAt P o a w c) ∧ K w0 F (a.put o.dst c)
      | .some (.some S) => (∀ w, Rel w0 w → Cl w → Pre ops T F k w → relAt P o a w (fun v w' => Rel w w' ∧ Cl w' ∧ S v w')) ∧ ∀ v, K w0 (upd F k (S v)) (a.put o.dst v)
      | .some .none => ∀ w, Rel w0 w → Cl w → All F w → o.wp P a w (fun a' w' => Cl w' ∧ K w' none a') Q ∨ (o.asks P a w ∧ LetsOut Q)
    else K w0 F (a.put o.dst undef)

def wpAny3 : Nat → Array Bool → World → Facts → Act → Prop
  | 0, listed, w0, F, a => Inh3 Rel Cl w0 F → Region.ready .any ops listed = [] ∧ ∀ w, Rel w0 w → Cl w → All F w → Q .normal a w
  | f + 1, listed, w0, F, a => Inh3 Rel Cl w0 F → (Region.ready .any ops listed = [] → ∀ w, Rel w0 w → Cl w → All F w → Q .normal a w) ∧
      ∀ i ∈ Region.ready .any ops listed, op3 P ops T Rel Cl kd Q i (wpAny3 f (listed.setIfInBounds i true)) w0 F a

/-- THE WALK IN THE ORDER OF THE TEXT. -/
def wp3 : List (Nat × Oper) → World → Facts → Act → Prop
  | [], w0, F, a => ∀ w, Rel w0 w → Cl w → All F w → Q .normal a w
  | (k, o) :: rest, w0, F, a =>
    if Region.wanted o (yielded ops a.tmps) = true then
      match kd k with
      | .none => ∃ c, (∀ w, Cl w → stillAt P o a w c) ∧ wp3 rest w0 F (a.put o.dst c)
      | .some (.some S) => (∀ w, Rel w0 w → Cl w → Pre ops T F k w → relAt P o a w (fun v w' => Rel w w' ∧ Cl w' ∧ S v w')) ∧
          ∀ v, (∃ w, Rel w0 w ∧ Cl w ∧ S v w) → wp3 rest w0 (upd F k (S v)) (a.put o.dst v)
      | .some .none => ∀ w, Rel w0 w → Cl w → All F w → o.wp P a w (fun a' w' => Cl w' ∧ wp3 rest w' none a') Q ∨ (o.asks P a w ∧ LetsOut Q)
    else wp3 rest w0 F (a.put o.dst undef)
end

def isB (kd : Nat → Kd) (k : Nat) : Bool := match kd k with | .some (.some _) => true | _ => false
def isC (kd : Nat → Kd) (k : Nat) : Bool := match kd k with | .some .none => true | _ => false
/-- Between a barrier and an operation of kind (b) the order is fixed. -/
def barB (ops : Array Oper) (T : Array Nat) (B C : List Nat) : Bool := C.all fun j => B.all fun i => bef ops T j i || bef ops T i j
def lex3 (ops : Array Oper) (C : List Nat) : List Nat → Array Bool → Bool
  | [], listed => (Region.ready .any ops listed).isEmpty
  | k :: ks, listed => (if C.contains k then decide (Region.ready .any ops listed = [k]) else (Region.ready .any ops listed).contains k && Region.free .any ops listed k) && lex3 ops C ks (listed.setIfInBounds k true)

section
variable {P : Program} {ops : Array Oper} {T : Array Nat} {Rel : World → World → Prop} {Cl : World → Prop} {kd : Nat → Kd} {Q : Exit → Act → World → Prop}

theorem inh3_upd_mono {w0 : World} {F : Facts} {j k : Nat} {S S' : World → Prop} (h : Inh3 Rel Cl w0 (upd (upd F j S') k S)) : Inh3 Rel Cl w0 (upd F k S) :=
  let ⟨w, h1, h0, h2⟩ := h; ⟨w, h1, h0, fun i => ⟨(h2 i).1.1, (h2 i).2⟩⟩
theorem inh3_upd {w0 : World} {F : Facts} {k : Nat} {S : World → Prop} (h : Inh3 Rel Cl w0 (upd F k S)) : Inh3 Rel Cl w0 F := let ⟨w, h1, h0, h2⟩ := h; ⟨w, h1, h0, fun i => (h2 i).1⟩
theorem wpAny3_of_inh {f : Nat} {listed : Array Bool} {w0 : World} {F : Facts} {a : Act} (h : Inh3 Rel Cl w0 F → wpAny3 P ops T Rel Cl kd Q f listed w0 F a) : wpAny3 P ops T Rel Cl kd Q f listed w0 F a := by
  cases f with
  | zero => intro hi; exact h hi hi
  | succ f => intro hi; exact h hi hi

/-- The walk over any order is one. -/
theorem wpAny_of_3 (hrefl : ∀ w, Rel w w) (htr : ∀ a b c, Rel a b → Rel b c → Rel a c) (hsp : ∀ k S, kd k = .some (.some S) → ∀ v w w', Rel w w' → S v w → S v w') :
    ∀ (f : Nat) (listed : Array Bool) (w0 : World) (F : Facts) (a : Act) (w : World), StableF Rel F → Rel w0 w → Cl w → All F w →
    wpAny3 P ops T Rel Cl kd Q f listed w0 F a → wpAny P .any ops Q f listed a w
  | 0, _, _, _, _, w, _, hw, hcl, hF, h => let h' := h ⟨w, hw, hcl, hF⟩; ⟨h'.1, h'.2 w hw hcl hF⟩
  | f + 1, listed, w0, F, a, w, hst, hw, hcl, hF, h => by
    have h' := h ⟨w, hw, hcl, hF⟩
    refine ⟨fun h0 => h'.1 h0 w hw hcl hF, fun i hi => ?_⟩
    have h1 := h'.2 i hi
    unfold op3 at h1
    unfold wpOp
    cases ho : ops[i]? with
    | none => simp only [ho] at h1; exact wpAny_of_3 hrefl htr hsp f _ w0 F a w hst hw hcl hF h1
    | some o =>
      simp only [ho] at h1
      by_cases hwant : Region.wanted o (yielded ops a.tmps) = true
      · simp only [hwant, if_true] at h1 ⊢
        cases hs : kd i with
        | none =>
          simp only [hs] at h1
          obtain ⟨c, h2, h3⟩ := h1
          left
          unfold Oper.wp
          rw [show (execOp a.eval o).run P w = .ok (.value c) w from h2 w hcl]
          exact wpAny_of_3 hrefl htr hsp f _ w0 F _ w hst hw hcl hF h3
        | some k2 =>
          cases k2 with
          | none =>
            simp only [hs] at h1
            refine (h1 w hw hcl hF).imp (Oper.wp_mono fun a' w' ⟨hcl', h3⟩ => ?_) id
            exact wpAny_of_3 hrefl htr hsp f _ w' none a' w' (fun _ _ _ _ _ => trivial) (hrefl _) hcl' (fun _ => trivial) h3
          | some S =>
            simp only [hs] at h1
            obtain ⟨h2, h3⟩ := h1
            left
            refine wp_of_rel (h2 w hw hcl (fun i _ => hF i)) fun v w' ⟨hr, hcl', hS⟩ => ?_
            exact wpAny_of_3 hrefl htr hsp f _ w0 _ _ w' (stable_upd hst (hsp i S hs v)) (htr _ _ _ hw hr) hcl' (fun k => ⟨hst k w w' hr (hF k), fun _ => hS⟩) (h3 v)
      · simp only [hwant] at h1 ⊢
        exact wpAny_of_3 hrefl htr hsp f _ w0 F _ w hst hw hcl hF h1

/-- A barrier, put ahead of an operation of kind (a) that is apart from it. -/
theorem wpOp_put3 {j : Nat} {oi oj : Oper} {v : Value} (hj : ops[j]? = .some oj) (hap : oi.apart ops oj = true) (hsj : ∀ cs b, oj.op ≠ .select cs b)
    (hQ : ∀ c a w, Q (.panic c) (a.put oi.dst v) w → Q (.panic c) a w) {K : Act → World → Prop} {a : Act} {w : World}
    (h : oj.wp P (a.put oi.dst v) w K Q ∨ (oj.asks P (a.put oi.dst v) w ∧ LetsOut Q)) :
    oj.wp P a w (fun a' w' => (∃ u D, a' = ({ a with defers := D } : Act).put oj.dst u) ∧ K (a'.put oi.dst v) w') Q ∨ (oj.asks P a w ∧ LetsOut Q) := by
  obtain ⟨h1, h2, h3⟩ := Oper.apart_spec hap
  rcases h with h | ⟨hasks, hlets⟩
  case inr => exact .inr ⟨by unfold Oper.asks at *; rw [execOp_put oj hsj a oi.dst v h1] at hasks; exact hasks, hlets⟩
  refine .inl ?_
  unfold Oper.wp at *
  rw [execOp_put oj hsj a oi.dst v h1] at h
  generalize (execOp a.eval oj).run P w = r at *
  cases r with
  | ok n w' =>
    cases n <;> simp only [Oper.upon] at h ⊢
    case value u => exact ⟨⟨u, a.defers, rfl⟩, by rw [← Act.put_comm a v u h2]; exact h⟩
    case skip => exact ⟨⟨undef, a.defers, rfl⟩, by rw [← Act.put_comm a v undef h2]; exact h⟩
    case defer d =>
      refine ⟨⟨undef, d :: a.defers, rfl⟩, ?_⟩
      rw [← Act.put_comm _ v undef h2, ← Act.put_defers]
      exact h
    case enter f args =>
      refine Calls.mono h fun e w'' he => ?_
      cases e with
      | returned u => exact ⟨⟨u, a.defers, rfl⟩, by rw [← Act.put_comm a v u h2]; exact he⟩
      | panicked c => exact hQ _ _ _ he
      | outgrown => exact he
    case row row args => exact Rows.mono h fun u w'' he => ⟨⟨u, a.defers, rfl⟩, by rw [← Act.put_comm a v u h2]; exact he⟩
  | halt x w' =>
    cases x <;> simp only [Oper.upon] at h ⊢
    case panic u => exact hQ _ _ _ h

/-- **An operation of kind (a) or (b) that may come up now may be taken first.** -/
theorem wpAny3_first (htr : ∀ a b c, Rel a b → Rel b c → Rel a c) (hsp : ∀ k S, kd k = .some (.some S) → ∀ v w w', Rel w w' → S v w → S v w') (hB : befOk ops T = true)
    (hbar : ∀ i j, isB kd i = true → isC kd j = true → bef ops T j i = true ∨ bef ops T i j = true) (hQ : ∀ c (a : Act) x v w, Q (.panic c) (a.put x v) w → Q (.panic c) a w)
    {i : Nat} {oi : Oper} (hi : ops[i]? = .some oi) (hic : isC kd i = false) (hsel : ∀ (j : Nat) (o : Oper) cs b, ops[j]? = .some o → o.op ≠ .select cs b) :
    ∀ (f : Nat) (listed : Array Bool) (w0 : World) (F : Facts) (a : Act), StableF Rel F → Closed ops T listed →
      (∀ j oj, ops[j]? = .some oj → j ≠ i → listed.getD j true = false → (∀ e ∈ oj.after, Region.binds .any e = true → e.on ≠ i) → oi.apart ops oj = true) →
      i ∈ Region.ready .any ops listed → op3 P ops T Rel Cl kd Q i (wpAny3 P ops T Rel Cl kd Q f (listed.setIfInBounds i true)) w0 F a →
      wpAny3 P ops T Rel Cl kd Q (f + 1) listed w0 F a := by
  intro f
  induction f with
  | zero =>
    intro listed w0 F a hst hc _ hr H hinh
    refine ⟨fun h => (by rw [h] at hr; cases hr), fun j hj => ?_⟩
    by_cases hji : j = i
    · subst hji; exact H
    · exfalso
      have hrj := ready_mono hj hji
      obtain ⟨w, hw, hcl, hF⟩ := hinh
      unfold op3 at H
      simp only [hi] at H
      by_cases hwant : Region.wanted oi (yielded ops a.tmps) = true
      · simp only [hwant, if_true] at H
        cases hs : kd i with
        | none =>
          simp only [hs] at H
          obtain ⟨c, h2, h3⟩ := H
          have := (h3 ⟨w, hw, hcl, hF⟩).1
          rw [this] at hrj; cases hrj
        | some k2 =>
          cases k2 with
          | none => unfold isC at hic; rw [hs] at hic; cases hic
          | some S =>
            simp only [hs] at H
            obtain ⟨h2, h3⟩ := H
            obtain ⟨v, w', hr', hcl', hS⟩ := relUpon_exists (h2 w hw hcl (fun i _ => hF i))
            have := (h3 v ⟨w', htr _ _ _ hw hr', hcl', fun k => ⟨hst k w w' hr' (hF k), fun _ => hS⟩⟩).1
            rw [this] at hrj; cases hrj
      · simp only [hwant] at H
        have := (H ⟨w, hw, hcl, hF⟩).1
        rw [this] at hrj; cases hrj
  | succ f ih =>
    intro listed w0 F a hst hc hfree hr H hinh
    refine ⟨fun h => (by rw [h] at hr; cases hr), fun j hj => ?_⟩
    by_cases hji : j = i
    · subst hji; exact H
    obtain ⟨hjun, oj, hoj, hall⟩ := mem_ready.1 hj
    have hnot : ∀ e ∈ oj.after, Region.binds .any e = true → e.on ≠ i := fun e he hb heq => by
      have h1 := hall e he hb
      have h0 := (mem_ready.1 hr).1
      rw [heq] at h1
      rcases Nat.lt_or_ge i listed.size with h' | h'
      · simp [h'] at h0 h1; rw [h0] at h1; cases h1
      · simp [Array.getElem?_eq_none h'] at h1
    have hap := hfree j oj hoj hji hjun hnot
    obtain ⟨a1, a2, a3⟩ := Oper.apart_spec hap
    have hseli := fun cs b => hsel i oi cs b hi
    have hselj := fun cs b => hsel j oj cs b hoj
    have hfree' : ∀ k ok, ops[k]? = .some ok → k ≠ i → (listed.setIfInBounds j true).getD k true = false →
        (∀ e ∈ ok.after, Region.binds .any e = true → e.on ≠ i) → oi.apart ops ok = true := fun k ok hk hki hun hno => by
      refine hfree k ok hk hki ?_ hno
      by_cases hjk : j = k
      · subst hjk; exact hjun
      · rw [getD_set_ne true hjk] at hun; exact hun
    have nij : ¬ bef ops T i j = true := not_bef hB hc hr hj
    have nji : ¬ bef ops T j i = true := not_bef hB hc hj hr
    have hc' := closed_set hB hc hj
    have hr' := ready_mono hr (Ne.symm hji)
    have hjr := ready_mono hj hji
    have exi : ∀ u D, execOp (({ a with defers := D } : Act).put oj.dst u).eval oi = execOp a.eval oi := fun u D => (execOp_put oi hseli { a with defers := D } oj.dst u a3).trans rfl
    have wai : ∀ u D, Region.wanted oi (yielded ops (({ a with defers := D } : Act).put oj.dst u).tmps) = Region.wanted oi (yielded ops a.tmps) := fun u D => (wanted_put oi { a with defers := D } oj.dst u a3).trans rfl
    have exi' : ∀ u, execOp (a.put oj.dst u).eval oi = execOp a.eval oi := fun u => exi u a.defers
    have wai' : ∀ u, Region.wanted oi (yielded ops (a.put oj.dst u).tmps) = Region.wanted oi (yielded ops a.tmps) := fun u => wai u a.defers
    have exj : ∀ v, execOp (a.put oi.dst v).eval oj = execOp a.eval oj := fun v => execOp_put oj hselj a oi.dst v a1
    have waj : ∀ v, Region.wanted oj (yielded ops (a.put oi.dst v).tmps) = Region.wanted oj (yielded ops a.tmps) := fun v => wanted_put oj a oi.dst v a1
    have comm : ∀ u v, (a.put oj.dst u).put oi.dst v = (a.put oi.dst v).put oj.dst u := fun u v => (Act.put_comm a v u a2).symm
    have lcomm : (listed.setIfInBounds j true).setIfInBounds i true = (listed.setIfInBounds i true).setIfInBounds j true := Array.setIfInBounds_comm _ _ hji
    -- j is a barrier: i is of kind (a), or passed over
    by_cases hjc : isC kd j = true ∧ Region.wanted oj (yielded ops a.tmps) = true
    · obtain ⟨hjc, hwj⟩ := hjc
      have hjk : kd j = .some .none := by
        unfold isC at hjc; revert hjc; cases kd j with
        | none => intro h; cases h
        | some x => cases x with
          | none => intro _; rfl
          | some S => intro h; cases h
      -- the value of i, at any defers
      obtain ⟨c, hcrun, hcont⟩ : ∃ c, (∀ (u : Value) (D : List Deferred) (w0' : World) (F' : Facts) (K : World → Facts → Act → Prop),
            K w0' F' ((({ a with defers := D } : Act).put oj.dst u).put oi.dst c) → op3 P ops T Rel Cl kd Q i K w0' F' (({ a with defers := D } : Act).put oj.dst u)) ∧
          wpAny3 P ops T Rel Cl kd Q (f + 1) (listed.setIfInBounds i true) w0 F (a.put oi.dst c) := by
        unfold op3 at H
        simp only [hi] at H
        by_cases hwant : Region.wanted oi (yielded ops a.tmps) = true
        · simp only [hwant, if_true] at H
          cases hs : kd i with
          | none =>
            simp only [hs] at H
            obtain ⟨c, h2, h3⟩ := H
            refine ⟨c, fun u D w0' F' K hK => ?_, h3⟩
            unfold op3
            simp only [hi, wai, hwant, if_true, hs]
            refine ⟨c, fun w hcl => ?_, hK⟩
            have := h2 w hcl
            unfold stillAt at *
            rw [exi]; exact this
          | some k2 =>
            cases k2 with
            | none => unfold isC at hic; rw [hs] at hic; cases hic
            | some S =>
              exfalso
              rcases hbar i j (by unfold isB; rw [hs]) hjc with h | h
              · exact nji h
              · exact nij h
        · simp only [hwant] at H
          refine ⟨undef, fun u D w0' F' K hK => ?_, H⟩
          unfold op3
          simp only [hi, wai, hwant]
          exact hK
      have s0 := (hcont hinh).2 j hjr
      unfold op3 at s0 ⊢
      simp only [hoj, waj, hwj, if_true, hjk] at s0 ⊢
      intro w hw hcl hF
      refine (wpOp_put3 hoj hap hselj (fun c a w h => hQ c a _ _ w h) (s0 w hw hcl hF)).imp (Oper.wp_mono fun a' w' ⟨⟨u, D, ha'⟩, hcl', hK⟩ => ⟨hcl', ?_⟩) id
      subst ha'
      refine ih _ w' none _ (fun _ _ _ _ _ => trivial) hc' hfree' hr' (hcrun u D w' none _ ?_)
      rw [lcomm]
      exact hK
    -- the instances of i
    obtain ⟨Inst, hex, hinst, hback⟩ : ∃ Inst : Value → (Facts → Facts) → Prop,
        (∃ v U, Inst v U ∧ Inh3 Rel Cl w0 (U F)) ∧
        (∀ v U, Inst v U → (∀ w, Pre ops T (U F) j w ↔ Pre ops T F j w) ∧ (∀ G S, U (upd G j S) = upd (U G) j S) ∧ (∀ G S, Inh3 Rel Cl w0 (U (upd G j S)) → Inh3 Rel Cl w0 (U G)) ∧ wpAny3 P ops T Rel Cl kd Q (f + 1) (listed.setIfInBounds i true) w0 (U F) (a.put oi.dst v)) ∧
        (∀ (G : Facts) (u : Value) (K : World → Facts → Act → Prop), (∀ w, Pre ops T G i w → Pre ops T F i w) → (∀ v U, Inst v U → K w0 (U G) ((a.put oj.dst u).put oi.dst v)) →
          op3 P ops T Rel Cl kd Q i K w0 G (a.put oj.dst u)) := by
      obtain ⟨w, hw, hcl, hF⟩ := hinh
      unfold op3 at H
      simp only [hi] at H
      by_cases hwant : Region.wanted oi (yielded ops a.tmps) = true
      · simp only [hwant, if_true] at H
        cases hs : kd i with
        | none =>
          simp only [hs] at H
          obtain ⟨c, h2, h3⟩ := H
          refine ⟨fun v U => v = c ∧ U = id, ⟨c, id, ⟨rfl, rfl⟩, w, hw, hcl, hF⟩, ?_, ?_⟩
          · rintro v U ⟨rfl, rfl⟩
            exact ⟨fun _ => Iff.rfl, fun _ _ => rfl, fun _ _ h => inh3_upd h, h3⟩
          · intro G u K hG hK
            unfold op3
            simp only [hi, wai', hwant, if_true, hs]
            refine ⟨c, fun w hcl => ?_, hK c id ⟨rfl, rfl⟩⟩
            have := h2 w hcl
            unfold stillAt at *
            rw [exi']; exact this
        | some k2 =>
          cases k2 with
          | none => unfold isC at hic; rw [hs] at hic; cases hic
          | some S =>
            simp only [hs] at H
            obtain ⟨h2, h3⟩ := H
            obtain ⟨v0, w', hr0, hcl0, hS0⟩ := relUpon_exists (h2 w hw hcl (fun i _ => hF i))
            refine ⟨fun v U => U = fun G => upd G i (S v), ⟨v0, _, rfl, w', htr _ _ _ hw hr0, hcl0, fun k => ⟨hst k w w' hr0 (hF k), fun _ => hS0⟩⟩, ?_, ?_⟩
            · rintro v U rfl
              exact ⟨fun w => pre_upd nji, fun G S' => upd_comm _ _ _ _ _, fun G S' h => inh3_upd_mono h, h3 v⟩
            · intro G u K hG hK
              unfold op3
              simp only [hi, wai', hwant, if_true, hs]
              refine ⟨fun w hw hcl hp => ?_, fun v => hK v _ rfl⟩
              have := h2 w hw hcl (hG w hp)
              unfold relAt at *
              rw [exi']; exact this
      · simp only [hwant] at H
        refine ⟨fun v U => v = undef ∧ U = id, ⟨undef, id, ⟨rfl, rfl⟩, w, hw, hcl, hF⟩, ?_, ?_⟩
        · rintro v U ⟨rfl, rfl⟩
          exact ⟨fun _ => Iff.rfl, fun _ _ => rfl, fun _ _ h => inh3_upd h, H⟩
        · intro G u K hG hK
          unfold op3
          simp only [hi, wai', hwant]
          exact hK undef id ⟨rfl, rfl⟩
    obtain ⟨v0, U0, hI0, hinh0⟩ := hex
    have stepj : ∀ v U, Inst v U → Inh3 Rel Cl w0 (U F) → op3 P ops T Rel Cl kd Q j (wpAny3 P ops T Rel Cl kd Q f ((listed.setIfInBounds i true).setIfInBounds j true)) w0 (U F) (a.put oi.dst v) :=
      fun v U hI hn => ((hinst v U hI).2.2.2 hn).2 j hjr
    have s0 := stepj v0 U0 hI0 hinh0
    unfold op3 at s0 ⊢
    simp only [hoj, waj] at s0 ⊢
    by_cases hwant : Region.wanted oj (yielded ops a.tmps) = true
    · simp only [hwant, if_true] at s0 ⊢
      cases hs : kd j with
      | none =>
        simp only [hs] at s0 ⊢
        obtain ⟨c, hc1, hc2⟩ := s0
        have hstill : ∀ w, Cl w → stillAt P oj a w c := fun w hcl => by
          have := hc1 w hcl
          unfold stillAt at *
          rw [← exj v0]; exact this
        refine ⟨c, hstill, ih _ w0 F _ hst hc' hfree' hr' (hback F c _ (fun _ h => h) fun v U hI => wpAny3_of_inh fun hn => ?_)⟩
        have sv := stepj v U hI hn
        unfold op3 at sv
        simp only [hoj, waj, hwant, if_true, hs] at sv
        obtain ⟨c', hc1', hc2'⟩ := sv
        obtain ⟨w, hw, hcl, hF⟩ := hn
        have e1 := hc1' w hcl
        have e2 := hstill w hcl
        unfold stillAt at e1 e2
        rw [exj, e2] at e1
        injection e1 with e1 _
        injection e1 with e1
        subst e1
        rw [lcomm, comm]
        exact hc2'
      | some k2 =>
        cases k2 with
        | none => exact absurd ⟨by unfold isC; rw [hs], hwant⟩ hjc
        | some S =>
          simp only [hs] at s0 ⊢
          obtain ⟨hc1, hc2⟩ := s0
          refine ⟨fun w hw hcl hp => ?_, fun u => ih _ w0 _ _ (stable_upd hst (hsp j S hs u)) hc' hfree' hr' (hback _ u _ (fun w h => (pre_upd nij).1 h) fun v U hI => wpAny3_of_inh fun hn => ?_)⟩
          · have := hc1 w hw hcl (((hinst v0 U0 hI0).1 w).2 hp)
            unfold relAt at *
            rw [← exj v0]; exact this
          · have hn' : Inh3 Rel Cl w0 (U F) := (hinst v U hI).2.2.1 F _ hn
            have sv := stepj v U hI hn'
            unfold op3 at sv
            simp only [hoj, waj, hwant, if_true, hs] at sv
            rw [lcomm, comm, (hinst v U hI).2.1]
            exact sv.2 u
    · simp only [hwant] at s0 ⊢
      refine ih _ w0 F _ hst hc' hfree' hr' (hback F undef _ (fun _ h => h) fun v U hI => wpAny3_of_inh fun hn => ?_)
      have sv := stepj v U hI hn
      unfold op3 at sv
      simp only [hoj, waj, hwant] at sv
      rw [lcomm, comm]
      exact sv

theorem wpAny3_lex (htr : ∀ a b c, Rel a b → Rel b c → Rel a c) (hsp : ∀ k S, kd k = .some (.some S) → ∀ v w w', Rel w w' → S v w → S v w') (hB : befOk ops T = true)
    (hbar : ∀ i j, isB kd i = true → isC kd j = true → bef ops T j i = true ∨ bef ops T i j = true) (hQ : ∀ c (a : Act) x v w, Q (.panic c) (a.put x v) w → Q (.panic c) a w)
    (C : List Nat) (hC : ∀ k, isC kd k = C.contains k) (hs : Region.noSelect ops = true) : ∀ (l : List (Nat × Oper)) (listed : Array Bool) (w0 : World) (F : Facts) (a : Act), (∀ p ∈ l, ops[p.1]? = .some p.2) →
    lex3 ops C (l.map (·.1)) listed = true → Closed ops T listed → StableF Rel F → wp3 P ops T Rel Cl kd Q l w0 F a → wpAny3 P ops T Rel Cl kd Q l.length listed w0 F a
  | [], _, _, _, _, _, hL, _, _, h => fun _ => ⟨by simpa [lex3] using hL, h⟩
  | (k, o) :: l, listed, w0, F, a, hl, hL, hc, hst, h => by
    have h0 : ops[k]? = .some o := hl (k, o) (by simp)
    simp only [List.map_cons, lex3, Bool.and_eq_true] at hL
    obtain ⟨hL1, hL'⟩ := hL
    have hl' : ∀ p ∈ l, ops[p.1]? = .some p.2 := fun p hp => hl p (by simp [hp])
    by_cases hkc : C.contains k = true
    · rw [if_pos hkc, decide_eq_true_eq] at hL1
      have hr' : k ∈ Region.ready .any ops listed := by rw [hL1]; simp
      have IH := fun w0 F a hst h => wpAny3_lex htr hsp hB hbar hQ C hC hs l (listed.setIfInBounds k true) w0 F a hl' hL' (closed_set hB hc hr') hst h
      intro hinh
      refine ⟨fun h => (by rw [hL1] at h; cases h), fun i hi => ?_⟩
      rw [hL1] at hi
      obtain rfl : i = k := by simpa using hi
      have hkk : kd i = .some .none := by
        have := hC i
        rw [hkc] at this
        unfold isC at this; revert this; cases kd i with
        | none => intro h; cases h
        | some x => cases x with
          | none => intro _; rfl
          | some S => intro h; cases h
      unfold op3
      unfold wp3 at h
      simp only [h0]
      by_cases hwant : Region.wanted o (yielded ops a.tmps) = true
      · simp only [hwant, if_true, hkk] at h ⊢
        intro w hw hcl hF
        exact (h w hw hcl hF).imp (Oper.wp_mono fun a' w' ⟨h1, h2⟩ => ⟨h1, IH w' none a' (fun _ _ _ _ _ => trivial) h2⟩) id
      · simp only [hwant] at h ⊢
        exact IH _ _ _ hst h
    · rw [if_neg hkc, Bool.and_eq_true] at hL1
      obtain ⟨hr, hf⟩ := hL1
      have hr' : k ∈ Region.ready .any ops listed := by simpa using hr
      have IH := fun w0 F a hst h => wpAny3_lex htr hsp hB hbar hQ C hC hs l (listed.setIfInBounds k true) w0 F a hl' hL' (closed_set hB hc hr') hst h
      have hkc' : isC kd k = false := by rw [hC]; simpa using hkc
      refine wpAny3_first htr hsp hB hbar hQ h0 hkc' (Region.noSelect_spec hs) l.length listed w0 F a hst hc (Region.free_spec h0 hf) hr' ?_
      unfold op3
      unfold wp3 at h
      simp only [h0]
      by_cases hwant : Region.wanted o (yielded ops a.tmps) = true
      · simp only [hwant, if_true] at h ⊢
        cases hs : kd k with
        | none =>
          simp only [hs] at h ⊢
          obtain ⟨c, h1, h2⟩ := h
          exact ⟨c, h1, IH _ _ _ hst h2⟩
        | some k2 =>
          cases k2 with
          | none => unfold isC at hkc'; rw [hs] at hkc'; cases hkc'
          | some S =>
            simp only [hs] at h ⊢
            obtain ⟨h1, h2⟩ := h
            exact ⟨h1, fun v => wpAny3_of_inh fun ⟨w, hw, hcl, hF⟩ => IH _ _ _ (stable_upd hst (hsp k S hs v)) (h2 v ⟨w, hw, hcl, (hF k).2 rfl⟩)⟩
      · simp only [hwant] at h ⊢
        exact IH _ _ _ hst h

section steps
variable {w0 : World} {o : Oper} {rest : List (Nat × Oper)} {k : Nat} {F : Facts} {a : Act}
theorem w3_nil (h : ∀ w, Rel w0 w → Cl w → All F w → Q .normal a w) : wp3 P ops T Rel Cl kd Q [] w0 F a := h
theorem w3_skip (hw : Region.wanted o (yielded ops a.tmps) = false) (h : wp3 P ops T Rel Cl kd Q rest w0 F (a.put o.dst undef)) : wp3 P ops T Rel Cl kd Q ((k, o) :: rest) w0 F a := by
  unfold wp3; rw [if_neg (by rw [hw]; decide)]; exact h
theorem w3_pure (hw : Region.wanted o (yielded ops a.tmps) = true) (hs : kd k = .none) (h : ∃ c, (∀ w, Cl w → (execOp a.eval o).run P w = .ok (.value c) w) ∧ wp3 P ops T Rel Cl kd Q rest w0 F (a.put o.dst c)) :
    wp3 P ops T Rel Cl kd Q ((k, o) :: rest) w0 F a := by
  unfold wp3; rw [if_pos hw, hs]; exact h
theorem w3_some {S : Value → World → Prop} (hw : Region.wanted o (yielded ops a.tmps) = true) (hs : kd k = .some (.some S)) (hc : ∀ w, Rel w0 w → Cl w → Pre ops T F k w → relAt P o a w (fun v w' => Rel w w' ∧ Cl w' ∧ S v w'))
    (h : ∀ v, (∃ w, Rel w0 w ∧ Cl w ∧ S v w) → wp3 P ops T Rel Cl kd Q rest w0 (upd F k (S v)) (a.put o.dst v)) : wp3 P ops T Rel Cl kd Q ((k, o) :: rest) w0 F a := by
  unfold wp3; rw [if_pos hw, hs]; exact ⟨hc, h⟩
theorem w3_bar (hw : Region.wanted o (yielded ops a.tmps) = true) (hs : kd k = .some .none)
    (h : ∀ w, Rel w0 w → Cl w → All F w → ∀ K : Value → World → Prop, (∀ v w', Cl w' → wp3 P ops T Rel Cl kd Q rest w' none (a.put o.dst v) → K v w') → relAt P o a w K) : wp3 P ops T Rel Cl kd Q ((k, o) :: rest) w0 F a := by
  unfold wp3; rw [if_pos hw, hs]
  exact fun w hr hcl hF => .inl (wp_of_rel (h w hr hcl hF (fun v w' => Cl w' ∧ wp3 P ops T Rel Cl kd Q rest w' none (a.put o.dst v)) fun v w' h1 h2 => ⟨h1, h2⟩) fun v w' h => h)
end steps
end
/-- The kinds: the listed specifications; the listed barriers; all else is of kind (a). -/
def kdOf {Rel : World → World → Prop} (Bs : List (Nat × Sp Rel)) (Cs : List Nat) (k : Nat) : Kd := if Cs.contains k then .some .none else (spOf Bs k).map .some
theorem kdOf_C {Rel : World → World → Prop} (Bs : List (Nat × Sp Rel)) (Cs : List Nat) (k : Nat) : isC (kdOf Bs Cs) k = Cs.contains k := by
  unfold isC kdOf
  cases h : Cs.contains k
  · simp only [Bool.false_eq_true, if_false]
    cases spOf Bs k <;> rfl
  · rfl
theorem kdOf_B {Rel : World → World → Prop} (Bs : List (Nat × Sp Rel)) (Cs : List Nat) (k : Nat) (h : isB (kdOf Bs Cs) k = true) : k ∈ Bs.map (·.1) := by
  unfold isB kdOf at h
  cases h' : Cs.contains k
  · rw [h'] at h
    simp only [Bool.false_eq_true, if_false] at h
    clear h'
    induction Bs with
    | nil => simp [spOf] at h
    | cons p Bs ih =>
      obtain ⟨i, s⟩ := p
      unfold spOf at h
      by_cases hk : k = i
      · simp [hk]
      · rw [if_neg hk] at h
        simp only [List.map_cons, List.mem_cons]
        exact .inr (ih h)
  · rw [h'] at h; simp at h
theorem kdOf_sp {Rel : World → World → Prop} (Bs : List (Nat × Sp Rel)) (Cs : List Nat) (k : Nat) (S : Value → World → Prop) (h : kdOf Bs Cs k = .some (.some S)) : ∀ v w w', Rel w w' → S v w → S v w' := by
  unfold kdOf at h
  split at h
  · cases h
  · cases hs : spOf Bs k with
    | none => rw [hs] at h; cases h
    | some S' =>
      rw [hs] at h
      injection h with h
      injection h with h
      subst h
      exact spOf_stable Bs k S' hs
/-- The operations in a lawful order of their own. -/
def inOrd (l : List Oper) (ord : List Nat) : List (Nat × Oper) := ord.filterMap fun k => (l[k]?).map fun o => (k, o)
theorem inOrd_mem {l : List Oper} {ord : List Nat} : ∀ p ∈ inOrd l ord, l.toArray[p.1]? = .some p.2 := by
  intro p hp
  unfold inOrd at hp
  rw [List.mem_filterMap] at hp
  obtain ⟨k, _, hk⟩ := hp
  cases h : l[k]? with
  | none => rw [h] at hk; cases hk
  | some o => rw [h] at hk; injection hk with hk; subst hk; simpa using h
theorem wp_region3 {P : Program} {Rel : World → World → Prop} (T : Array Nat) (Bs : List (Nat × Sp Rel)) (Cs : List Nat) (Cl : World → Prop) (ord : List Nat) {id : Nat} {Q : Exit → Act → World → Prop} {a : Act} {w : World} {l : List Oper} (hm : P.follows .mixedOrders = true)
    (hL : (Region.noSelect l.toArray && (lex3 l.toArray Cs ((inOrd l ord).map (·.1)) (Array.replicate l.length false) && (inOrd l ord).length == l.length)) = true) (hB : befOk l.toArray T = true) (hb : barB l.toArray T (Bs.map (·.1)) Cs = true)
    (hrefl : ∀ w, Rel w w) (htr : ∀ a b c, Rel a b → Rel b c → Rel a c) (hQ : ∀ c (a : Act) x v w, Q (.panic c) (a.put x v) w → Q (.panic c) a w) (hcl : Cl { w with drawn := w.drawn + 1 })
    (h : wp3 P l.toArray T Rel Cl (kdOf Bs Cs) Q (inOrd l ord) { w with drawn := w.drawn + 1 } none a) : (Code.region id l.toArray true).wp P Q a w := by
  rw [Bool.and_eq_true, Bool.and_eq_true] at hL
  have hlen : (inOrd l ord).length = l.length := by simpa using hL.2.2
  refine wp_region_any hm (wpAny_of_3 (T := T) hrefl htr (kdOf_sp Bs Cs) _ _ { w with drawn := w.drawn + 1 } none _ _ (fun _ _ _ _ _ => trivial) (hrefl _) hcl (fun _ => trivial) ?_)
  have := wpAny3_lex (P := P) (Q := Q) (Cl := Cl) htr (kdOf_sp Bs Cs) hB (fun i j hi hj => ?_) hQ Cs (kdOf_C Bs Cs) hL.1 (inOrd l ord) (Array.replicate l.length false) { w with drawn := w.drawn + 1 } none a inOrd_mem hL.2.1 (fun k m hk => by
    exfalso
    by_cases h : k < l.length <;> simp [h] at hk) (fun _ _ _ _ _ => trivial) h
  · rw [hlen] at this; simpa using this
  · rw [kdOf_C] at hj
    have h1 := List.all_eq_true.1 hb j (by simpa using hj)
    have h2 := List.all_eq_true.1 h1 i (kdOf_B Bs Cs i hi)
    simpa using h2
end Go.Proofs.Ytcminppmmhinjaa.Rg
