/- A REGION THAT DRAWS ITS ORDER: (a) it yields one value and leaves the world: in every world of a class, or, if it is ordered with the barriers, in every world that Rel leads to; (b) it bears a specification that later steps keep; (c) anything else, a barrier. One walk in a lawful order serves every order. -/
import Derived.Test.YtdkemfimhdjdiaaSepW
import Derived.Scope
import Derived.Test.YtdkemfimhdjdiaaRefTapeB
import Derived.Test.YtdkemfimhdjdiaaSepR
import Derived.Deep.LoopGhost
namespace Go.Proofs.Ytdkemfimhdjdiaa.Rg4
set_option linter.unusedSimpArgs false
set_option linter.unusedVariables false
open Go Go.Proofs.Ytdkemfimhdjdiaa.Rg

/-- none: kind (a); some none: kind (c); some (some S): kind (b). -/
abbrev Kd := Option (Option (Value → World → Prop))

section
variable (P : Program) (ops : Array Oper) (T : Array Nat) (Rel : World → World → Prop) (ld : Nat → Bool) (Cl : World → Prop) (kd : Nat → Kd) (Q : Exit → Act → World → Prop)

def Inh4 (w0 : World) (F : Facts) : Prop := ∃ w, Rel w0 w ∧ Cl w ∧ All F w

def op4 (k : Nat) (K : World → Facts → Act → Prop) (w0 : World) (F : Facts) (a : Act) : Prop :=
  match ops[k]? with
  | .none => K w0 F a
  | .some o =>
    if Region.wanted o (yielded ops a.tmps) = true then
      match kd k with
      | .none => ∃ c, (∀ w, (ld k = true → Rel w0 w) → Cl w → stillAt P o a w c) ∧ K w0 F (a.put o.dst c)
      | .some (.some S) => (∀ w, Rel w0 w → Cl w → Pre ops T F k w → relAt P o a w (fun v w' => Rel w w' ∧ Cl w' ∧ S v w')) ∧ ∀ v, K w0 (upd F k (S v)) (a.put o.dst v)
      | .some .none => ∀ w, Rel w0 w → Cl w → All F w → o.wp P a w (fun a' w' => Cl w' ∧ K w' none a') Q ∨ (o.asks P a w ∧ LetsOut Q)
    else K w0 F (a.put o.dst undef)

def wpAny4 : Nat → Array Bool → World → Facts → Act → Prop
  | 0, listed, w0, F, a => Inh4 Rel Cl w0 F → Region.ready .any ops listed = [] ∧ ∀ w, Rel w0 w → Cl w → All F w → Q .normal a w
  | f + 1, listed, w0, F, a => Inh4 Rel Cl w0 F → (Region.ready .any ops listed = [] → ∀ w, Rel w0 w → Cl w → All F w → Q .normal a w) ∧
      ∀ i ∈ Region.ready .any ops listed, op4 P ops T Rel ld Cl kd Q i (wpAny4 f (listed.setIfInBounds i true)) w0 F a

/-- THE WALK IN THE ORDER OF THE TEXT. -/
def wp4 : List (Nat × Oper) → World → Facts → Act → Prop
  | [], w0, F, a => ∀ w, Rel w0 w → Cl w → All F w → Q .normal a w
  | (k, o) :: rest, w0, F, a =>
    if Region.wanted o (yielded ops a.tmps) = true then
      match kd k with
      | .none => ∃ c, (∀ w, (ld k = true → Rel w0 w) → Cl w → stillAt P o a w c) ∧ wp4 rest w0 F (a.put o.dst c)
      | .some (.some S) => (∀ w, Rel w0 w → Cl w → Pre ops T F k w → relAt P o a w (fun v w' => Rel w w' ∧ Cl w' ∧ S v w')) ∧
          ∀ v, (∃ w, Rel w0 w ∧ Cl w ∧ S v w) → wp4 rest w0 (upd F k (S v)) (a.put o.dst v)
      | .some .none => ∀ w, Rel w0 w → Cl w → All F w → o.wp P a w (fun a' w' => Cl w' ∧ wp4 rest w' none a') Q ∨ (o.asks P a w ∧ LetsOut Q)
    else wp4 rest w0 F (a.put o.dst undef)
end

def isB (kd : Nat → Kd) (k : Nat) : Bool := match kd k with | .some (.some _) => true | _ => false
def isC (kd : Nat → Kd) (k : Nat) : Bool := match kd k with | .some .none => true | _ => false
/-- Between a barrier and an operation of kind (b) the order is fixed. -/
def barB (ops : Array Oper) (T : Array Nat) (B C : List Nat) : Bool := C.all fun j => B.all fun i => bef ops T j i || bef ops T i j
def lex4 (ops : Array Oper) (C : List Nat) : List Nat → Array Bool → Bool
  | [], listed => (Region.ready .any ops listed).isEmpty
  | k :: ks, listed => (if C.contains k then decide (Region.ready .any ops listed = [k]) else (Region.ready .any ops listed).contains k && Region.free .any ops listed k) && lex4 ops C ks (listed.setIfInBounds k true)

section
variable {P : Program} {ops : Array Oper} {T : Array Nat} {Rel : World → World → Prop} {ld : Nat → Bool} {Cl : World → Prop} {kd : Nat → Kd} {Q : Exit → Act → World → Prop}

theorem inh4_upd_mono {w0 : World} {F : Facts} {j k : Nat} {S S' : World → Prop} (h : Inh4 Rel Cl w0 (upd (upd F j S') k S)) : Inh4 Rel Cl w0 (upd F k S) :=
  let ⟨w, h1, h0, h2⟩ := h; ⟨w, h1, h0, fun i => ⟨(h2 i).1.1, (h2 i).2⟩⟩
theorem inh4_upd {w0 : World} {F : Facts} {k : Nat} {S : World → Prop} (h : Inh4 Rel Cl w0 (upd F k S)) : Inh4 Rel Cl w0 F := let ⟨w, h1, h0, h2⟩ := h; ⟨w, h1, h0, fun i => (h2 i).1⟩
theorem wpAny4_of_inh {f : Nat} {listed : Array Bool} {w0 : World} {F : Facts} {a : Act} (h : Inh4 Rel Cl w0 F → wpAny4 P ops T Rel ld Cl kd Q f listed w0 F a) : wpAny4 P ops T Rel ld Cl kd Q f listed w0 F a := by
  cases f with
  | zero => intro hi; exact h hi hi
  | succ f => intro hi; exact h hi hi

/-- The walk over any order is one. -/
theorem wpAny_of_4 (hrefl : ∀ w, Rel w w) (htr : ∀ a b c, Rel a b → Rel b c → Rel a c) (hsp : ∀ k S, kd k = .some (.some S) → ∀ v w w', Rel w w' → S v w → S v w') :
    ∀ (f : Nat) (listed : Array Bool) (w0 : World) (F : Facts) (a : Act) (w : World), StableF Rel F → Rel w0 w → Cl w → All F w →
    wpAny4 P ops T Rel ld Cl kd Q f listed w0 F a → wpAny P .any ops Q f listed a w
  | 0, _, _, _, _, w, _, hw, hcl, hF, h => let h' := h ⟨w, hw, hcl, hF⟩; ⟨h'.1, h'.2 w hw hcl hF⟩
  | f + 1, listed, w0, F, a, w, hst, hw, hcl, hF, h => by
    have h' := h ⟨w, hw, hcl, hF⟩
    refine ⟨fun h0 => h'.1 h0 w hw hcl hF, fun i hi => ?_⟩
    have h1 := h'.2 i hi
    unfold op4 at h1
    unfold wpOp
    cases ho : ops[i]? with
    | none => simp only [ho] at h1; exact wpAny_of_4 hrefl htr hsp f _ w0 F a w hst hw hcl hF h1
    | some o =>
      simp only [ho] at h1
      by_cases hwant : Region.wanted o (yielded ops a.tmps) = true
      · simp only [hwant, if_true] at h1 ⊢
        cases hs : kd i with
        | none =>
          simp only [hs] at h1
          obtain ⟨c, h2, h3⟩ := h1
          left
          unfold Oper.wp
          rw [show (execOp a.eval o).run P w = .ok (.value c) w from h2 w (fun _ => hw) hcl]
          exact wpAny_of_4 hrefl htr hsp f _ w0 F _ w hst hw hcl hF h3
        | some k2 =>
          cases k2 with
          | none =>
            simp only [hs] at h1
            refine (h1 w hw hcl hF).imp (Oper.wp_mono fun a' w' ⟨hcl', h3⟩ => ?_) id
            exact wpAny_of_4 hrefl htr hsp f _ w' none a' w' (fun _ _ _ _ _ => trivial) (hrefl _) hcl' (fun _ => trivial) h3
          | some S =>
            simp only [hs] at h1
            obtain ⟨h2, h3⟩ := h1
            left
            refine wp_of_rel (h2 w hw hcl (fun i _ => hF i)) fun v w' ⟨hr, hcl', hS⟩ => ?_
            exact wpAny_of_4 hrefl htr hsp f _ w0 _ _ w' (stable_upd hst (hsp i S hs v)) (htr _ _ _ hw hr) hcl' (fun k => ⟨hst k w w' hr (hF k), fun _ => hS⟩) (h3 v)
      · simp only [hwant] at h1 ⊢
        exact wpAny_of_4 hrefl htr hsp f _ w0 F _ w hst hw hcl hF h1

/-- A barrier, put ahead of an operation of kind (a) that is apart from it. -/
theorem wpOp_put4 {j : Nat} {oi oj : Oper} {v : Value} (hj : ops[j]? = .some oj) (hap : oi.apart ops oj = true) (hsj : ∀ cs b, oj.op ≠ .select cs b)
    (hQ : ∀ c a w, Q (.panic c) (a.put oi.dst v) w → Q (.panic c) a w) {K : Act → World → Prop} {a : Act} {w : World}
    (h : oj.wp P (a.put oi.dst v) w K Q ∨ (oj.asks P (a.put oi.dst v) w ∧ LetsOut Q)) :
    oj.wp P a w (fun a' w' => (∃ u D, a' = ({ a with defers := D } : Act).put oj.dst u) ∧ K (a'.put oi.dst v) w') Q ∨ (oj.asks P a w ∧ LetsOut Q) := by
  obtain ⟨h1, h2, h3⟩ := Oper.apart_spec hap
  rcases h with h | ⟨hasks, hlets⟩
  case inr => exact .inr ⟨by unfold Oper.asks at *; rw [execOp_put oj hsj a oi.dst v h1] at hasks; exact hasks, hlets⟩
  refine .inl ?_
  unfold Oper.wp at *
  rw [execOp_put oj hsj a oi.dst v h1] at h
  generalize (execOp a.eval oj).run P w = r at *
  cases r with
  | ok n w' =>
    cases n <;> simp only [Oper.upon] at h ⊢
    case value u => exact ⟨⟨u, a.defers, rfl⟩, by rw [← Act.put_comm a v u h2]; exact h⟩
    case skip => exact ⟨⟨undef, a.defers, rfl⟩, by rw [← Act.put_comm a v undef h2]; exact h⟩
    case defer d =>
      refine ⟨⟨undef, d :: a.defers, rfl⟩, ?_⟩
      rw [← Act.put_comm _ v undef h2, ← Act.put_defers]
      exact h
    case enter f args =>
      refine Calls.mono h fun e w'' he => ?_
      cases e with
      | returned u => exact ⟨⟨u, a.defers, rfl⟩, by rw [← Act.put_comm a v u h2]; exact he⟩
      | panicked c => exact hQ _ _ _ he
      | outgrown => exact he
    case row row args => exact Rows.mono h fun u w'' he => ⟨⟨u, a.defers, rfl⟩, by rw [← Act.put_comm a v u h2]; exact he⟩
  | halt x w' =>
    cases x <;> simp only [Oper.upon] at h ⊢
    case panic u => exact hQ _ _ _ h

/-- **An operation of kind (a) or (b) that may come up now may be taken first.** -/
theorem wpAny4_first (htr : ∀ a b c, Rel a b → Rel b c → Rel a c) (hsp : ∀ k S, kd k = .some (.some S) → ∀ v w w', Rel w w' → S v w → S v w') (hB : befOk ops T = true)
    (hbar : ∀ i j, (isB kd i = true ∨ ld i = true) → isC kd j = true → bef ops T j i = true ∨ bef ops T i j = true) (hQ : ∀ c (a : Act) x v w, Q (.panic c) (a.put x v) w → Q (.panic c) a w)
    {i : Nat} {oi : Oper} (hi : ops[i]? = .some oi) (hic : isC kd i = false) (hsel : ∀ (j : Nat) (o : Oper) cs b, ops[j]? = .some o → o.op ≠ .select cs b) :
    ∀ (f : Nat) (listed : Array Bool) (w0 : World) (F : Facts) (a : Act), StableF Rel F → Closed ops T listed →
      (∀ j oj, ops[j]? = .some oj → j ≠ i → listed.getD j true = false → (∀ e ∈ oj.after, Region.binds .any e = true → e.on ≠ i) → oi.apart ops oj = true) →
      i ∈ Region.ready .any ops listed → op4 P ops T Rel ld Cl kd Q i (wpAny4 P ops T Rel ld Cl kd Q f (listed.setIfInBounds i true)) w0 F a →
      wpAny4 P ops T Rel ld Cl kd Q (f + 1) listed w0 F a := by
  intro f
  induction f with
  | zero =>
    intro listed w0 F a hst hc _ hr H hinh
    refine ⟨fun h => (by rw [h] at hr; cases hr), fun j hj => ?_⟩
    by_cases hji : j = i
    · subst hji; exact H
    · exfalso
      have hrj := ready_mono hj hji
      obtain ⟨w, hw, hcl, hF⟩ := hinh
      unfold op4 at H
      simp only [hi] at H
      by_cases hwant : Region.wanted oi (yielded ops a.tmps) = true
      · simp only [hwant, if_true] at H
        cases hs : kd i with
        | none =>
          simp only [hs] at H
          obtain ⟨c, h2, h3⟩ := H
          have := (h3 ⟨w, hw, hcl, hF⟩).1
          rw [this] at hrj; cases hrj
        | some k2 =>
          cases k2 with
          | none => unfold isC at hic; rw [hs] at hic; cases hic
          | some S =>
            simp only [hs] at H
            obtain ⟨h2, h3⟩ := H
            obtain ⟨v, w', hr', hcl', hS⟩ := relUpon_exists (h2 w hw hcl (fun i _ => hF i))
            have := (h3 v ⟨w', htr _ _ _ hw hr', hcl', fun k => ⟨hst k w w' hr' (hF k), fun _ => hS⟩⟩).1
            rw [this] at hrj; cases hrj
      · simp only [hwant] at H
        have := (H ⟨w, hw, hcl, hF⟩).1
        rw [this] at hrj; cases hrj
  | succ f ih =>
    intro listed w0 F a hst hc hfree hr H hinh
    refine ⟨fun h => (by rw [h] at hr; cases hr), fun j hj => ?_⟩
    by_cases hji : j = i
    · subst hji; exact H
    obtain ⟨hjun, oj, hoj, hall⟩ := mem_ready.1 hj
    have hnot : ∀ e ∈ oj.after, Region.binds .any e = true → e.on ≠ i := fun e he hb heq => by
      have h1 := hall e he hb
      have h0 := (mem_ready.1 hr).1
      rw [heq] at h1
      rcases Nat.lt_or_ge i listed.size with h' | h'
      · simp [h'] at h0 h1; rw [h0] at h1; cases h1
      · simp [Array.getElem?_eq_none h'] at h1
    have hap := hfree j oj hoj hji hjun hnot
    obtain ⟨a1, a2, a3⟩ := Oper.apart_spec hap
    have hseli := fun cs b => hsel i oi cs b hi
    have hselj := fun cs b => hsel j oj cs b hoj
    have hfree' : ∀ k ok, ops[k]? = .some ok → k ≠ i → (listed.setIfInBounds j true).getD k true = false →
        (∀ e ∈ ok.after, Region.binds .any e = true → e.on ≠ i) → oi.apart ops ok = true := fun k ok hk hki hun hno => by
      refine hfree k ok hk hki ?_ hno
      by_cases hjk : j = k
      · subst hjk; exact hjun
      · rw [getD_set_ne true hjk] at hun; exact hun
    have nij : ¬ bef ops T i j = true := not_bef hB hc hr hj
    have nji : ¬ bef ops T j i = true := not_bef hB hc hj hr
    have hc' := closed_set hB hc hj
    have hr' := ready_mono hr (Ne.symm hji)
    have hjr := ready_mono hj hji
    have exi : ∀ u D, execOp (({ a with defers := D } : Act).put oj.dst u).eval oi = execOp a.eval oi := fun u D => (execOp_put oi hseli { a with defers := D } oj.dst u a3).trans rfl
    have wai : ∀ u D, Region.wanted oi (yielded ops (({ a with defers := D } : Act).put oj.dst u).tmps) = Region.wanted oi (yielded ops a.tmps) := fun u D => (wanted_put oi { a with defers := D } oj.dst u a3).trans rfl
    have exi' : ∀ u, execOp (a.put oj.dst u).eval oi = execOp a.eval oi := fun u => exi u a.defers
    have wai' : ∀ u, Region.wanted oi (yielded ops (a.put oj.dst u).tmps) = Region.wanted oi (yielded ops a.tmps) := fun u => wai u a.defers
    have exj : ∀ v, execOp (a.put oi.dst v).eval oj = execOp a.eval oj := fun v => execOp_put oj hselj a oi.dst v a1
    have waj : ∀ v, Region.wanted oj (yielded ops (a.put oi.dst v).tmps) = Region.wanted oj (yielded ops a.tmps) := fun v => wanted_put oj a oi.dst v a1
    have comm : ∀ u v, (a.put oj.dst u).put oi.dst v = (a.put oi.dst v).put oj.dst u := fun u v => (Act.put_comm a v u a2).symm
    have lcomm : (listed.setIfInBounds j true).setIfInBounds i true = (listed.setIfInBounds i true).setIfInBounds j true := Array.setIfInBounds_comm _ _ hji
    -- j is a barrier: i is of kind (a), or passed over
    by_cases hjc : isC kd j = true ∧ Region.wanted oj (yielded ops a.tmps) = true
    · obtain ⟨hjc, hwj⟩ := hjc
      have hjk : kd j = .some .none := by
        unfold isC at hjc; revert hjc; cases kd j with
        | none => intro h; cases h
        | some x => cases x with
          | none => intro _; rfl
          | some S => intro h; cases h
      -- the value of i, at any defers
      obtain ⟨c, hcrun, hcont⟩ : ∃ c, (∀ (u : Value) (D : List Deferred) (w0' : World) (F' : Facts) (K : World → Facts → Act → Prop),
            K w0' F' ((({ a with defers := D } : Act).put oj.dst u).put oi.dst c) → op4 P ops T Rel ld Cl kd Q i K w0' F' (({ a with defers := D } : Act).put oj.dst u)) ∧
          wpAny4 P ops T Rel ld Cl kd Q (f + 1) (listed.setIfInBounds i true) w0 F (a.put oi.dst c) := by
        unfold op4 at H
        simp only [hi] at H
        by_cases hwant : Region.wanted oi (yielded ops a.tmps) = true
        · simp only [hwant, if_true] at H
          cases hs : kd i with
          | none =>
            simp only [hs] at H
            obtain ⟨c, h2, h3⟩ := H
            refine ⟨c, fun u D w0' F' K hK => ?_, h3⟩
            unfold op4
            simp only [hi, wai, hwant, if_true, hs]
            refine ⟨c, fun w hld hcl => ?_, hK⟩
            have := h2 w (fun hl => (by
              rcases hbar i j (.inr hl) hjc with h | h
              · exact absurd h nji
              · exact absurd h nij)) hcl
            unfold stillAt at *
            rw [exi]; exact this
          | some k2 =>
            cases k2 with
            | none => unfold isC at hic; rw [hs] at hic; cases hic
            | some S =>
              exfalso
              rcases hbar i j (.inl (by unfold isB; rw [hs])) hjc with h | h
              · exact nji h
              · exact nij h
        · simp only [hwant] at H
          refine ⟨undef, fun u D w0' F' K hK => ?_, H⟩
          unfold op4
          simp only [hi, wai, hwant]
          exact hK
      have s0 := (hcont hinh).2 j hjr
      unfold op4 at s0 ⊢
      simp only [hoj, waj, hwj, if_true, hjk] at s0 ⊢
      intro w hw hcl hF
      refine (wpOp_put4 hoj hap hselj (fun c a w h => hQ c a _ _ w h) (s0 w hw hcl hF)).imp (Oper.wp_mono fun a' w' ⟨⟨u, D, ha'⟩, hcl', hK⟩ => ⟨hcl', ?_⟩) id
      subst ha'
      refine ih _ w' none _ (fun _ _ _ _ _ => trivial) hc' hfree' hr' (hcrun u D w' none _ ?_)
      rw [lcomm]
      exact hK
    -- the instances of i
    obtain ⟨Inst, hex, hinst, hback⟩ : ∃ Inst : Value → (Facts → Facts) → Prop,
        (∃ v U, Inst v U ∧ Inh4 Rel Cl w0 (U F)) ∧
        (∀ v U, Inst v U → (∀ w, Pre ops T (U F) j w ↔ Pre ops T F j w) ∧ (∀ G S, U (upd G j S) = upd (U G) j S) ∧ (∀ G S, Inh4 Rel Cl w0 (U (upd G j S)) → Inh4 Rel Cl w0 (U G)) ∧ wpAny4 P ops T Rel ld Cl kd Q (f + 1) (listed.setIfInBounds i true) w0 (U F) (a.put oi.dst v)) ∧
        (∀ (G : Facts) (u : Value) (K : World → Facts → Act → Prop), (∀ w, Pre ops T G i w → Pre ops T F i w) → (∀ v U, Inst v U → K w0 (U G) ((a.put oj.dst u).put oi.dst v)) →
          op4 P ops T Rel ld Cl kd Q i K w0 G (a.put oj.dst u)) := by
      obtain ⟨w, hw, hcl, hF⟩ := hinh
      unfold op4 at H
      simp only [hi] at H
      by_cases hwant : Region.wanted oi (yielded ops a.tmps) = true
      · simp only [hwant, if_true] at H
        cases hs : kd i with
        | none =>
          simp only [hs] at H
          obtain ⟨c, h2, h3⟩ := H
          refine ⟨fun v U => v = c ∧ U = id, ⟨c, id, ⟨rfl, rfl⟩, w, hw, hcl, hF⟩, ?_, ?_⟩
          · rintro v U ⟨rfl, rfl⟩
            exact ⟨fun _ => Iff.rfl, fun _ _ => rfl, fun _ _ h => inh4_upd h, h3⟩
          · intro G u K hG hK
            unfold op4
            simp only [hi, wai', hwant, if_true, hs]
            refine ⟨c, fun w hld hcl => ?_, hK c id ⟨rfl, rfl⟩⟩
            have := h2 w hld hcl
            unfold stillAt at *
            rw [exi']; exact this
        | some k2 =>
          cases k2 with
          | none => unfold isC at hic; rw [hs] at hic; cases hic
          | some S =>
            simp only [hs] at H
            obtain ⟨h2, h3⟩ := H
            obtain ⟨v0, w', hr0, hcl0, hS0⟩ := relUpon_exists (h2 w hw hcl (fun i _ => hF i))
            refine ⟨fun v U => U = fun G => upd G i (S v), ⟨v0, _, rfl, w', htr _ _ _ hw hr0, hcl0, fun k => ⟨hst k w w' hr0 (hF k), fun _ => hS0⟩⟩, ?_, ?_⟩
            · rintro v U rfl
              exact ⟨fun w => pre_upd nji, fun G S' => upd_comm _ _ _ _ _, fun G S' h => inh4_upd_mono h, h3 v⟩
            · intro G u K hG hK
              unfold op4
              simp only [hi, wai', hwant, if_true, hs]
              refine ⟨fun w hw hcl hp => ?_, fun v => hK v _ rfl⟩
              have := h2 w hw hcl (hG w hp)
              unfold relAt at *
              rw [exi']; exact this
      · simp only [hwant] at H
        refine ⟨fun v U => v = undef ∧ U = id, ⟨undef, id, ⟨rfl, rfl⟩, w, hw, hcl, hF⟩, ?_, ?_⟩
        · rintro v U ⟨rfl, rfl⟩
          exact ⟨fun _ => Iff.rfl, fun _ _ => rfl, fun _ _ h => inh4_upd h, H⟩
        · intro G u K hG hK
          unfold op4
          simp only [hi, wai', hwant]
          exact hK undef id ⟨rfl, rfl⟩
    obtain ⟨v0, U0, hI0, hinh0⟩ := hex
    have stepj : ∀ v U, Inst v U → Inh4 Rel Cl w0 (U F) → op4 P ops T Rel ld Cl kd Q j (wpAny4 P ops T Rel ld Cl kd Q f ((listed.setIfInBounds i true).setIfInBounds j true)) w0 (U F) (a.put oi.dst v) :=
      fun v U hI hn => ((hinst v U hI).2.2.2 hn).2 j hjr
    have s0 := stepj v0 U0 hI0 hinh0
    unfold op4 at s0 ⊢
    simp only [hoj, waj] at s0 ⊢
    by_cases hwant : Region.wanted oj (yielded ops a.tmps) = true
    · simp only [hwant, if_true] at s0 ⊢
      cases hs : kd j with
      | none =>
        simp only [hs] at s0 ⊢
        obtain ⟨c, hc1, hc2⟩ := s0
        have hstill : ∀ w, (ld j = true → Rel w0 w) → Cl w → stillAt P oj a w c := fun w hld hcl => by
          have := hc1 w hld hcl
          unfold stillAt at *
          rw [← exj v0]; exact this
        refine ⟨c, hstill, ih _ w0 F _ hst hc' hfree' hr' (hback F c _ (fun _ h => h) fun v U hI => wpAny4_of_inh fun hn => ?_)⟩
        have sv := stepj v U hI hn
        unfold op4 at sv
        simp only [hoj, waj, hwant, if_true, hs] at sv
        obtain ⟨c', hc1', hc2'⟩ := sv
        obtain ⟨w, hw, hcl, hF⟩ := hn
        have e1 := hc1' w (fun _ => hw) hcl
        have e2 := hstill w (fun _ => hw) hcl
        unfold stillAt at e1 e2
        rw [exj, e2] at e1
        injection e1 with e1 _
        injection e1 with e1
        subst e1
        rw [lcomm, comm]
        exact hc2'
      | some k2 =>
        cases k2 with
        | none => exact absurd ⟨by unfold isC; rw [hs], hwant⟩ hjc
        | some S =>
          simp only [hs] at s0 ⊢
          obtain ⟨hc1, hc2⟩ := s0
          refine ⟨fun w hw hcl hp => ?_, fun u => ih _ w0 _ _ (stable_upd hst (hsp j S hs u)) hc' hfree' hr' (hback _ u _ (fun w h => (pre_upd nij).1 h) fun v U hI => wpAny4_of_inh fun hn => ?_)⟩
          · have := hc1 w hw hcl (((hinst v0 U0 hI0).1 w).2 hp)
            unfold relAt at *
            rw [← exj v0]; exact this
          · have hn' : Inh4 Rel Cl w0 (U F) := (hinst v U hI).2.2.1 F _ hn
            have sv := stepj v U hI hn'
            unfold op4 at sv
            simp only [hoj, waj, hwant, if_true, hs] at sv
            rw [lcomm, comm, (hinst v U hI).2.1]
            exact sv.2 u
    · simp only [hwant] at s0 ⊢
      refine ih _ w0 F _ hst hc' hfree' hr' (hback F undef _ (fun _ h => h) fun v U hI => wpAny4_of_inh fun hn => ?_)
      have sv := stepj v U hI hn
      unfold op4 at sv
      simp only [hoj, waj, hwant] at sv
      rw [lcomm, comm]
      exact sv

theorem wpAny4_lex (htr : ∀ a b c, Rel a b → Rel b c → Rel a c) (hsp : ∀ k S, kd k = .some (.some S) → ∀ v w w', Rel w w' → S v w → S v w') (hB : befOk ops T = true)
    (hbar : ∀ i j, (isB kd i = true ∨ ld i = true) → isC kd j = true → bef ops T j i = true ∨ bef ops T i j = true) (hQ : ∀ c (a : Act) x v w, Q (.panic c) (a.put x v) w → Q (.panic c) a w)
    (C : List Nat) (hC : ∀ k, isC kd k = C.contains k) (hs : Region.noSelect ops = true) : ∀ (l : List (Nat × Oper)) (listed : Array Bool) (w0 : World) (F : Facts) (a : Act), (∀ p ∈ l, ops[p.1]? = .some p.2) →
    lex4 ops C (l.map (·.1)) listed = true → Closed ops T listed → StableF Rel F → wp4 P ops T Rel ld Cl kd Q l w0 F a → wpAny4 P ops T Rel ld Cl kd Q l.length listed w0 F a
  | [], _, _, _, _, _, hL, _, _, h => fun _ => ⟨by simpa [lex4] using hL, h⟩
  | (k, o) :: l, listed, w0, F, a, hl, hL, hc, hst, h => by
    have h0 : ops[k]? = .some o := hl (k, o) (by simp)
    simp only [List.map_cons, lex4, Bool.and_eq_true] at hL
    obtain ⟨hL1, hL'⟩ := hL
    have hl' : ∀ p ∈ l, ops[p.1]? = .some p.2 := fun p hp => hl p (by simp [hp])
    by_cases hkc : C.contains k = true
    · rw [if_pos hkc, decide_eq_true_eq] at hL1
      have hr' : k ∈ Region.ready .any ops listed := by rw [hL1]; simp
      have IH := fun w0 F a hst h => wpAny4_lex htr hsp hB hbar hQ C hC hs l (listed.setIfInBounds k true) w0 F a hl' hL' (closed_set hB hc hr') hst h
      intro hinh
      refine ⟨fun h => (by rw [hL1] at h; cases h), fun i hi => ?_⟩
      rw [hL1] at hi
      obtain rfl : i = k := by simpa using hi
      have hkk : kd i = .some .none := by
        have := hC i
        rw [hkc] at this
        unfold isC at this; revert this; cases kd i with
        | none => intro h; cases h
        | some x => cases x with
          | none => intro _; rfl
          | some S => intro h; cases h
      unfold op4
      unfold wp4 at h
      simp only [h0]
      by_cases hwant : Region.wanted o (yielded ops a.tmps) = true
      · simp only [hwant, if_true, hkk] at h ⊢
        intro w hw hcl hF
        exact (h w hw hcl hF).imp (Oper.wp_mono fun a' w' ⟨h1, h2⟩ => ⟨h1, IH w' none a' (fun _ _ _ _ _ => trivial) h2⟩) id
      · simp only [hwant] at h ⊢
        exact IH _ _ _ hst h
    · rw [if_neg hkc, Bool.and_eq_true] at hL1
      obtain ⟨hr, hf⟩ := hL1
      have hr' : k ∈ Region.ready .any ops listed := by simpa using hr
      have IH := fun w0 F a hst h => wpAny4_lex htr hsp hB hbar hQ C hC hs l (listed.setIfInBounds k true) w0 F a hl' hL' (closed_set hB hc hr') hst h
      have hkc' : isC kd k = false := by rw [hC]; simpa using hkc
      refine wpAny4_first htr hsp hB hbar hQ h0 hkc' (Region.noSelect_spec hs) l.length listed w0 F a hst hc (Region.free_spec h0 hf) hr' ?_
      unfold op4
      unfold wp4 at h
      simp only [h0]
      by_cases hwant : Region.wanted o (yielded ops a.tmps) = true
      · simp only [hwant, if_true] at h ⊢
        cases hs : kd k with
        | none =>
          simp only [hs] at h ⊢
          obtain ⟨c, h1, h2⟩ := h
          exact ⟨c, h1, IH _ _ _ hst h2⟩
        | some k2 =>
          cases k2 with
          | none => unfold isC at hkc'; rw [hs] at hkc'; cases hkc'
          | some S =>
            simp only [hs] at h ⊢
            obtain ⟨h1, h2⟩ := h
            exact ⟨h1, fun v => wpAny4_of_inh fun ⟨w, hw, hcl, hF⟩ => IH _ _ _ (stable_upd hst (hsp k S hs v)) (h2 v ⟨w, hw, hcl, (hF k).2 rfl⟩)⟩
      · simp only [hwant] at h ⊢
        exact IH _ _ _ hst h

section steps
variable {w0 : World} {o : Oper} {rest : List (Nat × Oper)} {k : Nat} {F : Facts} {a : Act}
theorem w4_nil (h : ∀ w, Rel w0 w → Cl w → All F w → Q .normal a w) : wp4 P ops T Rel ld Cl kd Q [] w0 F a := h
theorem w4_skip (hw : Region.wanted o (yielded ops a.tmps) = false) (h : wp4 P ops T Rel ld Cl kd Q rest w0 F (a.put o.dst undef)) : wp4 P ops T Rel ld Cl kd Q ((k, o) :: rest) w0 F a := by
  unfold wp4; rw [if_neg (by rw [hw]; decide)]; exact h
theorem w4_pure (hw : Region.wanted o (yielded ops a.tmps) = true) (hs : kd k = .none) (h : ∃ c, (∀ w, (ld k = true → Rel w0 w) → Cl w → (execOp a.eval o).run P w = .ok (.value c) w) ∧ wp4 P ops T Rel ld Cl kd Q rest w0 F (a.put o.dst c)) :
    wp4 P ops T Rel ld Cl kd Q ((k, o) :: rest) w0 F a := by
  unfold wp4; rw [if_pos hw, hs]; exact h
theorem w4_any (hw : Region.wanted o (yielded ops a.tmps) = true) (hs : kd k = .none) (h : ∃ c, (∀ w, (execOp a.eval o).run P w = .ok (.value c) w) ∧ wp4 P ops T Rel ld Cl kd Q rest w0 F (a.put o.dst c)) :
    wp4 P ops T Rel ld Cl kd Q ((k, o) :: rest) w0 F a := w4_pure hw hs (let ⟨c, h1, h2⟩ := h; ⟨c, fun w _ _ => h1 w, h2⟩)
theorem w4_read (hw : Region.wanted o (yielded ops a.tmps) = true) (hs : kd k = .none) (hl : ld k = true) (h : ∃ c, (∀ w, Rel w0 w → Cl w → (execOp a.eval o).run P w = .ok (.value c) w) ∧ wp4 P ops T Rel ld Cl kd Q rest w0 F (a.put o.dst c)) :
    wp4 P ops T Rel ld Cl kd Q ((k, o) :: rest) w0 F a := w4_pure hw hs (let ⟨c, h1, h2⟩ := h; ⟨c, fun w q => h1 w (q hl), h2⟩)
theorem w4_cl (hw : Region.wanted o (yielded ops a.tmps) = true) (hs : kd k = .none) (h : ∃ c, (∀ w, Cl w → (execOp a.eval o).run P w = .ok (.value c) w) ∧ wp4 P ops T Rel ld Cl kd Q rest w0 F (a.put o.dst c)) :
    wp4 P ops T Rel ld Cl kd Q ((k, o) :: rest) w0 F a := w4_pure hw hs (let ⟨c, h1, h2⟩ := h; ⟨c, fun w _ => h1 w, h2⟩)
theorem w4_some {S : Value → World → Prop} (hw : Region.wanted o (yielded ops a.tmps) = true) (hs : kd k = .some (.some S)) (hc : ∀ w, Rel w0 w → Cl w → Pre ops T F k w → relAt P o a w (fun v w' => Rel w w' ∧ Cl w' ∧ S v w'))
    (h : ∀ v, (∃ w, Rel w0 w ∧ Cl w ∧ S v w) → wp4 P ops T Rel ld Cl kd Q rest w0 (upd F k (S v)) (a.put o.dst v)) : wp4 P ops T Rel ld Cl kd Q ((k, o) :: rest) w0 F a := by
  unfold wp4; rw [if_pos hw, hs]; exact ⟨hc, h⟩
theorem w4_bar (hw : Region.wanted o (yielded ops a.tmps) = true) (hs : kd k = .some .none)
    (h : ∀ w, Rel w0 w → Cl w → All F w → ∀ K : Act → World → Prop, (∀ a' w', Cl w' ∧ wp4 P ops T Rel ld Cl kd Q rest w' none a' → K a' w') → o.wp P a w K Q) : wp4 P ops T Rel ld Cl kd Q ((k, o) :: rest) w0 F a := by
  unfold wp4; rw [if_pos hw, hs]
  exact fun w hr hcl hF => .inl (h w hr hcl hF _ fun _ _ q => q)
end steps
end
/-- What is asked of a panic does not look at the slots. -/
def PB (Q : Exit → Act → World → Prop) : Prop := ∀ c (a : Act) x v w, Q (.panic c) (a.put x v) w → Q (.panic c) a w
theorem pb_then {K : Act → World → Prop} {Q : Exit → Act → World → Prop} (h : PB Q) : PB (Exit.then K Q) := fun c a x v w q => h c a x v w q
theorem pb_inBlock {i : Nat} {Q : Exit → Act → World → Prop} (h : PB Q) : PB (Exit.inBlock i Q) := fun c a x v w q => h c a x v w q
theorem pb_noGoto {Q : Exit → Act → World → Prop} (h : PB Q) : PB (Exit.noGoto Q) := fun c a x v w q => h c a x v w q
theorem pb_body {P : Program} {fn : Func} {R : Ending → World → Prop} : PB (bodyPost P fn R) := fun c a x v w q => ⟨by cases x <;> exact q.1, q.2⟩
theorem leaves0 {P : Program} {fn : Func} {R : Ending → World → Prop} {tmps tmps' : Array Value} (hr : fn.results = #[]) : ∀ {ds : List Deferred} {u : FrameMode} {w : World}, Leaves P fn tmps R ds u w → Leaves P fn tmps' R ds u w
  | [], .run, _, h => h
  | [], .returning, _, ⟨v, h1, h2⟩ => by
    rw [results_none hr] at h1
    exact ⟨v, by rw [results_none hr]; exact h1, h2⟩
  | [], .panicking _, _, h => h
  | _ :: _, _, _, ⟨hu, fv, cap, f, args, ht, hi, hc⟩ => ⟨hu, fv, cap, f, args, ht, hi, fun c cs hm => by
    obtain ⟨e, u', w', fr, h1, h2⟩ := hc c cs hm
    refine ⟨e, u', w', fr, ?_, h2⟩
    cases e with
    | returned v => exact leaves0 hr h1
    | panicked ch => exact leaves0 hr h1
    | outgrown => exact h1⟩
theorem pb_bodyD {P : Program} {fn : Func} {R : Ending → World → Prop} (hr : fn.results = #[]) : PB (bodyPostD P fn R) := fun c a x v w q => by
  cases x with
  | none => exact q
  | some x => exact leaves0 hr q
/-- A guard's Bool is there, as it is wanted, or not. -/
theorem want_of {ops : Array Oper} {o : Oper} {a : Act} (g d : Nat) (gb : Bool) (h : o.guard = some (g, gb)) (hd : (ops[g]?).bind (·.dst) = some d) (ht : a.tmps[d]? = some (.bool gb)) : Region.wanted o (yielded ops a.tmps) = true := by
  simp [Region.wanted, yielded, h, hd, ht]
theorem unwant_of {ops : Array Oper} {o : Oper} {a : Act} (g d : Nat) (gb : Bool) (h : o.guard = some (g, gb)) (hd : (ops[g]?).bind (·.dst) = some d) (ht : a.tmps[d]? = some (.bool (!gb))) : Region.wanted o (yielded ops a.tmps) = false := by
  simp [Region.wanted, yielded, h, hd, ht]
theorem unwant_nil {ops : Array Oper} {o : Oper} {a : Act} (g d : Nat) (gb : Bool) (h : o.guard = some (g, gb)) (hd : (ops[g]?).bind (·.dst) = some d) (ht : a.tmps[d]? = some undef) : Region.wanted o (yielded ops a.tmps) = false := by
  simp [Region.wanted, yielded, h, hd, ht, undef]
theorem want_none {ops : Array Oper} {o : Oper} {a : Act} (h : o.guard = .none) : Region.wanted o (yielded ops a.tmps) = true := by
  simp [Region.wanted, h]
/-- The kinds: the listed specifications; the listed barriers; all else is of kind (a). -/
def kdOf {Rel : World → World → Prop} (Bs : List (Nat × Sp Rel)) (Cs : List Nat) (k : Nat) : Kd := if Cs.contains k then .some .none else (spOf Bs k).map .some
theorem kdOf_C {Rel : World → World → Prop} (Bs : List (Nat × Sp Rel)) (Cs : List Nat) (k : Nat) : isC (kdOf Bs Cs) k = Cs.contains k := by
  unfold isC kdOf
  cases h : Cs.contains k
  · simp only [Bool.false_eq_true, if_false]
    cases spOf Bs k <;> rfl
  · rfl
theorem kdOf_B {Rel : World → World → Prop} (Bs : List (Nat × Sp Rel)) (Cs : List Nat) (k : Nat) (h : isB (kdOf Bs Cs) k = true) : k ∈ Bs.map (·.1) := by
  unfold isB kdOf at h
  cases h' : Cs.contains k
  · rw [h'] at h
    simp only [Bool.false_eq_true, if_false] at h
    clear h'
    induction Bs with
    | nil => simp [spOf] at h
    | cons p Bs ih =>
      obtain ⟨i, s⟩ := p
      unfold spOf at h
      by_cases hk : k = i
      · simp [hk]
      · rw [if_neg hk] at h
        simp only [List.map_cons, List.mem_cons]
        exact .inr (ih h)
  · rw [h'] at h; simp at h
theorem kdOf_sp {Rel : World → World → Prop} (Bs : List (Nat × Sp Rel)) (Cs : List Nat) (k : Nat) (S : Value → World → Prop) (h : kdOf Bs Cs k = .some (.some S)) : ∀ v w w', Rel w w' → S v w → S v w' := by
  unfold kdOf at h
  split at h
  · cases h
  · cases hs : spOf Bs k with
    | none => rw [hs] at h; cases h
    | some S' =>
      rw [hs] at h
      injection h with h
      injection h with h
      subst h
      exact spOf_stable Bs k S' hs
/-- The operations in a lawful order of their own. -/
def inOrd (l : List Oper) (ord : List Nat) : List (Nat × Oper) := ord.filterMap fun k => (l[k]?).map fun o => (k, o)
theorem inOrd_mem {l : List Oper} {ord : List Nat} : ∀ p ∈ inOrd l ord, l.toArray[p.1]? = .some p.2 := by
  intro p hp
  unfold inOrd at hp
  rw [List.mem_filterMap] at hp
  obtain ⟨k, _, hk⟩ := hp
  cases h : l[k]? with
  | none => rw [h] at hk; cases hk
  | some o => rw [h] at hk; injection hk with hk; subst hk; simpa using h
theorem wp_region4 {P : Program} {Rel : World → World → Prop} (T : Array Nat) (Bs : List (Nat × Sp Rel)) (Cs Ls : List Nat) (Cl : World → Prop) (ord : List Nat) {id : Nat} {Q : Exit → Act → World → Prop} {a : Act} {w : World} {l : List Oper} (hm : P.follows .mixedOrders = true)
    (hL : (Region.noSelect l.toArray && (lex4 l.toArray Cs ((inOrd l ord).map (·.1)) (Array.replicate l.length false) && (inOrd l ord).length == l.length)) = true) (hB : befOk l.toArray T = true) (hb : barB l.toArray T (Bs.map (·.1) ++ Ls) Cs = true)
    (hrefl : ∀ w, Rel w w) (htr : ∀ a b c, Rel a b → Rel b c → Rel a c) (hQ : ∀ c (a : Act) x v w, Q (.panic c) (a.put x v) w → Q (.panic c) a w) (hcl : Cl { w with drawn := w.drawn + 1 })
    (h : wp4 P l.toArray T Rel (fun k => Ls.contains k) Cl (kdOf Bs Cs) Q (inOrd l ord) { w with drawn := w.drawn + 1 } none a) : (Code.region id l.toArray true).wp P Q a w := by
  rw [Bool.and_eq_true, Bool.and_eq_true] at hL
  have hlen : (inOrd l ord).length = l.length := by simpa using hL.2.2
  refine wp_region_any hm (wpAny_of_4 (T := T) (ld := fun k => Ls.contains k) hrefl htr (kdOf_sp Bs Cs) _ _ { w with drawn := w.drawn + 1 } none _ _ (fun _ _ _ _ _ => trivial) (hrefl _) hcl (fun _ => trivial) ?_)
  have := wpAny4_lex (P := P) (Q := Q) (ld := fun k => Ls.contains k) (Cl := Cl) htr (kdOf_sp Bs Cs) hB (fun i j hi hj => ?_) hQ Cs (kdOf_C Bs Cs) hL.1 (inOrd l ord) (Array.replicate l.length false) { w with drawn := w.drawn + 1 } none a inOrd_mem hL.2.1 (fun k m hk => by
    exfalso
    by_cases h : k < l.length <;> simp [h] at hk) (fun _ _ _ _ _ => trivial) h
  · rw [hlen] at this; simpa using this
  · rw [kdOf_C] at hj
    have h1 := List.all_eq_true.1 hb j (by simpa using hj)
    have h2 := List.all_eq_true.1 h1 i (by
      rw [List.mem_append]
      rcases hi with hi | hi
      · exact .inl (kdOf_B Bs Cs i hi)
      · exact .inr (by simpa using hi))
    simpa using h2
/-- Where nothing but the barriers touches the world. -/
theorem wp_region4_eq {P : Program} (T : Array Nat) (Cs Ls : List Nat) (Cl : World → Prop) (ord : List Nat) {id : Nat} {Q : Exit → Act → World → Prop} {a : Act} {w : World} {l : List Oper} (hm : P.follows .mixedOrders = true)
    (hL : (Region.noSelect l.toArray && (lex4 l.toArray Cs ((inOrd l ord).map (·.1)) (Array.replicate l.length false) && (inOrd l ord).length == l.length)) = true) (hB : befOk l.toArray T = true) (hb : barB l.toArray T Ls Cs = true)
    (hQ : ∀ c (a : Act) x v w, Q (.panic c) (a.put x v) w → Q (.panic c) a w) (hcl : Cl { w with drawn := w.drawn + 1 })
    (h : wp4 P l.toArray T (· = ·) (fun k => Ls.contains k) Cl (kdOf (Rel := (· = ·)) [] Cs) Q (inOrd l ord) { w with drawn := w.drawn + 1 } none a) : (Code.region id l.toArray true).wp P Q a w :=
  wp_region4 T [] Cs Ls Cl ord hm hL hB (by simpa using hb) (fun _ => rfl) (fun _ _ _ h k => h.trans k) hQ hcl h
attribute [irreducible] wp4
end Go.Proofs.Ytdkemfimhdjdiaa.Rg4

namespace Go.Proofs.Ytdkemfimhdjdiaa
set_option linter.unusedSimpArgs false
set_option linter.unusedVariables false
open Go Go.RowKit
theorem Own.refUp {fr al : Nat → Prop} {w w' : World} {t : Nat} {vs0 vs : List Value} (st : Own fr al w [blkI t vs0] w) (hm : MutO (fun k => k = t) w w') (hb : Blk w' t vs) : Own fr al w [blkI t vs] w' :=
  st.upd (i := 0) (I' := blkI t vs) rfl fun e s ⟨h1, h2⟩ h3 h4 => ⟨e, s, ⟨h1, hb⟩, fun b hb => ⟨Nat.lt_of_lt_of_le (h3 b (.inl hb)) hm.size, .inl hb⟩, fun b hb => ⟨Nat.lt_of_lt_of_le (h3 b (.inr hb)) hm.size, .inr (.inl hb)⟩, h4, hm.mono fun k hk => by obtain rfl : k = t := hk; exact h1⟩
/-- The reference's tape: what is left, and the error. -/
def refI (t : Nat) (res : Except Int (List UInt8)) : It where
  P e s w := ∃ xs n, (match res with | .ok ys => xs = ys ∧ n = 0 | .error er => n = er ∧ er ≠ 0) ∧ (blkI t [S xs, .int .i64 n]).P e s w
  st := fun ⟨xs, n, h1, h2⟩ hag => ⟨xs, n, h1, (blkI t [S xs, .int .i64 n]).st h2 hag⟩
  facts _ := True
  ok := fun _ => trivial
theorem Own.refOk {fr al : Nat → Prop} {w0 w : World} {L : List It} (st : Own fr al w0 L w) {i t : Nat} {xs : List UInt8} (hi : L[i]? = some (refI t (.ok xs))) : Own fr al w0 (L.set i (blkI t [S xs, .int .i64 0])) w :=
  st.conv hi fun e s ⟨ys, n, ⟨h1, h2⟩, h3⟩ h4 => by subst h1 h2; exact ⟨e, s, h3, fun _ q => q, fun _ q => .inr q, h4⟩
theorem Own.refMk {fr al : Nat → Prop} {w0 w : World} {L : List It} (st : Own fr al w0 L w) {i t : Nat} {xs : List UInt8} (hi : L[i]? = some (blkI t [S xs, .int .i64 0])) : Own fr al w0 (L.set i (refI t (.ok xs))) w :=
  st.conv hi fun e s h3 h4 => ⟨e, s, ⟨xs, 0, ⟨rfl, rfl⟩, h3⟩, fun _ q => q, fun _ q => .inr q, h4⟩
theorem Own.refMkE {fr al : Nat → Prop} {w0 w : World} {L : List It} (st : Own fr al w0 L w) {i t : Nat} {xs : List UInt8} {er : Int} (hi : L[i]? = some (blkI t [S xs, .int .i64 er])) (he : er ≠ 0) : Own fr al w0 (L.set i (refI t (.error er))) w :=
  st.conv hi fun e s h3 h4 => ⟨e, s, ⟨xs, er, ⟨rfl, he⟩, h3⟩, fun _ q => q, fun _ q => .inr q, h4⟩
theorem Own.refErr {fr al : Nat → Prop} {w0 w : World} {L : List It} (st : Own fr al w0 L w) {i t : Nat} {er : Int} (hi : L[i]? = some (refI t (.error er))) : ∃ xs, er ≠ 0 ∧ Own fr al w0 (L.set i (blkI t [S xs, .int .i64 er])) w := by
  obtain ⟨e0, s0, ⟨xs, n, ⟨h1, h1'⟩, h2⟩, _⟩ := st.get hi
  subst h1
  refine ⟨xs, h1', st.conv hi fun e s ⟨ys, m, ⟨q1, q1'⟩, q2⟩ h4 => ?_⟩
  subst q1
  have e1 := h2.2.cell 0
  have e2 := q2.2.cell 0
  rw [e1] at e2
  simp at e2
  rw [← e2] at q2
  exact ⟨e, s, q2, fun _ q => q, fun _ q => .inr q, h4⟩
/-- What a method of the reference's tape does: the value, and what is left. -/
def RefC {α : Type} (fr al : Nat → Prop) (w : World) (t : Nat) (res : Except Int (α × List UInt8)) (z : Value) (vl : α → Value) (en : Ending) (w' : World) : Prop :=
  match res with
  | .error e => en = .returned z ∧ Own fr al w [refI t (.error e)] w'
  | .ok (x, ys) => en = .returned (vl x) ∧ Own fr al w [refI t (.ok ys)] w'
theorem rdNum_er {xs : List UInt8} {e : Int} (h : rdNum xs = .error e) : e ≠ 0 := rdNum_err h
theorem rdNumber_er {most : Int} {xs : List UInt8} {e : Int} (h : rdNumber most xs = .error e) : e ≠ 0 := by
  unfold rdNumber at h
  cases hr : rdNum xs with
  | error e' => rw [hr] at h; simp at h; subst h; exact rdNum_er hr
  | ok p =>
    obtain ⟨n, ys⟩ := p
    rw [hr] at h
    simp only at h
    split at h
    · simp at h; subst h; decide
    · simp at h
theorem rdText_er {most : Int} {xs : List UInt8} {e : Int} (h : rdText most xs = .error e) : e ≠ 0 := by
  unfold rdText at h
  cases hr : rdNum xs with
  | error e' => rw [hr] at h; simp at h; subst h; exact rdNum_er hr
  | ok p =>
    obtain ⟨n, ys⟩ := p
    rw [hr] at h
    simp only at h
    split at h
    · simp at h; subst h; decide
    · split at h
      · simp at h; subst h; decide
      · simp at h
theorem refNumber_c {fr al : Nat → Prop} {w : World} {t : Nat} {xs : List UInt8} (st : Own fr al w [refI t (.ok xs)] w) (most : Int) :
    Calls Try.prog 80 #[.pointer (some ⟨t, 0, none⟩), .int .i64 most] w (RefC fr al w t (rdNumber most xs) (.int .i64 0) fun n => .int .i64 (n : Int)) := by
  have st1 := st.refOk (i := 0) get0
  refine (refTNumber_any w t xs most (st1.blk (i := 0) rfl)).mono ?_
  rintro en w' ⟨hm, h⟩
  unfold RefC
  cases hr : rdNumber most xs with
  | error e => rw [hr] at h; obtain ⟨h1, s, h2⟩ := h; exact ⟨h1, (st1.refUp hm h2).refMkE (i := 0) rfl (rdNumber_er hr)⟩
  | ok p => obtain ⟨n, ys⟩ := p; rw [hr] at h; exact ⟨h.1, (st1.refUp hm h.2).refMk (i := 0) rfl⟩
theorem refText_c {fr al : Nat → Prop} {w : World} {t : Nat} {xs : List UInt8} (st : Own fr al w [refI t (.ok xs)] w) (most : Int) (hl : xs.length ≤ 100000000000) :
    Calls Try.prog 81 #[.pointer (some ⟨t, 0, none⟩), .int .i64 most] w (RefC fr al w t (rdText most xs) (S []) fun bs => S bs) := by
  have st1 := st.refOk (i := 0) get0
  refine (refTText_any w t xs most (st1.blk (i := 0) rfl) hl).mono ?_
  rintro en w' ⟨hm, h⟩
  unfold RefC
  cases hr : rdText most xs with
  | error e => rw [hr] at h; obtain ⟨h1, s, h2⟩ := h; exact ⟨h1, (st1.refUp hm h2).refMkE (i := 0) rfl (rdText_er hr)⟩
  | ok p => obtain ⟨n, ys⟩ := p; rw [hr] at h; exact ⟨h.1, (st1.refUp hm h.2).refMk (i := 0) rfl⟩
set_option maxRecDepth 100000 in
set_option maxHeartbeats 1000000 in
theorem refNumber_e {fr al : Nat → Prop} {w0 w : World} {L : List It} (st : Own fr al w0 L w) (i : Nat) {t : Nat} {er : Int} (hi : L[i]? = some (refI t (.error er))) (most : Int) :
    Calls Try.prog 80 #[.pointer (some ⟨t, 0, none⟩), .int .i64 most] w fun e w' => e = .returned (.int .i64 0) ∧ w = w' := by
  obtain ⟨xs, he, st1⟩ := st.refErr hi
  have hb := st1.blk (i := i) (b := t) (vs := [S xs, .int .i64 er]) (by simp [List.getElem?_set, get_lt hi])
  have r1 := hb.cell 1
  simp only [List.getElem?_cons_succ, List.getElem?_cons_zero] at r1
  have hne : (er != 0) = true := by simpa using he
  clear st st1 hb hi
  go_enter Try.func80, Try.ntmps80
  go_wp2_with fail
  go_ret
  exact ⟨rfl, rfl⟩
set_option maxRecDepth 100000 in
set_option maxHeartbeats 1000000 in
theorem refText_e {fr al : Nat → Prop} {w0 w : World} {L : List It} (st : Own fr al w0 L w) (i : Nat) {t : Nat} {er : Int} (hi : L[i]? = some (refI t (.error er))) (most : Int) :
    Calls Try.prog 81 #[.pointer (some ⟨t, 0, none⟩), .int .i64 most] w fun e w' => e = .returned (S []) ∧ w = w' := by
  have HST := Lib.hid (And.intro st hi)
  obtain ⟨xs, he, st1⟩ := st.refErr hi
  have hb := st1.blk (i := i) (b := t) (vs := [S xs, .int .i64 er]) (by simp [List.getElem?_set, get_lt hi])
  have r1 := hb.cell 1
  simp only [List.getElem?_cons_succ, List.getElem?_cons_zero] at r1
  have hne : (er != 0) = true := by simpa using he
  have hne2 : (er == 0) = false := by simpa using he
  clear st st1 hb hi
  go_enter Try.func81, Try.ntmps81
  go_wp2_with fail
  refine (refNumber_e HST.out.1 i HST.out.2 _).mono ?_
  rintro en w' ⟨rfl, rfl⟩
  go_wp2_with fail
  go_ret
  exact ⟨rfl, rfl⟩
def bnd {α : Type} (res : Except Int (List UInt8)) (f : List UInt8 → Except Int (α × List UInt8)) : Except Int (α × List UInt8) := match res with | .error e => .error e | .ok xs => f xs
theorem refNumber_m {fr al : Nat → Prop} {w : World} {t : Nat} {res : Except Int (List UInt8)} (st : Own fr al w [refI t res] w) (most : Int) :
    Calls Try.prog 80 #[.pointer (some ⟨t, 0, none⟩), .int .i64 most] w (RefC fr al w t (bnd res (rdNumber most)) (.int .i64 0) fun n => .int .i64 (n : Int)) := by
  cases res with
  | ok xs => exact refNumber_c st most
  | error er =>
    refine (refNumber_e st 0 get0 most).mono ?_
    rintro en w' ⟨rfl, rfl⟩
    exact ⟨rfl, st⟩
theorem refText_m {fr al : Nat → Prop} {w : World} {t : Nat} {res : Except Int (List UInt8)} (st : Own fr al w [refI t res] w) (most : Int) (hl : ∀ xs, res = .ok xs → xs.length ≤ 100000000000) :
    Calls Try.prog 81 #[.pointer (some ⟨t, 0, none⟩), .int .i64 most] w (RefC fr al w t (bnd res (rdText most)) (S []) fun s => S s) := by
  cases res with
  | ok xs => exact refText_c st most (hl xs rfl)
  | error er =>
    refine (refText_e st 0 get0 most).mono ?_
    rintro en w' ⟨rfl, rfl⟩
    exact ⟨rfl, st⟩
theorem refEnd_c {fr al : Nat → Prop} {w0 w : World} {L : List It} (st : Own fr al w0 L w) (i : Nat) {t : Nat} {res : Except Int (List UInt8)} (hi : L[i]? = some (refI t res)) :
    Calls Try.prog 42 #[.pointer (some ⟨t, 0, none⟩)] w fun e w' => e = .returned (.int .i64 (match res with | .ok ys => if ys = [] then 0 else 13 | .error er => er)) ∧ w = w' := by
  cases res with
  | ok ys =>
    have st1 := st.refOk hi
    refine (refEnd_any w t ys 0 (st1.blk (i := i) (by simp [List.getElem?_set, get_lt hi]))).mono ?_
    rintro e w' ⟨h1, h2⟩
    exact ⟨by rw [h1]; simp, h2⟩
  | error er =>
    obtain ⟨xs, he, st1⟩ := st.refErr hi
    refine (refEnd_any w t xs er (st1.blk (i := i) (by simp [List.getElem?_set, get_lt hi]))).mono ?_
    rintro e w' ⟨h1, h2⟩
    exact ⟨by rw [h1, if_neg he], h2⟩
end Go.Proofs.Ytdkemfimhdjdiaa

namespace Go.Proofs.Ytdkemfimhdjdiaa
set_option linter.unusedSimpArgs false
set_option linter.unusedVariables false
open Go Go.RowKit
/-- How a function that tape.Read is given ends, over a block b that holds z. -/
def GetPost {α : Type} (fr al : Nat → Prop) (w : World) (r b : Nat) (res : Except Int (α × List UInt8)) (z : List Value) (vl : α → List Value) (en : Ending) (w' : World) : Prop :=
  match res with
  | .error e => en = .panicked [{ v := failV r e, recovered := false }] ∧ Own fr al w [rdAnyI r, blkI b z] w'
  | .ok (s, ys) => en = .returned (.tuple #[]) ∧ Own fr al w [rdI r ys, blkI b (vl s)] w'
/-- The error, and what the block holds behind it. -/
def gotE {α : Type} (res : Except Int (α × List UInt8)) : Int := match res with
  | .error e => e
  | .ok (_, ys) => if ys = [] then 0 else 13
def gotZ {α : Type} (res : Except Int (α × List UInt8)) (z : List Value) (vl : α → List Value) : List Value := match res with
  | .error _ => z
  | .ok (s, _) => vl s
theorem pick_range (L : List It) (x : It) : pick (L ++ [x]) (L.length :: List.range L.length) = x :: L := by
  unfold pick
  rw [List.map_cons]
  congr 1
  · simp
  · apply List.ext_getElem
    · simp
    · intro i h1 h2
      simp [List.getElem?_append_left h2, List.getElem?_eq_getElem h2]
theorem putIt_two (L : List It) (I A B : It) (i : Nat) (hi : i < L.length) : putIt (L ++ [I]) [A, B] 0 [L.length, i] = L.set i B ++ [A] := by
  simp only [putIt, List.getElem?_cons_zero, List.getElem?_cons_succ, Option.getD_some, List.drop_succ_cons, List.drop_zero, List.drop_nil, List.append_nil]
  rw [List.set_append_right _ _ (Nat.le_refl _), Nat.sub_self, List.set_cons_zero, List.set_append_left _ _ hi]
theorem readGet_c {α : Type} {fr al : Nat → Prop} {w0 w : World} {L : List It} (st : Own fr al w0 L w) (i : Nat) {b : Nat} {z : List Value} (hi : L[i]? = some (blkI b z)) {a : Option Addr} {n c : Nat} {xs : List UInt8} (h : By w a n xs) (hc : n ≤ c ∧ c ≤ maxLen) (hn : n ≤ 100000000000) (F : FuncId)
    (hinv : ∀ w r, (callFunc F (#[.pointer (some ⟨r, 0, none⟩)] ++ #[.pointer (some ⟨b, 0, none⟩)])).run Try.prog w = .ok (.enter F (#[.pointer (some ⟨r, 0, none⟩)] ++ #[.pointer (some ⟨b, 0, none⟩)])) w)
    (res : Except Int (α × List UInt8)) (vl : α → List Value)
    (hclo : ∀ fr al w r, Own fr al w [rdI r xs, blkI b z] w → Calls Try.prog F #[.pointer (some ⟨r, 0, none⟩), .pointer (some ⟨b, 0, none⟩)] w (GetPost fr al w r b res z vl)) :
    Calls Try.prog 37 #[.slice a n c, .func (.func F) #[] #[.pointer (some ⟨b, 0, none⟩)]] w fun en w' => ∃ r, en = .returned (.int .i64 (gotE res)) ∧ Own fr al w0 (rdOverI r :: L.set i (blkI b (gotZ res z vl))) w' := by
  have hil := get_lt hi
  have fin : ∀ {fr' al' : Nat → Prop} {w1 w2 : World} {A B I : It}, Own fr' al' w1 (putIt (L ++ [I]) [A, B] 0 [L.length, i]) w2 → Own fr' al' w1 (A :: L.set i B) w2 := by
    intro fr' al' w1 w2 A B I st3
    rw [putIt_two L I A B i hil] at st3
    have hk := st3.keep ((L.set i B).length :: List.range (L.set i B).length) (by
      rw [List.nodup_cons]; exact ⟨by simp, List.nodup_range⟩) (by
      intro q hq
      rcases List.mem_cons.1 hq with e | e
      · rw [e]; simp
      · have := List.mem_range.1 e; simp at this ⊢; omega)
    rwa [pick_range] at hk
  refine (read_c st h hc hn F #[.pointer (some ⟨b, 0, none⟩)] hinv (fun r e M => e = gotE res ∧ M = L.set i (blkI b (gotZ res z vl))) fun fr' al' w1 r hr st1 => ?_).mono ?_
  · obtain ⟨fr2, al2, st2, back⟩ := st1.sub [L.length, i] (by simp; omega) (by
      intro q hq; simp at hq ⊢; omega)
    have hp : pick (L ++ [rdI r xs]) [L.length, i] = [rdI r xs, blkI b z] := by
      simp [pick, List.getElem?_append_left hil, hi]
    rw [hp] at st2
    refine (hclo _ _ _ r st2).mono ?_
    intro en w2 hen
    unfold GetPost at hen
    cases hres : res with
    | error e =>
      rw [hres] at hen
      obtain ⟨rfl, st3⟩ := hen
      exact .inr ⟨e, [], _, rfl, rfl, ⟨rfl, rfl⟩, fin (back _ _ (by simp) st3)⟩
    | ok p =>
      obtain ⟨s, ys⟩ := p
      rw [hres] at hen
      obtain ⟨rfl, st3⟩ := hen
      exact .inl ⟨_, ys, _, rfl, ⟨rfl, rfl⟩, fin (back _ _ (by simp) st3)⟩
  · rintro en w' ⟨r, e, M, rfl, ⟨rfl, rfl⟩, st'⟩
    exact ⟨r, rfl, st'⟩
/-- A function that fails, over nothing. -/
theorem readErr_c {fr al : Nat → Prop} {w0 w : World} {L : List It} (st : Own fr al w0 L w) {a : Option Addr} {n c : Nat} {xs : List UInt8} (h : By w a n xs) (hc : n ≤ c ∧ c ≤ maxLen) (hn : n ≤ 100000000000) (F : FuncId)
    (hinv : ∀ w r, (callFunc F (#[.pointer (some ⟨r, 0, none⟩)] ++ #[])).run Try.prog w = .ok (.enter F (#[.pointer (some ⟨r, 0, none⟩)] ++ #[])) w) (er : Int)
    (hclo : ∀ fr al w r, Own fr al w [rdI r xs] w → Calls Try.prog F #[.pointer (some ⟨r, 0, none⟩)] w fun en w' => en = .panicked [{ v := failV r er, recovered := false }] ∧ Own fr al w [rdAnyI r] w') :
    Calls Try.prog 37 #[.slice a n c, .func (.func F) #[] #[]] w fun en w' => ∃ r, en = .returned (.int .i64 er) ∧ Own fr al w0 (rdOverI r :: L) w' := by
  refine (read_c st h hc hn F #[] hinv (fun r e M => e = er ∧ M = L) fun fr' al' w1 r hr st1 => ?_).mono ?_
  · obtain ⟨fr2, al2, st2, back⟩ := st1.sub [L.length] (by simp) (by simp)
    have hp : pick (L ++ [rdI r xs]) [L.length] = [rdI r xs] := by simp [pick]
    rw [hp] at st2
    refine (hclo _ _ _ r st2).mono ?_
    rintro en w2 ⟨rfl, st3⟩
    have st4 := back _ _ (by simp) st3
    simp only [putIt, List.getElem?_cons_zero, Option.getD_some, List.drop_succ_cons, List.drop_zero, List.append_nil] at st4
    rw [List.set_append_right _ _ (Nat.le_refl _), Nat.sub_self, List.set_cons_zero] at st4
    have hk := st4.keep (L.length :: List.range L.length) (by rw [List.nodup_cons]; exact ⟨by simp, List.nodup_range⟩) (by
      intro q hq
      rcases List.mem_cons.1 hq with e | e
      · rw [e]; simp
      · have := List.mem_range.1 e; simp; omega)
    rw [pick_range] at hk
    exact .inr ⟨er, [], _, rfl, rfl, ⟨rfl, rfl⟩, hk⟩
  · rintro en w' ⟨r, e, M, rfl, ⟨rfl, rfl⟩, st'⟩
    exact ⟨r, rfl, st'⟩
end Go.Proofs.Ytdkemfimhdjdiaa

namespace Go.Proofs.Ytdkemfimhdjdiaa
set_option linter.unusedSimpArgs false
set_option linter.unusedVariables false
open Go Go.RowKit
/-- A datum of k cells, none of which points. -/
class Flt (α : Type) where
  k : Nat
  cells : α → List Value
  len : ∀ x, (cells x).length = k
  pos : 0 < k
  one : ∀ x, ∀ u ∈ cells x, u.oneCell' = true
def fltR {α : Type} [Flt α] : World → Nat → Nat → α → Prop := fun w b o x => ∀ (j : Nat) (v : Value), (Flt.cells x)[j]? = some v → w.cell? ⟨b, o + j, none⟩ = some v
instance fltR_stb {α : Type} [Flt α] : Stb (fltR (α := α)) := ⟨fun _ _ _ _ _ hx h j v hj => hx.cell (h j v hj)⟩
/-- The slice (a, n) reads as xs. -/
abbrev Fl {α : Type} [Flt α] (w : World) (a : Option Addr) (n : Nat) (xs : List α) : Prop := Arr (Flt.k α) fltR w a n xs
def cellsL {α : Type} [Flt α] (xs : List α) : List Value := xs.flatMap Flt.cells
section
variable {α : Type} [Flt α]
theorem cellsL_nil : cellsL ([] : List α) = [] := rfl
theorem cellsL_cons (x : α) (xs : List α) : cellsL (x :: xs) = Flt.cells x ++ cellsL xs := rfl
theorem cellsL_append (xs ys : List α) : cellsL (xs ++ ys) = cellsL xs ++ cellsL ys := by simp [cellsL]
theorem cellsL_one' (x : α) : cellsL [x] = Flt.cells x := by simp [cellsL]
theorem cellsL_len (xs : List α) : (cellsL xs).length = xs.length * Flt.k α := by
  induction xs with
  | nil => simp [cellsL]
  | cons x xs ih => rw [cellsL_cons, List.length_append, ih, Flt.len, List.length_cons, Nat.add_mul, Nat.one_mul, Nat.add_comm]
theorem cellsL_get : ∀ {xs : List α} {i j : Nat} {x : α}, xs[i]? = some x → j < Flt.k α → (cellsL xs)[i * Flt.k α + j]? = (Flt.cells x)[j]?
  | [], i, j, x, h, _ => by simp at h
  | y :: xs, 0, j, x, h, hj => by
    simp at h; subst h
    rw [cellsL_cons, Nat.zero_mul, Nat.zero_add, List.getElem?_append_left (by rw [Flt.len]; exact hj)]
  | y :: xs, i + 1, j, x, h, hj => by
    have := cellsL_get (xs := xs) (i := i) (j := j) (x := x) (by simpa using h) hj
    rw [cellsL_cons, List.getElem?_append_right (by rw [Flt.len, Nat.add_mul]; omega), Flt.len, ← this]
    congr 1
    rw [Nat.add_mul]; omega
theorem cellsL_all (xs : List α) : ∀ u ∈ cellsL xs, u.oneCell' = true := by
  intro u hu
  obtain ⟨x, _, hx⟩ := List.mem_flatMap.1 hu
  exact Flt.one x u hx
theorem Fl.nil (w : World) (a : Option Addr) : Fl w a 0 ([] : List α) := ⟨rfl, fun h => by omega⟩
theorem Fl.flat {w : World} {a : Option Addr} {n : Nat} {xs : List α} (h : Fl w a n xs) : Flat w a n (Flt.k α) (cellsL xs) := by
  refine ⟨by rw [cellsL_len, h.1], fun h0 => ?_⟩
  have hk := Flt.pos (α := α)
  have hn : 0 < n := by
    rcases Nat.eq_zero_or_pos n with q | q
    · rw [cellsL_len, ← h.1, q] at h0; simp at h0
    · exact q
  obtain ⟨b, off, rfl, hc⟩ := h.2 hn
  refine ⟨_, rfl, fun j u hj => ?_⟩
  have hjl := (List.getElem?_eq_some_iff.1 hj).1
  rw [cellsL_len] at hjl
  have hi : j / Flt.k α < xs.length := (Nat.div_lt_iff_lt_mul hk).2 hjl
  have hr : j % Flt.k α < Flt.k α := Nat.mod_lt _ hk
  have e : j / Flt.k α * Flt.k α + j % Flt.k α = j := by rw [Nat.mul_comm]; exact Nat.div_add_mod _ _
  have h1 := cellsL_get (List.getElem?_eq_getElem hi) hr
  rw [e, hj] at h1
  have := hc _ _ (List.getElem?_eq_getElem hi) _ _ h1.symm
  rw [addr_add, ← this, Nat.add_assoc, e]
theorem Fl.of_cells {w : World} {b off : Nat} {xs : List α} (h : ∀ j u, (cellsL xs)[j]? = some u → w.cell? ⟨b, off + j, none⟩ = some u) : Fl w (some ⟨b, off, none⟩) xs.length xs :=
  ⟨rfl, fun _ => ⟨b, off, rfl, fun i x hi j v hj => by
    have hjl := (List.getElem?_eq_some_iff.1 hj).1
    rw [Flt.len] at hjl
    have := h _ v ((cellsL_get hi hjl).trans hj)
    rwa [Nat.add_assoc]⟩⟩
theorem fl_lit {w : World} {b : Nat} {vs : List Value} (h : Blk w b vs) (xs : List α) (he : vs = cellsL xs) : Fl w (some ⟨b, 0, none⟩) xs.length xs :=
  Fl.of_cells fun j u hj => by rw [Nat.zero_add, h.cell, he]; exact hj
/-- A part of a slice. -/
theorem Fl.part {w : World} {b off n : Nat} {xs : List α} (h : Fl w (some ⟨b, off, none⟩) n xs) (i m : Nat) (him : i + m ≤ n) : Fl w (some ⟨b, off + i * Flt.k α, none⟩) m ((xs.drop i).take m) := by
  have hn := h.1
  refine ⟨by simp; omega, fun h0 => ?_⟩
  obtain ⟨b', off', e, hc⟩ := h.2 (by omega)
  cases e
  refine ⟨_, _, rfl, fun j x hj => ?_⟩
  have hjm : j < m := by
    have := (List.getElem?_eq_some_iff.1 hj).1
    simp at this; omega
  rw [List.getElem?_take_of_lt hjm, List.getElem?_drop] at hj
  have := hc (i + j) x hj
  rwa [Nat.add_mul, ← Nat.add_assoc] at this
end
/-- Blocks made since W hold the item; nothing old has changed. -/
def FreshI (W w' : World) (I : It) : Prop := Ext W w' ∧ ∃ e : Nat → Prop, I.P e (fun _ => False) w' ∧ ∀ b, e b → W.heap.size ≤ b ∧ b < w'.heap.size
section
variable {fr al : Nat → Prop} {w0 w w' : World} {L : List It}
theorem Own.fresh (st : Own fr al w0 L w) {I : It} (h : FreshI w w' I) : Own fr al w0 (L ++ [I]) w' :=
  let ⟨hx, e, h1, h2⟩ := h
  st.new hx h1 (fun b hb => ⟨(h2 b hb).2, (h2 b hb).1⟩) (fun _ q => q.elim) (fun _ _ q => q)
theorem Own.toFresh (st : Own (fun _ => False) al w0 L w) {i k n : Nat} {E : TypeId} {v : Value} {xs : List Value} (hi : L[i]? = some (rowI E k v n xs)) : FreshI w0 w (rowI E k v n xs) := by
  have hx := st.ext0
  obtain ⟨hm, e, s, F⟩ := st
  refine ⟨hx, e i, F.holds i _ hi, fun b hb => ⟨?_, F.lo i b (get_lt hi) (.inl hb)⟩⟩
  rcases Nat.lt_or_ge b w0.heap.size with q | q
  · exact (F.fr i b (get_lt hi) hb q).elim
  · exact q
theorem FreshI.ext {I : It} (h : FreshI w w' I) : Ext w w' := h.1
theorem FreshI.pre {W : World} {I : It} (h : FreshI w w' I) (hx : Ext W w) : FreshI W w' I := let ⟨h1, e, h2, h3⟩ := h; ⟨hx.trans h1, e, h2, fun b hb => ⟨Nat.le_trans hx.le (h3 b hb).1, (h3 b hb).2⟩⟩
theorem FreshI.post {w'' : World} {I : It} (h : FreshI w w' I) (hx : Ext w' w'') : FreshI w w'' I :=
  let ⟨h1, e, h2, h3⟩ := h
  ⟨h1.trans hx, e, I.st h2 fun b hb => by rcases hb with hb | hb; exact Below.block hx.bel b (h3 b hb).2; exact hb.elim, fun b hb => ⟨(h3 b hb).1, Nat.lt_of_lt_of_le (h3 b hb).2 hx.le⟩⟩
theorem FreshI.nilRow (w : World) (E : TypeId) (k : Nat) : FreshI w w (rowI E k (.slice none 0 0) 0 []) := ⟨Ext.refl w, fun _ => False, ⟨⟨by simp, .inl ⟨rfl, rfl⟩⟩, fun k hk => by simp [Value.ownBlock] at hk⟩, fun _ q => q.elim⟩
/-- A slice of one's own reads as its list. -/
theorem row_fl {α : Type} [Flt α] {W : World} {E : TypeId} {v : Value} {n : Nat} {xs : List α} (h : W.ownsRow 0 E (Flt.k α) v n (cellsL xs)) : ∃ a c, v = .slice a n c ∧ (n ≤ c ∧ c ≤ maxLen) ∧ Fl W a n xs := by
  have hk := Flt.pos (α := α)
  have hn : n = xs.length := by
    have := h.1
    rw [cellsL_len] at this
    exact (Nat.eq_of_mul_eq_mul_right hk this).symm
  subst hn
  rcases h.2 with ⟨rfl, h0⟩ | ⟨g, cap, cur, rfl, hb, hg, hc, hm, hs, ht⟩
  · have : xs = [] := List.eq_nil_of_length_eq_zero h0
    subst this
    exact ⟨none, 0, rfl, ⟨Nat.le_refl _, by simp [maxLen]⟩, Fl.nil _ _⟩
  · refine ⟨_, cap, rfl, ⟨hc, hm⟩, Fl.of_cells fun j u hj => ?_⟩
    have := h.cells (g := g) rfl j u hj
    rwa [addr_add] at this
theorem Own.rowFl {α : Type} [Flt α] (st : Own fr al w0 L w) {i n : Nat} {E : TypeId} {v : Value} {xs : List α} (hi : L[i]? = some (rowI E (Flt.k α) v n (cellsL xs))) : ∃ a c, v = .slice a n c ∧ (n ≤ c ∧ c ≤ maxLen) ∧ Fl w a n xs := row_fl (st.row hi)
theorem FreshI.fl {α : Type} [Flt α] {a : Option Addr} {n c : Nat} {E : TypeId} {xs : List α} (h : FreshI w w' (rowI E (Flt.k α) (.slice a n c) n (cellsL xs))) : (n ≤ c ∧ c ≤ maxLen) ∧ Fl w' a n xs := by
  obtain ⟨_, e, ⟨h1, _⟩, _⟩ := h
  obtain ⟨a', c', hv, h2, h3⟩ := row_fl h1
  injection hv with q1 q2 q3
  subst q1 q3
  exact ⟨h2, h3⟩
theorem Own.oldFl {α : Type} [Flt α] (st : Own fr al w0 L w) {i : Nat} {W0 : World} (hi : L[i]? = some (oldI W0)) {A : Option Addr} {n : Nat} {xs : List α} (h : Fl W0 A n xs) : Fl w A n xs :=
  ⟨h.1, fun h0 => let ⟨b, off, e, hc⟩ := h.2 h0; ⟨b, off, e, fun j x hj q v hq => st.oldCell hi (hc j x hj q v hq)⟩⟩
end
/-- A string. -/
instance fltStr : Flt (List UInt8) := ⟨1, fun s => [S s], fun _ => rfl, by decide, fun x u hu => by simp at hu; subst hu; rfl⟩
theorem str_cells (y : List UInt8) : Flt.cells y = [.string ⟨y.toArray⟩] := rfl
theorem fltStr_k : Flt.k (List UInt8) = 1 := rfl
theorem Fl.str {w : World} {a : Option Addr} {n : Nat} {xs : List (List UInt8)} (h : Fl w a n xs) (h0 : 0 < n) : ∃ b off, a = some ⟨b, off, none⟩ ∧ ∀ j x, xs[j]? = some x → w.cell? ⟨b, off + j, none⟩ = some (S x) := by
  obtain ⟨b, off, rfl, hc⟩ := h.2 h0
  refine ⟨b, off, rfl, fun j x hj => ?_⟩
  have := hc j x hj 0 (S x) rfl
  simpa [fltStr_k] using this
end Go.Proofs.Ytdkemfimhdjdiaa

namespace Go.Proofs.Ytdkemfimhdjdiaa
set_option linter.unusedSimpArgs false
set_option linter.unusedVariables false
open Go Go.RowKit
section
variable {fr al : Nat → Prop} {w0 w w' : World} {L : List It} {P : Program} {o : Oper} {a : Act} {K : Act → World → Prop} {Q : Exit → Act → World → Prop}
theorem Own.tail {I : It} (st : Own fr al w0 (I :: L) w) : Own fr al w0 L w := by
  obtain ⟨hm, e, s, F⟩ := st
  exact ⟨hm, fun i => e (i + 1), fun i => s (i + 1), fun i J hi => F.holds (i + 1) J (by simpa using hi), fun i b hi => F.lo (i + 1) b (by simpa using hi), fun i b hi => F.fr (i + 1) b (by simpa using hi), fun i b hi => F.al (i + 1) b (by simpa using hi),
    fun i j b hi hj hne => F.ee (i + 1) (j + 1) b (by simpa using hi) (by simpa using hj) (by omega), fun i j b hi hj => F.es (i + 1) (j + 1) b (by simpa using hi) (by simpa using hj)⟩
theorem set_take_list {α : Type} (l : List α) (m i : Nat) (v : α) (h : i < m) : (l.set i v).take m = (l.take m).set i v := by rw [List.take_set]
/-- A cell of the row is stored. -/
theorem Own.rowSet1 (st : Own fr al w0 L w) {i k n c g : Nat} {E : TypeId} {xs : List Value} (hi : L[i]? = some (rowI E k (.slice (some ⟨g, 0, none⟩) n c) n xs)) (j : Nat) (v : Value) (hj : j < n * k) :
    Own fr al w0 (L.set i (rowI E k (.slice (some ⟨g, 0, none⟩) n c) n (xs.set j v))) (w.setCell ⟨g, j, none⟩ v) := by
  refine st.upd hi fun e s ⟨h1, h2⟩ h3 h4 => ⟨e, s, ⟨⟨by simpa using h1.1, ?_⟩, h2⟩, fun q hq => ⟨by simpa [World.setCell] using h3 q (.inl hq), .inl hq⟩, fun q hq => ⟨by simpa [World.setCell] using h3 q (.inr hq), .inr (.inl hq)⟩, h4, MutO.set (MutO.refl _ _) (h2 g rfl) _⟩
  rcases h1.2 with ⟨h5, _⟩ | ⟨g', cap, cur, hv, hb, hg, hc, hm, hs, ht⟩
  · cases h5
  · cases hv
    refine .inr ⟨g, c, cur.setIfInBounds j v, rfl, hb, ?_, hc, hm, by simpa using hs, ?_⟩
    · simp only [World.setCell, Array.getElem?_modify, hg]; simp
    · rw [Array.toList_setIfInBounds, List.take_set, ht]
theorem Own.rowSet (cs : List Value) : ∀ {w : World} {L : List It} {i k n c g : Nat} {E : TypeId} {xs : List Value} (_ : Own fr al w0 L w) (_ : L[i]? = some (rowI E k (.slice (some ⟨g, 0, none⟩) n c) n xs)) (j : Nat) (_ : j + cs.length ≤ n * k),
    Own fr al w0 (L.set i (rowI E k (.slice (some ⟨g, 0, none⟩) n c) n (spl xs j cs))) (w.setCells g j cs) := by
  induction cs with
  | nil =>
    intro w L i k n c g E xs st hi j hj
    have : L.set i (rowI E k (.slice (some ⟨g, 0, none⟩) n c) n xs) = L := by
      apply List.ext_getElem?
      intro q
      rw [List.getElem?_set]
      split
      · rename_i h; subst h; rw [hi, if_pos (get_lt hi)]
      · rfl
    simpa [spl, World.setCells, this] using st
  | cons u cs ih =>
    intro w L i k n c g E xs st hi j hj
    simp only [List.length_cons] at hj
    have h1 := st.rowSet1 hi j u (by omega)
    have h2 := ih h1 (i := i) (k := k) (n := n) (c := c) (g := g) (E := E) (xs := xs.set j u) (by simp [List.getElem?_set, get_lt hi]) (j + 1) (by omega)
    rw [List.set_set] at h2
    exact h2
/-- What a row's store needs to know of its cells. -/
theorem row_cell {E : TypeId} {k n c g : Nat} {xs : List Value} (h : w.ownsRow 0 E k (.slice (some ⟨g, 0, none⟩) n c) n xs) (j : Nat) (hj : j < n * k) : w.cell? ⟨g, j, none⟩ = xs[j]? ∧ w.frozen? ⟨g, j, none⟩ = false ∧ j < xs.length := by
  rcases h.2 with ⟨h5, _⟩ | ⟨g', cap, cur, hv, hb, hg, hc, hm, hs, ht⟩
  · cases h5
  · cases hv
    have hcn : n * k ≤ c * k := Nat.mul_le_mul_right _ hc
    have hjc : j < cur.size := by omega
    have hx : xs[j]? = cur[j]? := by rw [← ht, List.getElem?_take_of_lt hj]; simp
    have hlt : j < xs.length := by
      rw [Array.getElem?_eq_getElem hjc] at hx
      exact (List.getElem?_eq_some_iff.1 hx).1
    refine ⟨?_, by simp [World.frozen?, hg], hlt⟩
    rw [hx]; simp [World.cell?, hg]
theorem run_storeAt_row {E T : TypeId} {k n c g j : Nat} {xs cs : List Value} {v : Value} (h : w.ownsRow 0 E k (.slice (some ⟨g, 0, none⟩) n c) n xs) (hcs : v.cells.toList = cs) (hT : (P.info? T).map (·.size) = some cs.length) (hk : j + cs.length ≤ n * k) (h1 : cs.all (·.oneCell') = true) :
    (Instr.storeAt T (.pointer (some ⟨g, j, none⟩)) v).run P w = .ok () (w.setCells g j cs) := by
  subst hcs
  have := run_storeCells_cells (P := P) g j v.cells.toList 0 w (fun q hq => by
      have := row_cell h (j + q) (by omega)
      rw [Nat.add_zero, this.1, List.getElem?_eq_getElem this.2.2]; rfl) (fun q hq => (row_cell h (j + 0 + q) (by omega)).2.1) (fun u hu => (List.all_eq_true.1 h1) u hu)
  cases hq : P.info? T with
  | none => simp [hq] at hT
  | some i =>
    have hs : v.cells.size = i.size := by simp [hq] at hT; omega
    simp only [Nat.add_zero] at this
    simp [Instr.storeAt, Instr.sureAddr, storeVar, sizeOf, typeInfo, hq, hs, this]
/-- An element of the row is stored. -/
theorem owp_storeRow {T : TypeId} {x y : Operand} (ho : o.op = .store T x y) (st : Own fr al w0 L w) (i : Nat) {E : TypeId} {k n c g j : Nat} {xs cs : List Value} {v : Value}
    (hi : L[i]? = some (rowI E k (.slice (some ⟨g, 0, none⟩) n c) n xs)) (hx : a.eval x = .pointer (some ⟨g, j, none⟩)) (hy : a.eval y = v) (hcs : v.cells.toList = cs) (hT : (P.info? T).map (·.size) = some cs.length) (hj : j + cs.length ≤ n * k) (h1 : cs.all (·.oneCell') = true)
    (h : ∀ w', Own fr al w0 (L.set i (rowI E k (.slice (some ⟨g, 0, none⟩) n c) n (spl xs j cs))) w' → K (a.put o.dst undef) w') : o.wp P a w K Q := by
  unfold Oper.wp execOp
  simp only [ho, hx, hy, Sem.run_bind, run_storeAt_row (P := P) (st.row hi) hcs hT hj h1, Result.andThen, Sem.run_pure]
  exact h _ (st.rowSet cs hi j hj)
theorem owp_storeRow' {T : TypeId} {x y : Operand} (ho : o.op = .store T x y) (st : Own fr al w0 L w)
    (h : ∃ ad v, a.eval x = .pointer (some ad) ∧ a.eval y = v ∧ ∃ (i : Nat) (E : TypeId) (k n c g j : Nat) (xs cs : List Value), L[i]? = some (rowI E k (.slice (some ⟨g, 0, none⟩) n c) n xs) ∧ ad = ⟨g, j, none⟩ ∧ v.cells.toList = cs ∧ (P.info? T).map (·.size) = some cs.length ∧ j + cs.length ≤ n * k ∧ cs.all (·.oneCell') = true ∧
      ∀ w', Own fr al w0 (L.set i (rowI E k (.slice (some ⟨g, 0, none⟩) n c) n (spl xs j cs))) w' → K (a.put o.dst undef) w') : o.wp P a w K Q := by
  obtain ⟨ad, v, hx, hy, i, E, k, n, c, g, j, xs, cs, hi, rfl, hcs, hT, hj, h1, h⟩ := h
  exact owp_storeRow ho st i hi hx hy hcs hT hj h1 h
theorem spl_take (cs : List Value) : ∀ (xs : List Value) (j q : Nat), q ≤ j → (spl xs j cs).take q = xs.take q := by
  induction cs with
  | nil => intro xs j q _; rfl
  | cons u cs ih =>
    intro xs j q h
    rw [spl, ih _ _ _ (by omega), List.take_set]
    apply List.ext_getElem?
    intro m
    rw [List.getElem?_set]
    split
    · rename_i e; subst e
      split
      · rename_i hh; simp at hh; omega
      · rename_i hh; rw [List.getElem?_eq_none (by simp at hh ⊢; omega)]
    · rfl
/-- clear(s[m:]): the elements from m on are turned, the others stay. -/
theorem owp_clearRow {x : Operand} {t E : TypeId} (ho : o.op = .call { callee := .builtin .clear, args := #[x], argTypes := #[t] }) (st : Own fr al w0 L w) (i : Nat) {k n c g m c' : Nat} {xs : List Value} {inf : TypeInfo} {z : Value}
    (hi : L[i]? = some (rowI E k (.slice (some ⟨g, 0, none⟩) n c) n xs)) (ht : P.underlying t = some (.slice E)) (hinf : P.info? E = some inf) (hz : inf.zero = some z) (hk : 0 < k) (hzs : z.cells.size = k) (hz1 : z.cells.toList.all (·.oneCell') = true)
    (hmn : m ≤ n) (hx : a.eval x = .slice (some ⟨g, m * k, none⟩) (n - m) c')
    (h : ∀ w' ys, ys.take (m * k) = xs.take (m * k) → ys.length = xs.length → Own fr al w0 (L.set i (rowI E k (.slice (some ⟨g, 0, none⟩) n c) n ys)) w' → K (a.put o.dst (.tuple #[])) w') : o.wp P a w K Q := by
  have hrow := st.row hi
  by_cases h0 : n - m = 0
  · refine owp_run (v := .tuple #[]) (w' := w) ?_ (h w xs rfl rfl ?_)
    · rw [h0] at hx
      simp [execOp, ho, resolve, invoke, builtin, hx, Builtin.clear_, run_underlying ht]
    · have : L.set i (rowI E k (.slice (some ⟨g, 0, none⟩) n c) n xs) = L := by
        apply List.ext_getElem?
        intro q
        rw [List.getElem?_set]
        split
        · rename_i h; subst h; rw [hi, if_pos (get_lt hi)]
        · rfl
      rw [this]; exact st
  · obtain ⟨q, hq⟩ : ∃ q, n - m = q + 1 := ⟨n - m - 1, by omega⟩
    have hlen : (Builtin.zeroCells z.cells (n - m)).toList.length = (n - m) * k := by
      rw [Array.length_toList, size_zeroCells, hzs]
    have hnk : m * k + (n - m) * k = n * k := by rw [← Nat.add_mul]; congr 1; omega
    have hall : (Builtin.zeroCells z.cells (n - m)).toList.all (·.oneCell') = true := by
      rw [List.all_eq_true] at hz1 ⊢
      intro u hu
      simp only [Builtin.zeroCells, Array.toList_map, List.mem_map] at hu
      obtain ⟨r, _, rfl⟩ := hu
      have hr : r % z.cells.size < z.cells.size := Nat.mod_lt _ (by omega)
      apply hz1
      rw [getElem!_pos z.cells _ hr]
      exact Array.getElem_mem_toList hr
    have hst := run_storeCells_cells (P := P) g (m * k) (Builtin.zeroCells z.cells (n - m)).toList 0 w (fun q hq => by
        have := row_cell hrow (m * k + q) (by omega)
        rw [Nat.add_zero, this.1, List.getElem?_eq_getElem this.2.2]; rfl) (fun q hq => (row_cell hrow (m * k + 0 + q) (by omega)).2.1) (fun u hu => (List.all_eq_true.1 hall) u hu)
    simp only [Nat.add_zero] at hst
    refine owp_run (v := .tuple #[]) (w' := w.setCells g (m * k) (Builtin.zeroCells z.cells (n - m)).toList) ?_ (h _ _ (spl_take _ _ _ _ (Nat.le_refl _)) (spl_len _ _ _) (st.rowSet _ hi (m * k) (by omega)))
    rw [hq] at hx hst ⊢
    simp [execOp, ho, resolve, invoke, builtin, hx, Builtin.clear_, run_underlying ht, zeroValue, typeInfo, hinf, hz, hst, Result.andThen]
theorem owp_clearRow' {x : Operand} {t E : TypeId} (ho : o.op = .call { callee := .builtin .clear, args := #[x], argTypes := #[t] }) (st : Own fr al w0 L w) (ht : P.underlying t = some (.slice E))
    (h : ∃ ad q c', a.eval x = .slice (some ad) q c' ∧ ∃ (i : Nat) (k n c g m : Nat) (xs : List Value) (inf : TypeInfo) (z : Value), L[i]? = some (rowI E k (.slice (some ⟨g, 0, none⟩) n c) n xs) ∧ P.info? E = some inf ∧ inf.zero = some z ∧ 0 < k ∧ z.cells.size = k ∧ z.cells.toList.all (·.oneCell') = true ∧
      m ≤ n ∧ ad = ⟨g, m * k, none⟩ ∧ q = n - m ∧ ∀ w' ys, ys.take (m * k) = xs.take (m * k) → ys.length = xs.length → Own fr al w0 (L.set i (rowI E k (.slice (some ⟨g, 0, none⟩) n c) n ys)) w' → K (a.put o.dst (.tuple #[])) w') : o.wp P a w K Q := by
  obtain ⟨ad, q, c', hx, i, k, n, c, g, m, xs, inf, z, hi, hinf, hz, hk, hzs, hz1, hmn, rfl, rfl, h⟩ := h
  exact owp_clearRow ho st i hi ht hinf hz hk hzs hz1 hmn hx h
/-- A slice literal as a row that may grow. -/
theorem owp_buildRow {T : TypeId} {q : Nat} {ps : Array (Nat × Operand)} (ho : o.op = .buildSlice T q ps) (st : Own fr al w0 L w) (E : TypeId) (k : Nat) (h : ∃ (m : Nat) (cs : Array Value), (execOp a.eval o).run P w = .ok (.value (.slice (some ⟨w.heap.size, 0, none⟩) m m)) (w.alloc (.cells cs E)) ∧
    cs.size = m * k ∧ m ≤ maxLen ∧ ∀ b w', w.heap.size ≤ b → Own fr al w0 (L ++ [rowI E k (.slice (some ⟨b, 0, none⟩) m m) m cs.toList]) w' → K (a.put o.dst (.slice (some ⟨b, 0, none⟩) m m)) w') : o.wp P a w K Q := by
  obtain ⟨m, cs, hr, h1, h2, h⟩ := h
  refine owp_run hr (h _ _ (Nat.le_refl _) (st.new (Ext.new w _) (e' := fun b => b = w.heap.size) (s' := fun _ => False) ⟨⟨by simpa using h1, .inr ⟨w.heap.size, m, cs, rfl, Nat.zero_le _, ?_, Nat.le_refl _, h2, h1, ?_⟩⟩, fun b hb => by cases hb; rfl⟩ (fun b hb => ?_) (fun _ q => q.elim) (fun _ _ q => q)))
  · show (w.heap.push _)[_]? = _; simp
  · rw [List.take_of_length_le]; simp [h1]
  · subst hb; exact ⟨by show _ < (w.heap.push _).size; simp, Nat.le_refl _⟩
/-- s[:m] -/
theorem Own.rowCut (st : Own fr al w0 L w) {i k n c g : Nat} {E : TypeId} {xs : List Value} (hi : L[i]? = some (rowI E k (.slice (some ⟨g, 0, none⟩) n c) n xs)) (m : Nat) (hm : m ≤ n) :
    Own fr al w0 (L.set i (rowI E k (.slice (some ⟨g, 0, none⟩) m c) m (xs.take (m * k)))) w := by
  refine st.conv hi fun e s ⟨h1, h2⟩ h3 => ⟨e, s, ⟨⟨?_, ?_⟩, fun q hq => h2 q hq⟩, fun _ q => q, fun _ q => .inr q, h3⟩
  · have := h1.1
    have : m * k ≤ n * k := Nat.mul_le_mul_right _ hm
    simp; omega
  · rcases h1.2 with ⟨h5, _⟩ | ⟨g', cap, cur, hv, hb, hg, hc, hmx, hs, ht⟩
    · cases h5
    · cases hv
      refine .inr ⟨g, c, cur, rfl, hb, hg, Nat.le_trans hm hc, hmx, hs, ?_⟩
      rw [← ht, List.take_take, Nat.min_eq_left (Nat.mul_le_mul_right _ hm)]
end
section
variable {α : Type} [Flt α]
theorem spl_in (cs : List Value) : ∀ (xs : List Value) (j q : Nat), (spl xs j cs)[q]? = if j ≤ q ∧ q < j + cs.length ∧ q < xs.length then cs[q - j]? else xs[q]? := by
  induction cs with
  | nil => intro xs j q; simp [spl]; intro h1 h2; omega
  | cons u cs ih =>
    intro xs j q
    rw [spl, ih]
    simp only [List.length_set, List.length_cons]
    by_cases h1 : q = j
    · subst h1
      rw [if_neg (by omega)]
      by_cases h2 : q < xs.length
      · rw [if_pos ⟨Nat.le_refl _, by omega, h2⟩]; simp [h2]
      · rw [if_neg (by omega)]; simp [h2]
    · rw [List.getElem?_set, if_neg (Ne.symm h1)]
      by_cases h2 : j + 1 ≤ q ∧ q < j + 1 + cs.length ∧ q < xs.length
      · rw [if_pos h2, if_pos (by omega), show q - j = (q - (j + 1)) + 1 by omega, List.getElem?_cons_succ]
      · rw [if_neg h2, if_neg (by omega)]
theorem cellsL_set (xs : List α) (i : Nat) (y : α) (hi : i < xs.length) : spl (cellsL xs) (i * Flt.k α) (Flt.cells y) = cellsL (xs.set i y) := by
  have hk := Flt.pos (α := α)
  apply List.ext_getElem?
  intro q
  rw [spl_in, Flt.len, cellsL_len]
  have e : q / Flt.k α * Flt.k α + q % Flt.k α = q := by rw [Nat.mul_comm]; exact Nat.div_add_mod _ _
  have hr : q % Flt.k α < Flt.k α := Nat.mod_lt _ hk
  by_cases hq : q < xs.length * Flt.k α
  · have hd : q / Flt.k α < xs.length := (Nat.div_lt_iff_lt_mul hk).2 hq
    by_cases hiq : q / Flt.k α = i
    · have h1 : (cellsL (xs.set i y))[q]? = (Flt.cells y)[q % Flt.k α]? := by
        have := cellsL_get (xs := xs.set i y) (i := q / Flt.k α) (j := q % Flt.k α) (x := y) (by rw [hiq]; simp [hi]) hr
        rwa [e] at this
      have e2 : i * Flt.k α + q % Flt.k α = q := by rw [← hiq]; exact e
      rw [h1, if_pos ⟨by omega, by omega, hq⟩]
      congr 1; omega
    · have h1 : (cellsL (xs.set i y))[q]? = (cellsL xs)[q]? := by
        have g1 := cellsL_get (xs := xs.set i y) (i := q / Flt.k α) (j := q % Flt.k α) (x := xs[q / Flt.k α]) (by rw [List.getElem?_set, if_neg (Ne.symm hiq)]; exact List.getElem?_eq_getElem hd) hr
        have g2 := cellsL_get (xs := xs) (List.getElem?_eq_getElem hd) hr
        rw [e] at g1 g2; rw [g1, g2]
      rw [h1, if_neg]
      rintro ⟨h2, h3, _⟩
      apply hiq
      have : i * Flt.k α + Flt.k α = (i + 1) * Flt.k α := by rw [Nat.add_mul, Nat.one_mul]
      have h5 : i ≤ q / Flt.k α := (Nat.le_div_iff_mul_le hk).2 h2
      have h6 : q / Flt.k α < i + 1 := (Nat.div_lt_iff_lt_mul hk).2 (by omega)
      omega
  · rw [if_neg (by omega)]
    rw [List.getElem?_eq_none (by rw [cellsL_len]; omega), List.getElem?_eq_none (by rw [cellsL_len, List.length_set]; omega)]
theorem cellsL_take (xs : List α) (m : Nat) : (cellsL xs).take (m * Flt.k α) = cellsL (xs.take m) := by
  by_cases hm : m ≤ xs.length
  · have h1 : cellsL xs = cellsL (xs.take m) ++ cellsL (xs.drop m) := by rw [← cellsL_append, List.take_append_drop]
    have h2 : (cellsL (xs.take m)).length = m * Flt.k α := by rw [cellsL_len]; simp [Nat.min_eq_left hm]
    rw [h1, List.take_append_of_le_length (by omega), List.take_of_length_le (by omega)]
  · rw [List.take_of_length_le (l := xs) (by omega), List.take_of_length_le]
    rw [cellsL_len]; exact Nat.mul_le_mul_right _ (by omega)
end
end Go.Proofs.Ytdkemfimhdjdiaa
