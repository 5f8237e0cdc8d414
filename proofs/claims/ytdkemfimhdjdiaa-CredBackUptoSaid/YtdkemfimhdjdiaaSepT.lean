/- A REGION THAT DRAWS ITS ORDER, with three kinds of operations: (a) it yields one value in every world of a class and leaves the world; (b) it bears a specification that later steps keep (it may make memory or call); (c) anything else, a barrier: it comes when nothing else may. One walk in the order of the text serves every order. -/
import Derived.Test.YtdkemfimhdjdiaaSepW
import Derived.Test.YtdkemfimhdjdiaaRows
import Derived.Laws.BitsAllLaws
namespace Go.Proofs.Ytdkemfimhdjdiaa.Rg
set_option linter.unusedSimpArgs false
set_option linter.unusedVariables false
open Go

/-- none: kind (a); some none: kind (c); some (some S): kind (b). -/
abbrev Kd := Option (Option (Value → World → Prop))

section
variable (P : Program) (ops : Array Oper) (T : Array Nat) (Rel : World → World → Prop) (Cl : World → Prop) (kd : Nat → Kd) (Q : Exit → Act → World → Prop)

def Inh3 (w0 : World) (F : Facts) : Prop := ∃ w, Rel w0 w ∧ Cl w ∧ All F w

def op3 (k : Nat) (K : World → Facts → Act → Prop) (w0 : World) (F : Facts) (a : Act) : Prop :=
  match ops[k]? with
  | .none => K w0 F a
  | .some o =>
    if Region.wanted o (yielded ops a.tmps) = true then
      match kd k with
      | .none => ∃ c, (∀ w, Cl w → stillAt P o a w c) ∧ K w0 F (a.put o.dst c)
      | .some (.some S) => (∀ w, Rel w0 w → Cl w → Pre ops T F k w → relAt P o a w (fun v w' => Rel w w' ∧ Cl w' ∧ S v w')) ∧ ∀ v, K w0 (upd F k (S v)) (a.put o.dst v)
      | .some .none => ∀ w, Rel w0 w → Cl w → All F w → o.wp P a w (fun a' w' => Cl w' ∧ K w' none a') Q ∨ (o.asks P a w ∧ LetsOut Q)
    else K w0 F (a.put o.dst undef)

def wpAny3 : Nat → Array Bool → World → Facts → Act → Prop
  | 0, listed, w0, F, a => Inh3 Rel Cl w0 F → Region.ready .any ops listed = [] ∧ ∀ w, Rel w0 w → Cl w → All F w → Q .normal a w
  | f + 1, listed, w0, F, a => Inh3 Rel Cl w0 F → (Region.ready .any ops listed = [] → ∀ w, Rel w0 w → Cl w → All F w → Q .normal a w) ∧
      ∀ i ∈ Region.ready .any ops listed, op3 P ops T Rel Cl kd Q i (wpAny3 f (listed.setIfInBounds i true)) w0 F a

/-- THE WALK IN THE ORDER OF THE TEXT. -/
def wp3 : List (Nat × Oper) → World → Facts → Act → Prop
  | [], w0, F, a => ∀ w, Rel w0 w → Cl w → All F w → Q .normal a w
  | (k, o) :: rest, w0, F, a =>
    if Region.wanted o (yielded ops a.tmps) = true then
      match kd k with
      | .none => ∃ c, (∀ w, Cl w → stillAt P o a w c) ∧ wp3 rest w0 F (a.put o.dst c)
      | .some (.some S) => (∀ w, Rel w0 w → Cl w → Pre ops T F k w → relAt P o a w (fun v w' => Rel w w' ∧ Cl w' ∧ S v w')) ∧
          ∀ v, (∃ w, Rel w0 w ∧ Cl w ∧ S v w) → wp3 rest w0 (upd F k (S v)) (a.put o.dst v)
      | .some .none => ∀ w, Rel w0 w → Cl w → All F w → o.wp P a w (fun a' w' => Cl w' ∧ wp3 rest w' none a') Q ∨ (o.asks P a w ∧ LetsOut Q)
    else wp3 rest w0 F (a.put o.dst undef)
end

def isB (kd : Nat → Kd) (k : Nat) : Bool := match kd k with | .some (.some _) => true | _ => false
def isC (kd : Nat → Kd) (k : Nat) : Bool := match kd k with | .some .none => true | _ => false
/-- Between a barrier and an operation of kind (b) the order is fixed. -/
def barB (ops : Array Oper) (T : Array Nat) (B C : List Nat) : Bool := C.all fun j => B.all fun i => bef ops T j i || bef ops T i j
def lex3 (ops : Array Oper) (C : List Nat) : List Nat → Array Bool → Bool
  | [], listed => (Region.ready .any ops listed).isEmpty
  | k :: ks, listed => (if C.contains k then decide (Region.ready .any ops listed = [k]) else (Region.ready .any ops listed).contains k && Region.free .any ops listed k) && lex3 ops C ks (listed.setIfInBounds k true)

section
variable {P : Program} {ops : Array Oper} {T : Array Nat} {Rel : World → World → Prop} {Cl : World → Prop} {kd : Nat → Kd} {Q : Exit → Act → World → Prop}

theorem inh3_upd_mono {w0 : World} {F : Facts} {j k : Nat} {S S' : World → Prop} (h : Inh3 Rel Cl w0 (upd (upd F j S') k S)) : Inh3 Rel Cl w0 (upd F k S) :=
  let ⟨w, h1, h0, h2⟩ := h; ⟨w, h1, h0, fun i => ⟨(h2 i).1.1, (h2 i).2⟩⟩
theorem inh3_upd {w0 : World} {F : Facts} {k : Nat} {S : World → Prop} (h : Inh3 Rel Cl w0 (upd F k S)) : Inh3 Rel Cl w0 F := let ⟨w, h1, h0, h2⟩ := h; ⟨w, h1, h0, fun i => (h2 i).1⟩
theorem wpAny3_of_inh {f : Nat} {listed : Array Bool} {w0 : World} {F : Facts} {a : Act} (h : Inh3 Rel Cl w0 F → wpAny3 P ops T Rel Cl kd Q f listed w0 F a) : wpAny3 P ops T Rel Cl kd Q f listed w0 F a := by
  cases f with
  | zero => intro hi; exact h hi hi
  | succ f => intro hi; exact h hi hi

/-- The walk over any order is one. -/
theorem wpAny_of_3 (hrefl : ∀ w, Rel w w) (htr : ∀ a b c, Rel a b → Rel b c → Rel a c) (hsp : ∀ k S, kd k = .some (.some S) → ∀ v w w', Rel w w' → S v w → S v w') :
    ∀ (f : Nat) (listed : Array Bool) (w0 : World) (F : Facts) (a : Act) (w : World), StableF Rel F → Rel w0 w → Cl w → All F w →
    wpAny3 P ops T Rel Cl kd Q f listed w0 F a → wpAny P .any ops Q f listed a w
  | 0, _, _, _, _, w, _, hw, hcl, hF, h => let h' := h ⟨w, hw, hcl, hF⟩; ⟨h'.1, h'.2 w hw hcl hF⟩
  | f + 1, listed, w0, F, a, w, hst, hw, hcl, hF, h => by
    have h' := h ⟨w, hw, hcl, hF⟩
    refine ⟨fun h0 => h'.1 h0 w hw hcl hF, fun i hi => ?_⟩
    have h1 := h'.2 i hi
    unfold op3 at h1
    unfold wpOp
    cases ho : ops[i]? with
    | none => simp only [ho] at h1; exact wpAny_of_3 hrefl htr hsp f _ w0 F a w hst hw hcl hF h1
    | some o =>
      simp only [ho] at h1
      by_cases hwant : Region.wanted o (yielded ops a.tmps) = true
      · simp only [hwant, if_true] at h1 ⊢
        cases hs : kd i with
        | none =>
          simp only [hs] at h1
          obtain ⟨c, h2, h3⟩ := h1
          left
          unfold Oper.wp
          rw [show (execOp a.eval o).run P w = .ok (.value c) w from h2 w hcl]
          exact wpAny_of_3 hrefl htr hsp f _ w0 F _ w hst hw hcl hF h3
        | some k2 =>
          cases k2 with
          | none =>
            simp only [hs] at h1
            refine (h1 w hw hcl hF).imp (Oper.wp_mono fun a' w' ⟨hcl', h3⟩ => ?_) id
            exact wpAny_of_3 hrefl htr hsp f _ w' none a' w' (fun _ _ _ _ _ => trivial) (hrefl _) hcl' (fun _ => trivial) h3
          | some S =>
            simp only [hs] at h1
            obtain ⟨h2, h3⟩ := h1
            left
            refine wp_of_rel (h2 w hw hcl (fun i _ => hF i)) fun v w' ⟨hr, hcl', hS⟩ => ?_
            exact wpAny_of_3 hrefl htr hsp f _ w0 _ _ w' (stable_upd hst (hsp i S hs v)) (htr _ _ _ hw hr) hcl' (fun k => ⟨hst k w w' hr (hF k), fun _ => hS⟩) (h3 v)
      · simp only [hwant] at h1 ⊢
        exact wpAny_of_3 hrefl htr hsp f _ w0 F _ w hst hw hcl hF h1

/-- A barrier, put ahead of an operation of kind (a) that is apart from it. -/
theorem wpOp_put3 {j : Nat} {oi oj : Oper} {v : Value} (hj : ops[j]? = .some oj) (hap : oi.apart ops oj = true) (hsj : ∀ cs b, oj.op ≠ .select cs b)
    (hQ : ∀ c a w, Q (.panic c) (a.put oi.dst v) w → Q (.panic c) a w) {K : Act → World → Prop} {a : Act} {w : World}
    (h : oj.wp P (a.put oi.dst v) w K Q ∨ (oj.asks P (a.put oi.dst v) w ∧ LetsOut Q)) :
    oj.wp P a w (fun a' w' => (∃ u D, a' = ({ a with defers := D } : Act).put oj.dst u) ∧ K (a'.put oi.dst v) w') Q ∨ (oj.asks P a w ∧ LetsOut Q) := by
  obtain ⟨h1, h2, h3⟩ := Oper.apart_spec hap
  rcases h with h | ⟨hasks, hlets⟩
  case inr => exact .inr ⟨by unfold Oper.asks at *; rw [execOp_put oj hsj a oi.dst v h1] at hasks; exact hasks, hlets⟩
  refine .inl ?_
  unfold Oper.wp at *
  rw [execOp_put oj hsj a oi.dst v h1] at h
  generalize (execOp a.eval oj).run P w = r at *
  cases r with
  | ok n w' =>
    cases n <;> simp only [Oper.upon] at h ⊢
    case value u => exact ⟨⟨u, a.defers, rfl⟩, by rw [← Act.put_comm a v u h2]; exact h⟩
    case skip => exact ⟨⟨undef, a.defers, rfl⟩, by rw [← Act.put_comm a v undef h2]; exact h⟩
    case defer d =>
      refine ⟨⟨undef, d :: a.defers, rfl⟩, ?_⟩
      rw [← Act.put_comm _ v undef h2, ← Act.put_defers]
      exact h
    case enter f args =>
      refine Calls.mono h fun e w'' he => ?_
      cases e with
      | returned u => exact ⟨⟨u, a.defers, rfl⟩, by rw [← Act.put_comm a v u h2]; exact he⟩
      | panicked c => exact hQ _ _ _ he
      | outgrown => exact he
    case row row args => exact Rows.mono h fun u w'' he => ⟨⟨u, a.defers, rfl⟩, by rw [← Act.put_comm a v u h2]; exact he⟩
  | halt x w' =>
    cases x <;> simp only [Oper.upon] at h ⊢
    case panic u => exact hQ _ _ _ h

/-- **An operation of kind (a) or (b) that may come up now may be taken first.** -/
theorem wpAny3_first (htr : ∀ a b c, Rel a b → Rel b c → Rel a c) (hsp : ∀ k S, kd k = .some (.some S) → ∀ v w w', Rel w w' → S v w → S v w') (hB : befOk ops T = true)
    (hbar : ∀ i j, isB kd i = true → isC kd j = true → bef ops T j i = true ∨ bef ops T i j = true) (hQ : ∀ c (a : Act) x v w, Q (.panic c) (a.put x v) w → Q (.panic c) a w)
    {i : Nat} {oi : Oper} (hi : ops[i]? = .some oi) (hic : isC kd i = false) (hsel : ∀ (j : Nat) (o : Oper) cs b, ops[j]? = .some o → o.op ≠ .select cs b) :
    ∀ (f : Nat) (listed : Array Bool) (w0 : World) (F : Facts) (a : Act), StableF Rel F → Closed ops T listed →
      (∀ j oj, ops[j]? = .some oj → j ≠ i → listed.getD j true = false → (∀ e ∈ oj.after, Region.binds .any e = true → e.on ≠ i) → oi.apart ops oj = true) →
      i ∈ Region.ready .any ops listed → op3 P ops T Rel Cl kd Q i (wpAny3 P ops T Rel Cl kd Q f (listed.setIfInBounds i true)) w0 F a →
      wpAny3 P ops T Rel Cl kd Q (f + 1) listed w0 F a := by
  intro f
  induction f with
  | zero =>
    intro listed w0 F a hst hc _ hr H hinh
    refine ⟨fun h => (by rw [h] at hr; cases hr), fun j hj => ?_⟩
    by_cases hji : j = i
    · subst hji; exact H
    · exfalso
      have hrj := ready_mono hj hji
      obtain ⟨w, hw, hcl, hF⟩ := hinh
      unfold op3 at H
      simp only [hi] at H
      by_cases hwant : Region.wanted oi (yielded ops a.tmps) = true
      · simp only [hwant, if_true] at H
        cases hs : kd i with
        | none =>
          simp only [hs] at H
          obtain ⟨c, h2, h3⟩ := H
          have := (h3 ⟨w, hw, hcl, hF⟩).1
          rw [this] at hrj; cases hrj
        | some k2 =>
          cases k2 with
          | none => unfold isC at hic; rw [hs] at hic; cases hic
          | some S =>
            simp only [hs] at H
            obtain ⟨h2, h3⟩ := H
            obtain ⟨v, w', hr', hcl', hS⟩ := relUpon_exists (h2 w hw hcl (fun i _ => hF i))
            have := (h3 v ⟨w', htr _ _ _ hw hr', hcl', fun k => ⟨hst k w w' hr' (hF k), fun _ => hS⟩⟩).1
            rw [this] at hrj; cases hrj
      · simp only [hwant] at H
        have := (H ⟨w, hw, hcl, hF⟩).1
        rw [this] at hrj; cases hrj
  | succ f ih =>
    intro listed w0 F a hst hc hfree hr H hinh
    refine ⟨fun h => (by rw [h] at hr; cases hr), fun j hj => ?_⟩
    by_cases hji : j = i
    · subst hji; exact H
    obtain ⟨hjun, oj, hoj, hall⟩ := mem_ready.1 hj
    have hnot : ∀ e ∈ oj.after, Region.binds .any e = true → e.on ≠ i := fun e he hb heq => by
      have h1 := hall e he hb
      have h0 := (mem_ready.1 hr).1
      rw [heq] at h1
      rcases Nat.lt_or_ge i listed.size with h' | h'
      · simp [h'] at h0 h1; rw [h0] at h1; cases h1
      · simp [Array.getElem?_eq_none h'] at h1
    have hap := hfree j oj hoj hji hjun hnot
    obtain ⟨a1, a2, a3⟩ := Oper.apart_spec hap
    have hseli := fun cs b => hsel i oi cs b hi
    have hselj := fun cs b => hsel j oj cs b hoj
    have hfree' : ∀ k ok, ops[k]? = .some ok → k ≠ i → (listed.setIfInBounds j true).getD k true = false →
        (∀ e ∈ ok.after, Region.binds .any e = true → e.on ≠ i) → oi.apart ops ok = true := fun k ok hk hki hun hno => by
      refine hfree k ok hk hki ?_ hno
      by_cases hjk : j = k
      · subst hjk; exact hjun
      · rw [getD_set_ne true hjk] at hun; exact hun
    have nij : ¬ bef ops T i j = true := not_bef hB hc hr hj
    have nji : ¬ bef ops T j i = true := not_bef hB hc hj hr
    have hc' := closed_set hB hc hj
    have hr' := ready_mono hr (Ne.symm hji)
    have hjr := ready_mono hj hji
    have exi : ∀ u D, execOp (({ a with defers := D } : Act).put oj.dst u).eval oi = execOp a.eval oi := fun u D => (execOp_put oi hseli { a with defers := D } oj.dst u a3).trans rfl
    have wai : ∀ u D, Region.wanted oi (yielded ops (({ a with defers := D } : Act).put oj.dst u).tmps) = Region.wanted oi (yielded ops a.tmps) := fun u D => (wanted_put oi { a with defers := D } oj.dst u a3).trans rfl
    have exi' : ∀ u, execOp (a.put oj.dst u).eval oi = execOp a.eval oi := fun u => exi u a.defers
    have wai' : ∀ u, Region.wanted oi (yielded ops (a.put oj.dst u).tmps) = Region.wanted oi (yielded ops a.tmps) := fun u => wai u a.defers
    have exj : ∀ v, execOp (a.put oi.dst v).eval oj = execOp a.eval oj := fun v => execOp_put oj hselj a oi.dst v a1
    have waj : ∀ v, Region.wanted oj (yielded ops (a.put oi.dst v).tmps) = Region.wanted oj (yielded ops a.tmps) := fun v => wanted_put oj a oi.dst v a1
    have comm : ∀ u v, (a.put oj.dst u).put oi.dst v = (a.put oi.dst v).put oj.dst u := fun u v => (Act.put_comm a v u a2).symm
    have lcomm : (listed.setIfInBounds j true).setIfInBounds i true = (listed.setIfInBounds i true).setIfInBounds j true := Array.setIfInBounds_comm _ _ hji
    -- j is a barrier: i is of kind (a), or passed over
    by_cases hjc : isC kd j = true ∧ Region.wanted oj (yielded ops a.tmps) = true
    · obtain ⟨hjc, hwj⟩ := hjc
      have hjk : kd j = .some .none := by
        unfold isC at hjc; revert hjc; cases kd j with
        | none => intro h; cases h
        | some x => cases x with
          | none => intro _; rfl
          | some S => intro h; cases h
      -- the value of i, at any defers
      obtain ⟨c, hcrun, hcont⟩ : ∃ c, (∀ (u : Value) (D : List Deferred) (w0' : World) (F' : Facts) (K : World → Facts → Act → Prop),
            K w0' F' ((({ a with defers := D } : Act).put oj.dst u).put oi.dst c) → op3 P ops T Rel Cl kd Q i K w0' F' (({ a with defers := D } : Act).put oj.dst u)) ∧
          wpAny3 P ops T Rel Cl kd Q (f + 1) (listed.setIfInBounds i true) w0 F (a.put oi.dst c) := by
        unfold op3 at H
        simp only [hi] at H
        by_cases hwant : Region.wanted oi (yielded ops a.tmps) = true
        · simp only [hwant, if_true] at H
          cases hs : kd i with
          | none =>
            simp only [hs] at H
            obtain ⟨c, h2, h3⟩ := H
            refine ⟨c, fun u D w0' F' K hK => ?_, h3⟩
            unfold op3
            simp only [hi, wai, hwant, if_true, hs]
            refine ⟨c, fun w hcl => ?_, hK⟩
            have := h2 w hcl
            unfold stillAt at *
            rw [exi]; exact this
          | some k2 =>
            cases k2 with
            | none => unfold isC at hic; rw [hs] at hic; cases hic
            | some S =>
              exfalso
              rcases hbar i j (by unfold isB; rw [hs]) hjc with h | h
              · exact nji h
              · exact nij h
        · simp only [hwant] at H
          refine ⟨undef, fun u D w0' F' K hK => ?_, H⟩
          unfold op3
          simp only [hi, wai, hwant]
          exact hK
      have s0 := (hcont hinh).2 j hjr
      unfold op3 at s0 ⊢
      simp only [hoj, waj, hwj, if_true, hjk] at s0 ⊢
      intro w hw hcl hF
      refine (wpOp_put3 hoj hap hselj (fun c a w h => hQ c a _ _ w h) (s0 w hw hcl hF)).imp (Oper.wp_mono fun a' w' ⟨⟨u, D, ha'⟩, hcl', hK⟩ => ⟨hcl', ?_⟩) id
      subst ha'
      refine ih _ w' none _ (fun _ _ _ _ _ => trivial) hc' hfree' hr' (hcrun u D w' none _ ?_)
      rw [lcomm]
      exact hK
    -- the instances of i
    obtain ⟨Inst, hex, hinst, hback⟩ : ∃ Inst : Value → (Facts → Facts) → Prop,
        (∃ v U, Inst v U ∧ Inh3 Rel Cl w0 (U F)) ∧
        (∀ v U, Inst v U → (∀ w, Pre ops T (U F) j w ↔ Pre ops T F j w) ∧ (∀ G S, U (upd G j S) = upd (U G) j S) ∧ (∀ G S, Inh3 Rel Cl w0 (U (upd G j S)) → Inh3 Rel Cl w0 (U G)) ∧ wpAny3 P ops T Rel Cl kd Q (f + 1) (listed.setIfInBounds i true) w0 (U F) (a.put oi.dst v)) ∧
        (∀ (G : Facts) (u : Value) (K : World → Facts → Act → Prop), (∀ w, Pre ops T G i w → Pre ops T F i w) → (∀ v U, Inst v U → K w0 (U G) ((a.put oj.dst u).put oi.dst v)) →
          op3 P ops T Rel Cl kd Q i K w0 G (a.put oj.dst u)) := by
      obtain ⟨w, hw, hcl, hF⟩ := hinh
      unfold op3 at H
      simp only [hi] at H
      by_cases hwant : Region.wanted oi (yielded ops a.tmps) = true
      · simp only [hwant, if_true] at H
        cases hs : kd i with
        | none =>
          simp only [hs] at H
          obtain ⟨c, h2, h3⟩ := H
          refine ⟨fun v U => v = c ∧ U = id, ⟨c, id, ⟨rfl, rfl⟩, w, hw, hcl, hF⟩, ?_, ?_⟩
          · rintro v U ⟨rfl, rfl⟩
            exact ⟨fun _ => Iff.rfl, fun _ _ => rfl, fun _ _ h => inh3_upd h, h3⟩
          · intro G u K hG hK
            unfold op3
            simp only [hi, wai', hwant, if_true, hs]
            refine ⟨c, fun w hcl => ?_, hK c id ⟨rfl, rfl⟩⟩
            have := h2 w hcl
            unfold stillAt at *
            rw [exi']; exact this
        | some k2 =>
          cases k2 with
          | none => unfold isC at hic; rw [hs] at hic; cases hic
          | some S =>
            simp only [hs] at H
            obtain ⟨h2, h3⟩ := H
            obtain ⟨v0, w', hr0, hcl0, hS0⟩ := relUpon_exists (h2 w hw hcl (fun i _ => hF i))
            refine ⟨fun v U => U = fun G => upd G i (S v), ⟨v0, _, rfl, w', htr _ _ _ hw hr0, hcl0, fun k => ⟨hst k w w' hr0 (hF k), fun _ => hS0⟩⟩, ?_, ?_⟩
            · rintro v U rfl
              exact ⟨fun w => pre_upd nji, fun G S' => upd_comm _ _ _ _ _, fun G S' h => inh3_upd_mono h, h3 v⟩
            · intro G u K hG hK
              unfold op3
              simp only [hi, wai', hwant, if_true, hs]
              refine ⟨fun w hw hcl hp => ?_, fun v => hK v _ rfl⟩
              have := h2 w hw hcl (hG w hp)
              unfold relAt at *
              rw [exi']; exact this
      · simp only [hwant] at H
        refine ⟨fun v U => v = undef ∧ U = id, ⟨undef, id, ⟨rfl, rfl⟩, w, hw, hcl, hF⟩, ?_, ?_⟩
        · rintro v U ⟨rfl, rfl⟩
          exact ⟨fun _ => Iff.rfl, fun _ _ => rfl, fun _ _ h => inh3_upd h, H⟩
        · intro G u K hG hK
          unfold op3
          simp only [hi, wai', hwant]
          exact hK undef id ⟨rfl, rfl⟩
    obtain ⟨v0, U0, hI0, hinh0⟩ := hex
    have stepj : ∀ v U, Inst v U → Inh3 Rel Cl w0 (U F) → op3 P ops T Rel Cl kd Q j (wpAny3 P ops T Rel Cl kd Q f ((listed.setIfInBounds i true).setIfInBounds j true)) w0 (U F) (a.put oi.dst v) :=
      fun v U hI hn => ((hinst v U hI).2.2.2 hn).2 j hjr
    have s0 := stepj v0 U0 hI0 hinh0
    unfold op3 at s0 ⊢
    simp only [hoj, waj] at s0 ⊢
    by_cases hwant : Region.wanted oj (yielded ops a.tmps) = true
    · simp only [hwant, if_true] at s0 ⊢
      cases hs : kd j with
      | none =>
        simp only [hs] at s0 ⊢
        obtain ⟨c, hc1, hc2⟩ := s0
        have hstill : ∀ w, Cl w → stillAt P oj a w c := fun w hcl => by
          have := hc1 w hcl
          unfold stillAt at *
          rw [← exj v0]; exact this
        refine ⟨c, hstill, ih _ w0 F _ hst hc' hfree' hr' (hback F c _ (fun _ h => h) fun v U hI => wpAny3_of_inh fun hn => ?_)⟩
        have sv := stepj v U hI hn
        unfold op3 at sv
        simp only [hoj, waj, hwant, if_true, hs] at sv
        obtain ⟨c', hc1', hc2'⟩ := sv
        obtain ⟨w, hw, hcl, hF⟩ := hn
        have e1 := hc1' w hcl
        have e2 := hstill w hcl
        unfold stillAt at e1 e2
        rw [exj, e2] at e1
        injection e1 with e1 _
        injection e1 with e1
        subst e1
        rw [lcomm, comm]
        exact hc2'
      | some k2 =>
        cases k2 with
        | none => exact absurd ⟨by unfold isC; rw [hs], hwant⟩ hjc
        | some S =>
          simp only [hs] at s0 ⊢
          obtain ⟨hc1, hc2⟩ := s0
          refine ⟨fun w hw hcl hp => ?_, fun u => ih _ w0 _ _ (stable_upd hst (hsp j S hs u)) hc' hfree' hr' (hback _ u _ (fun w h => (pre_upd nij).1 h) fun v U hI => wpAny3_of_inh fun hn => ?_)⟩
          · have := hc1 w hw hcl (((hinst v0 U0 hI0).1 w).2 hp)
            unfold relAt at *
            rw [← exj v0]; exact this
          · have hn' : Inh3 Rel Cl w0 (U F) := (hinst v U hI).2.2.1 F _ hn
            have sv := stepj v U hI hn'
            unfold op3 at sv
            simp only [hoj, waj, hwant, if_true, hs] at sv
            rw [lcomm, comm, (hinst v U hI).2.1]
            exact sv.2 u
    · simp only [hwant] at s0 ⊢
      refine ih _ w0 F _ hst hc' hfree' hr' (hback F undef _ (fun _ h => h) fun v U hI => wpAny3_of_inh fun hn => ?_)
      have sv := stepj v U hI hn
      unfold op3 at sv
      simp only [hoj, waj, hwant] at sv
      rw [lcomm, comm]
      exact sv

theorem wpAny3_lex (htr : ∀ a b c, Rel a b → Rel b c → Rel a c) (hsp : ∀ k S, kd k = .some (.some S) → ∀ v w w', Rel w w' → S v w → S v w') (hB : befOk ops T = true)
    (hbar : ∀ i j, isB kd i = true → isC kd j = true → bef ops T j i = true ∨ bef ops T i j = true) (hQ : ∀ c (a : Act) x v w, Q (.panic c) (a.put x v) w → Q (.panic c) a w)
    (C : List Nat) (hC : ∀ k, isC kd k = C.contains k) (hs : Region.noSelect ops = true) : ∀ (l : List (Nat × Oper)) (listed : Array Bool) (w0 : World) (F : Facts) (a : Act), (∀ p ∈ l, ops[p.1]? = .some p.2) →
    lex3 ops C (l.map (·.1)) listed = true → Closed ops T listed → StableF Rel F → wp3 P ops T Rel Cl kd Q l w0 F a → wpAny3 P ops T Rel Cl kd Q l.length listed w0 F a
  | [], _, _, _, _, _, hL, _, _, h => fun _ => ⟨by simpa [lex3] using hL, h⟩
  | (k, o) :: l, listed, w0, F, a, hl, hL, hc, hst, h => by
    have h0 : ops[k]? = .some o := hl (k, o) (by simp)
    simp only [List.map_cons, lex3, Bool.and_eq_true] at hL
    obtain ⟨hL1, hL'⟩ := hL
    have hl' : ∀ p ∈ l, ops[p.1]? = .some p.2 := fun p hp => hl p (by simp [hp])
    by_cases hkc : C.contains k = true
    · rw [if_pos hkc, decide_eq_true_eq] at hL1
      have hr' : k ∈ Region.ready .any ops listed := by rw [hL1]; simp
      have IH := fun w0 F a hst h => wpAny3_lex htr hsp hB hbar hQ C hC hs l (listed.setIfInBounds k true) w0 F a hl' hL' (closed_set hB hc hr') hst h
      intro hinh
      refine ⟨fun h => (by rw [hL1] at h; cases h), fun i hi => ?_⟩
      rw [hL1] at hi
      obtain rfl : i = k := by simpa using hi
      have hkk : kd i = .some .none := by
        have := hC i
        rw [hkc] at this
        unfold isC at this; revert this; cases kd i with
        | none => intro h; cases h
        | some x => cases x with
          | none => intro _; rfl
          | some S => intro h; cases h
      unfold op3
      unfold wp3 at h
      simp only [h0]
      by_cases hwant : Region.wanted o (yielded ops a.tmps) = true
      · simp only [hwant, if_true, hkk] at h ⊢
        intro w hw hcl hF
        exact (h w hw hcl hF).imp (Oper.wp_mono fun a' w' ⟨h1, h2⟩ => ⟨h1, IH w' none a' (fun _ _ _ _ _ => trivial) h2⟩) id
      · simp only [hwant] at h ⊢
        exact IH _ _ _ hst h
    · rw [if_neg hkc, Bool.and_eq_true] at hL1
      obtain ⟨hr, hf⟩ := hL1
      have hr' : k ∈ Region.ready .any ops listed := by simpa using hr
      have IH := fun w0 F a hst h => wpAny3_lex htr hsp hB hbar hQ C hC hs l (listed.setIfInBounds k true) w0 F a hl' hL' (closed_set hB hc hr') hst h
      have hkc' : isC kd k = false := by rw [hC]; simpa using hkc
      refine wpAny3_first htr hsp hB hbar hQ h0 hkc' (Region.noSelect_spec hs) l.length listed w0 F a hst hc (Region.free_spec h0 hf) hr' ?_
      unfold op3
      unfold wp3 at h
      simp only [h0]
      by_cases hwant : Region.wanted o (yielded ops a.tmps) = true
      · simp only [hwant, if_true] at h ⊢
        cases hs : kd k with
        | none =>
          simp only [hs] at h ⊢
          obtain ⟨c, h1, h2⟩ := h
          exact ⟨c, h1, IH _ _ _ hst h2⟩
        | some k2 =>
          cases k2 with
          | none => unfold isC at hkc'; rw [hs] at hkc'; cases hkc'
          | some S =>
            simp only [hs] at h ⊢
            obtain ⟨h1, h2⟩ := h
            exact ⟨h1, fun v => wpAny3_of_inh fun ⟨w, hw, hcl, hF⟩ => IH _ _ _ (stable_upd hst (hsp k S hs v)) (h2 v ⟨w, hw, hcl, (hF k).2 rfl⟩)⟩
      · simp only [hwant] at h ⊢
        exact IH _ _ _ hst h

section steps
variable {w0 : World} {o : Oper} {rest : List (Nat × Oper)} {k : Nat} {F : Facts} {a : Act}
theorem w3_nil (h : ∀ w, Rel w0 w → Cl w → All F w → Q .normal a w) : wp3 P ops T Rel Cl kd Q [] w0 F a := h
theorem w3_skip (hw : Region.wanted o (yielded ops a.tmps) = false) (h : wp3 P ops T Rel Cl kd Q rest w0 F (a.put o.dst undef)) : wp3 P ops T Rel Cl kd Q ((k, o) :: rest) w0 F a := by
  unfold wp3; rw [if_neg (by rw [hw]; decide)]; exact h
theorem w3_pure (hw : Region.wanted o (yielded ops a.tmps) = true) (hs : kd k = .none) (h : ∃ c, (∀ w, Cl w → (execOp a.eval o).run P w = .ok (.value c) w) ∧ wp3 P ops T Rel Cl kd Q rest w0 F (a.put o.dst c)) :
    wp3 P ops T Rel Cl kd Q ((k, o) :: rest) w0 F a := by
  unfold wp3; rw [if_pos hw, hs]; exact h
theorem w3_some {S : Value → World → Prop} (hw : Region.wanted o (yielded ops a.tmps) = true) (hs : kd k = .some (.some S)) (hc : ∀ w, Rel w0 w → Cl w → Pre ops T F k w → relAt P o a w (fun v w' => Rel w w' ∧ Cl w' ∧ S v w'))
    (h : ∀ v, (∃ w, Rel w0 w ∧ Cl w ∧ S v w) → wp3 P ops T Rel Cl kd Q rest w0 (upd F k (S v)) (a.put o.dst v)) : wp3 P ops T Rel Cl kd Q ((k, o) :: rest) w0 F a := by
  unfold wp3; rw [if_pos hw, hs]; exact ⟨hc, h⟩
theorem w3_bar (hw : Region.wanted o (yielded ops a.tmps) = true) (hs : kd k = .some .none)
    (h : ∀ w, Rel w0 w → Cl w → All F w → ∀ K : Value → World → Prop, (∀ v w', Cl w' → wp3 P ops T Rel Cl kd Q rest w' none (a.put o.dst v) → K v w') → relAt P o a w K) : wp3 P ops T Rel Cl kd Q ((k, o) :: rest) w0 F a := by
  unfold wp3; rw [if_pos hw, hs]
  exact fun w hr hcl hF => .inl (wp_of_rel (h w hr hcl hF (fun v w' => Cl w' ∧ wp3 P ops T Rel Cl kd Q rest w' none (a.put o.dst v)) fun v w' h1 h2 => ⟨h1, h2⟩) fun v w' h => h)
end steps
end
/-- The kinds: the listed specifications; the listed barriers; all else is of kind (a). -/
def kdOf {Rel : World → World → Prop} (Bs : List (Nat × Sp Rel)) (Cs : List Nat) (k : Nat) : Kd := if Cs.contains k then .some .none else (spOf Bs k).map .some
theorem kdOf_C {Rel : World → World → Prop} (Bs : List (Nat × Sp Rel)) (Cs : List Nat) (k : Nat) : isC (kdOf Bs Cs) k = Cs.contains k := by
  unfold isC kdOf
  cases h : Cs.contains k
  · simp only [Bool.false_eq_true, if_false]
    cases spOf Bs k <;> rfl
  · rfl
theorem kdOf_B {Rel : World → World → Prop} (Bs : List (Nat × Sp Rel)) (Cs : List Nat) (k : Nat) (h : isB (kdOf Bs Cs) k = true) : k ∈ Bs.map (·.1) := by
  unfold isB kdOf at h
  cases h' : Cs.contains k
  · rw [h'] at h
    simp only [Bool.false_eq_true, if_false] at h
    clear h'
    induction Bs with
    | nil => simp [spOf] at h
    | cons p Bs ih =>
      obtain ⟨i, s⟩ := p
      unfold spOf at h
      by_cases hk : k = i
      · simp [hk]
      · rw [if_neg hk] at h
        simp only [List.map_cons, List.mem_cons]
        exact .inr (ih h)
  · rw [h'] at h; simp at h
theorem kdOf_sp {Rel : World → World → Prop} (Bs : List (Nat × Sp Rel)) (Cs : List Nat) (k : Nat) (S : Value → World → Prop) (h : kdOf Bs Cs k = .some (.some S)) : ∀ v w w', Rel w w' → S v w → S v w' := by
  unfold kdOf at h
  split at h
  · cases h
  · cases hs : spOf Bs k with
    | none => rw [hs] at h; cases h
    | some S' =>
      rw [hs] at h
      injection h with h
      injection h with h
      subst h
      exact spOf_stable Bs k S' hs
/-- The operations in a lawful order of their own. -/
def inOrd (l : List Oper) (ord : List Nat) : List (Nat × Oper) := ord.filterMap fun k => (l[k]?).map fun o => (k, o)
theorem inOrd_mem {l : List Oper} {ord : List Nat} : ∀ p ∈ inOrd l ord, l.toArray[p.1]? = .some p.2 := by
  intro p hp
  unfold inOrd at hp
  rw [List.mem_filterMap] at hp
  obtain ⟨k, _, hk⟩ := hp
  cases h : l[k]? with
  | none => rw [h] at hk; cases hk
  | some o => rw [h] at hk; injection hk with hk; subst hk; simpa using h
theorem wp_region3 {P : Program} {Rel : World → World → Prop} (T : Array Nat) (Bs : List (Nat × Sp Rel)) (Cs : List Nat) (Cl : World → Prop) (ord : List Nat) {id : Nat} {Q : Exit → Act → World → Prop} {a : Act} {w : World} {l : List Oper} (hm : P.follows .mixedOrders = true)
    (hL : (Region.noSelect l.toArray && (lex3 l.toArray Cs ((inOrd l ord).map (·.1)) (Array.replicate l.length false) && (inOrd l ord).length == l.length)) = true) (hB : befOk l.toArray T = true) (hb : barB l.toArray T (Bs.map (·.1)) Cs = true)
    (hrefl : ∀ w, Rel w w) (htr : ∀ a b c, Rel a b → Rel b c → Rel a c) (hQ : ∀ c (a : Act) x v w, Q (.panic c) (a.put x v) w → Q (.panic c) a w) (hcl : Cl { w with drawn := w.drawn + 1 })
    (h : wp3 P l.toArray T Rel Cl (kdOf Bs Cs) Q (inOrd l ord) { w with drawn := w.drawn + 1 } none a) : (Code.region id l.toArray true).wp P Q a w := by
  rw [Bool.and_eq_true, Bool.and_eq_true] at hL
  have hlen : (inOrd l ord).length = l.length := by simpa using hL.2.2
  refine wp_region_any hm (wpAny_of_3 (T := T) hrefl htr (kdOf_sp Bs Cs) _ _ { w with drawn := w.drawn + 1 } none _ _ (fun _ _ _ _ _ => trivial) (hrefl _) hcl (fun _ => trivial) ?_)
  have := wpAny3_lex (P := P) (Q := Q) (Cl := Cl) htr (kdOf_sp Bs Cs) hB (fun i j hi hj => ?_) hQ Cs (kdOf_C Bs Cs) hL.1 (inOrd l ord) (Array.replicate l.length false) { w with drawn := w.drawn + 1 } none a inOrd_mem hL.2.1 (fun k m hk => by
    exfalso
    by_cases h : k < l.length <;> simp [h] at hk) (fun _ _ _ _ _ => trivial) h
  · rw [hlen] at this; simpa using this
  · rw [kdOf_C] at hj
    have h1 := List.all_eq_true.1 hb j (by simpa using hj)
    have h2 := List.all_eq_true.1 h1 i (kdOf_B Bs Cs i hi)
    simpa using h2
end Go.Proofs.Ytdkemfimhdjdiaa.Rg

namespace Go.Proofs.Ytdkemfimhdjdiaa
set_option linter.unusedSimpArgs false
set_option linter.unusedVariables false
open Go Go.RowKit

set_option maxHeartbeats 400000 in
theorem clone_any (a : Option Addr) (n c : Nat) (xs : List UInt8) (w : World) (h : By w a n xs) (hc : n ≤ c ∧ c ≤ maxLen) (hn : n ≤ 140737488355328) :
    Calls Try.prog 56 #[.slice a n c] w fun e w' => ∃ v, e = .returned v ∧ w'.ownsRow w.heap.size 5 1 v n (xs.map B) ∧ Ext w w' := by
  obtain ⟨i0, hi, hz0, hz1, hz2⟩ := info_parts (P := Try.prog) (e := 5) (z := .int .u8 0) (size := 1) (bytes := 1) (by kernel_rfl)
  have HI := Lib.hid (And.intro hi (And.intro hz0 (And.intro hz1 hz2)))
  clear hi hz0 hz1 hz2
  have H := Lib.hid h; clear h
  have HC := Lib.hid hc; clear hc
  cases a with
  | none =>
    have hn0 : n = 0 := by
      rcases Nat.eq_zero_or_pos n with h | h
      · exact h
      · obtain ⟨b, off, h2, _⟩ := H.out.2 h; cases h2
    subst hn0
    have hx : xs = [] := List.eq_nil_of_length_eq_zero H.out.1.symm
    subst hx
    have he := fun w => Lib.run_eql_slice_nil (P := Try.prog) w 30 5 none 0 c 0 0 Try.underlying30
    go_enter Try.func56, Try.ntmps56
    go_wp2
    go_ret
    exact ⟨_, rfl, World.ownsRow_nil _ _ _ _, Ext.refl _⟩
  | some ad =>
    have he := fun w => Lib.run_eql_slice_nil (P := Try.prog) w 30 5 (some ad) n c 0 0 Try.underlying30
    go_enter Try.func56, Try.ntmps56
    go_wp2_with (refine wpList_append_any rfl (.tmp 5) (.tmp 6) 30 rfl w.heap.size 5 i0 (.int .u8 0) 1 1 Try.underlying30 HI.out.1 HI.out.2.1 HI.out.2.2.1 HI.out.2.2.2 rfl (by decide) _ 0 [] rfl (own_empty _ w.heap.size _ _ rfl (Nat.le_refl _)) _ _ _ (xs.map B) rfl (By.flat (H.out.ext (Ext.new _ _))) (B_one _) ?c1 ?c2 ?c3 ?c4)
    case c1 => simp only [maxLen]; omega
    case c2 => omega
    case c3 => simp
    intro v w1 hown hg
    have hx : Ext w w1 := (Ext.new w _).grown hg (fun k hk => by simp [Value.ownBlock] at hk; omega)
    have HO := Lib.hid (And.intro hown hx); clear hown hg hx
    go_wp2
    go_ret
    exact ⟨_, rfl, by have := HO.out.1; simpa using this, HO.out.2⟩
/-- The pen at block p has written xs; its bytes lie in block g. -/
def PenAt (w : World) (p : Nat) (g : Option Nat) (xs : List UInt8) : Prop := ∃ sv, Blk w p [sv] ∧ w.ownsRow 0 5 1 sv xs.length (xs.map B) ∧ sv.ownBlock = g ∧ g ≠ some p
/-- The pen's own blocks alone have changed; its bytes lie where they lay, or in a new block. -/
def PenStep (p : Nat) (w : World) (g : Option Nat) (w' : World) (g' : Option Nat) : Prop := MutO (fun k => k = p ∨ g = some k) w w' ∧ (g' = g ∨ ∃ k, g' = some k ∧ w.heap.size ≤ k)
theorem PenStep.refl (p : Nat) (w : World) (g : Option Nat) : PenStep p w g w g := ⟨MutO.refl _ _, .inl rfl⟩
theorem PenStep.trans {p : Nat} {w w1 w2 : World} {g g1 g2 : Option Nat} (h : PenStep p w g w1 g1) (k : PenStep p w1 g1 w2 g2) : PenStep p w g w2 g2 := by
  refine ⟨h.1.trans k.1 fun i hi hf => hf.imp id fun e => ?_, ?_⟩
  · rcases h.2 with h2 | ⟨j, h2, h3⟩
    · rw [← h2]; exact e
    · rw [h2] at e; injection e with e; omega
  · rcases k.2 with rfl | ⟨j, h2, h3⟩
    · exact h.2
    · exact .inr ⟨j, h2, Nat.le_trans h.1.size h3⟩
theorem PenStep.ext {p : Nat} {w0 w w' : World} {g g' : Option Nat} (h : PenStep p w g w' g') (hx : Ext w0 w) (hp : w0.heap.size ≤ p) (hg : ∀ k, g = some k → w0.heap.size ≤ k) : Ext w0 w' ∧ ∀ k, g' = some k → w0.heap.size ≤ k := by
  refine ⟨h.1.ext hx fun k hk => ?_, fun k hk => ?_⟩
  · rcases hk with rfl | hk
    · exact hp
    · exact hg k hk
  · rcases h.2 with h2 | ⟨j, h2, h3⟩
    · exact hg k (h2 ▸ hk)
    · rw [h2] at hk; injection hk with hk; subst hk; exact Nat.le_trans hx.le h3
theorem PenAt.cell {w : World} {p : Nat} {g : Option Nat} {xs : List UInt8} (h : PenAt w p g xs) : ∃ sv, w.cell? ⟨p, 0, none⟩ = some sv ∧ w.frozen? ⟨p, 0, none⟩ = false ∧ w.ownsRow 0 5 1 sv xs.length (xs.map B) ∧ sv.ownBlock = g ∧ g ≠ some p ∧ p < w.heap.size := by
  obtain ⟨sv, h1, h2, h3, h4⟩ := h
  exact ⟨sv, h1.cell 0, h1.free 0, h2, h3, h4, h1.lt⟩
theorem PenAt.mut {fp : Nat → Prop} {w w' : World} {p : Nat} {g : Option Nat} {xs : List UInt8} (h : PenAt w p g xs) (hm : MutO fp w w') (hp : ¬ fp p) (hg : ∀ k, g = some k → ¬ fp k) : PenAt w' p g xs := by
  obtain ⟨sv, ⟨ty, h1⟩, h2, h3, h4⟩ := h
  refine ⟨sv, ⟨ty, by rw [hm.block p (Array.getElem?_eq_some_iff.1 h1).1 hp]; exact h1⟩, ⟨h2.1, ?_⟩, h3, h4⟩
  rcases h2.2 with h5 | ⟨k, cap, cur, hv, hb, hk, r⟩
  · exact .inl h5
  · exact .inr ⟨k, cap, cur, hv, hb, by rw [hm.block k (Array.getElem?_eq_some_iff.1 hk).1 (hg k (by rw [← h3, hv]; rfl))]; exact hk, r⟩
/-- p.b = append(p.b, ys..), behind the append and the store. -/
theorem pen_put {w0 w w1 : World} {p : Nat} {g : Option Nat} {xs ys : List UInt8} {v' sv : Value} (h : PenAt w0 p g xs) (hx : Ext w0 w) (hsv : w0.cell? ⟨p, 0, none⟩ = some sv)
    (ho : w1.ownsRow 0 5 1 v' (xs.length + ys.length) (xs.map B ++ ys.map B)) (hg : GrownBy w w1 sv.ownBlock) (hb : v'.ownBlock = sv.ownBlock ∨ v'.ownBlock = some w.heap.size) :
    PenAt (w1.setCell ⟨p, 0, none⟩ v') p v'.ownBlock (xs ++ ys) ∧ PenStep p w0 g (w1.setCell ⟨p, 0, none⟩ v') v'.ownBlock := by
  obtain ⟨sv', h1, h2, h3, h4⟩ := h
  have e : sv' = sv := by have := h1.cell 0; rw [hsv] at this; simpa using this.symm
  subst e
  have hlt := h1.lt
  have hle := hx.le
  have hne : v'.ownBlock ≠ some p := by
    rcases hb with hb | hb
    · rw [hb, h3]; exact h4
    · rw [hb]; intro e; injection e with e; omega
  have hb1 : Blk w1 p [sv'] := by
    obtain ⟨ty, h5⟩ := h1
    refine ⟨ty, ?_⟩
    rw [hg.block p (by omega) (by rw [h3]; exact fun e => h4 e.symm)]
    exact hx.block h5
  refine ⟨⟨v', ?_, ?_, rfl, hne⟩, ?_, ?_⟩
  · have := hb1.set 0 v'; simpa using this
  · rw [List.length_append, List.map_append]
    refine ⟨ho.1, ?_⟩
    rcases ho.2 with h5 | ⟨k, cap, cur, hv, hb0, hk, r⟩
    · exact .inl h5
    · refine .inr ⟨k, cap, cur, hv, hb0, ?_, r⟩
      rw [Below.heap_setCell _ _ _ _ (fun e => hne (by rw [hv]; simp [Value.ownBlock, e]))]
      exact hk
  · refine MutO.set (MutO.grown (MutO.of_ext hx) hg fun k hk _ => ?_) (Or.inl rfl) _
    right; rw [← h3]; exact hk
  · rcases hb with hb | hb
    · exact .inl (hb.trans h3)
    · exact .inr ⟨_, hb, hle⟩

/-- A slice whose block is outside the footprint stays. -/
theorem By.mut {fp : Nat → Prop} {w w' : World} {a : Option Addr} {n : Nat} {xs : List UInt8} (h : By w a n xs) (hm : MutO fp w w') (ha : 0 < n → ∀ ad, a = some ad → ¬ fp ad.block) : By w' a n xs := by
  refine ⟨h.1, fun h0 => ?_⟩
  obtain ⟨b, off, rfl, hc⟩ := h.2 h0
  refine ⟨b, off, rfl, fun i x hi => ?_⟩
  have h1 := hc i x hi
  unfold byteR at *
  have hlt := World.block_lt_of_cell? w _ h1
  rw [World.cell?_of_block (w := w) (hm.block b hlt (ha h0 _ rfl))]
  exact h1
/-- The bytes of a number. -/
def numF : Nat → Nat → List UInt8
  | 0, _ => []
  | f + 1, n => if n < 128 then [UInt8.ofNat n] else UInt8.ofNat (128 + n % 128) :: numF f (n / 128)
def numB (n : Nat) : List UInt8 := numF 10 n
theorem numF_len (f n : Nat) : (numF f n).length ≤ f := by
  induction f generalizing n with
  | zero => simp [numF]
  | succ f ih => unfold numF; split <;> simp; exact ih _

theorem or_128 : ∀ x : Nat, x < 256 → x ||| 128 = 128 + x % 128 := by decide +kernel
theorem B_or (m : Nat) : Value.int .u8 (bits .or .u8 ((m : Int) % 256) 128) = B (UInt8.ofNat (128 + m % 128)) := by
  have h1 := u8_or_nat (m % 256) 128 (by omega) (by omega)
  rw [show (((m % 256 : Nat) : Int)) = (m : Int) % 256 by omega, show ((128 : Nat) : Int) = 128 by rfl, or_128 _ (by omega)] at h1
  rw [h1]
  unfold B
  congr 2
  simp
  omega
theorem B_nat (m : Nat) (h : m < 256) : Value.int .u8 (m : Int) = B (UInt8.ofNat m) := by
  unfold B; congr 2; simp; omega
theorem numF_more (f m : Nat) (h : 128 ≤ m) : numF (f + 1) m = UInt8.ofNat (128 + m % 128) :: numF f (m / 128) := by
  rw [numF, if_neg (by omega)]
theorem numF_last (f m : Nat) (h : ¬ 128 ≤ m) : numF (f + 1) m = [UInt8.ofNat m] := by
  rw [numF, if_pos (by omega)]

set_option maxRecDepth 100000 in
set_option maxHeartbeats 1000000 in
theorem penNumber_any (p : Nat) (g : Option Nat) (xs : List UInt8) (n : Nat) (w : World) (h : PenAt w p g xs) (hn : n < 9223372036854775808) (hl : xs.length ≤ 100000000) :
    Calls Try.prog 72 #[.pointer (some ⟨p, 0, none⟩), .int .i64 (n : Int)] w fun e w' => e = .returned (.bool true) ∧ ∃ g', PenAt w' p g' (xs ++ numB n) ∧ PenStep p w g w' g' := by
  obtain ⟨i0, hi, hz0, hz1, hz2⟩ := info_parts (P := Try.prog) (e := 5) (z := .int .u8 0) (size := 1) (bytes := 1) (by kernel_rfl)
  have HI := Lib.hid (And.intro hi (And.intro hz0 (And.intro hz1 hz2)))
  clear hi hz0 hz1 hz2
  have HP := Lib.hid h; clear h
  go_enter Try.func72, Try.ntmps72
  go_wp2
  go_loopw [1] (fun i wr => ∃ (k m : Nat) (done : List UInt8), m * 128 ^ k ≤ n ∧ k ≤ 9 ∧ i = .int .i64 (m : Int) ∧ numF 10 n = done ++ numF (10 - k) m ∧ ∃ g', PenAt wr p g' (xs ++ done) ∧ PenStep p w g wr g') (fun i _ => (intOf i).toNat)
  case atStart => exact ⟨0, n, [], by simp, by omega, rfl, by simp, g, by simpa using HP.out, PenStep.refl _ _ _⟩
  case round =>
    obtain ⟨k, m, done, hmk, hk, rfl, hnum, g', hpen, hstep⟩ := hrel
    have hm : m < 9223372036854775808 := by
      have h1 : m * 1 ≤ m * 128 ^ k := Nat.mul_le_mul_left m (Nat.one_le_pow _ _ (by decide))
      omega
    have hdl : done.length ≤ 10 := by
      have h1 := congrArg List.length hnum
      have h2 := numF_len 10 n
      rw [List.length_append] at h1
      omega
    obtain ⟨sv, hc, hf, ho, hsg, hgp, hplt⟩ := hpen.cell
    have HP' := Lib.hid hpen; clear hpen
    have HS := Lib.hid hstep; clear hstep
    have HO := Lib.hid ho; clear ho
    have HN := Lib.hid hnum; clear hnum
    have HK := Lib.hid hmk; clear hmk
    have HG := Lib.hid hsg; clear hsg
    have HG2 : Hid (some p ≠ g') := Lib.hid (fun e => hgp e.symm)
    clear hgp
    by_cases hlt : 128 ≤ m
    · go_wp2_with (refine wpList_append_fp rfl (.tmp 19) (.tmp 23) 30 rfl 0 5 i0 (.int .u8 0) 1 1 Try.underlying30 HI.out.1 HI.out.2.1 HI.out.2.2.1 HI.out.2.2.2 rfl (by decide) _ _ ((xs ++ done).map B) rfl (own_ext HO.out (Ext.new _ _)) _ 1 1 [_] rfl (flat_one _ _ _) (one_mem rfl) ?c1 ?c2 ?c3 ?c4)
      case c1 => simp [maxLen]; omega
      case c2 => simp; omega
      case c3 => omega
      intro v' w1 hown hgr hblk
      obtain ⟨va, vc, rfl⟩ := own_slice hown
      obtain ⟨hc0, hf0⟩ := alloc_at _ hc hf
      obtain ⟨hc1, hf1⟩ := grown_at hgr hc0 hf0 (by rw [HG.out]; exact HG2.out)
      have hput := pen_put (ys := [UInt8.ofNat (128 + m % 128)]) HP'.out (Ext.new _ _) hc (by rw [B_or] at hown; simpa [Nat.add_assoc] using hown) hgr (by simpa [Nat.add_assoc] using hblk)
      have HPut := Lib.hid hput
      clear hput hown hgr hblk hc0 hf0
      go_wp2
      go_roundw
      case rel =>
        refine ⟨k + 1, m / 128, done ++ [UInt8.ofNat (128 + m % 128)], ?_, ?_, by go_num, ?_, _, by rw [← List.append_assoc]; exact HPut.out.1, HS.out.trans HPut.out.2⟩
        · have h1 := HK.out
          rw [Nat.pow_succ, Nat.mul_comm (128 ^ k), ← Nat.mul_assoc]
          exact Nat.le_trans (Nat.mul_le_mul_right _ (Nat.div_mul_le_self m 128)) h1
        · rcases Nat.lt_or_ge k 9 with h | h
          · omega
          · exfalso
            obtain rfl : k = 9 := by omega
            have h1 := HK.out
            have h2 : 128 * 128 ^ 9 ≤ m * 128 ^ 9 := Nat.mul_le_mul_right _ hlt
            have h3 : (128 : Nat) ^ 9 = 9223372036854775808 := by decide
            rw [h3] at h1 h2
            omega
        · rcases Nat.lt_or_ge k 9 with h | h
          · rw [HN.out, show 10 - k = (9 - k) + 1 by omega, numF_more _ _ hlt, List.append_assoc, show 10 - (k + 1) = 9 - k by omega]; rfl
          · exfalso
            obtain rfl : k = 9 := by omega
            have h1 := HK.out
            have h2 : 128 * 128 ^ 9 ≤ m * 128 ^ 9 := Nat.mul_le_mul_right _ hlt
            have h3 : (128 : Nat) ^ 9 = 9223372036854775808 := by decide
            rw [h3] at h1 h2
            omega
      case measure => simp [intOf]; omega
    · skip
      go_wp2_with (refine wpList_append_fp rfl (.tmp 31) (.tmp 34) 30 rfl 0 5 i0 (.int .u8 0) 1 1 Try.underlying30 HI.out.1 HI.out.2.1 HI.out.2.2.1 HI.out.2.2.2 rfl (by decide) _ _ ((xs ++ done).map B) rfl (own_ext HO.out (Ext.new _ _)) _ 1 1 [_] rfl (flat_one _ _ _) (one_mem rfl) ?d1 ?d2 ?d3 ?d4)
      case d1 => simp [maxLen]; omega
      case d2 => simp; omega
      case d3 => omega
      intro v' w1 hown hgr hblk
      obtain ⟨va, vc, rfl⟩ := own_slice hown
      obtain ⟨hc0, hf0⟩ := alloc_at _ hc hf
      obtain ⟨hc1, hf1⟩ := grown_at hgr hc0 hf0 (by rw [HG.out]; exact HG2.out)
      have hput := pen_put (ys := [UInt8.ofNat m]) HP'.out (Ext.new _ _) hc (by rw [B_nat m (by omega)] at hown; simpa [Nat.add_assoc] using hown) hgr (by simpa [Nat.add_assoc] using hblk)
      have HPut := Lib.hid hput
      clear hput hown hgr hblk hc0 hf0
      go_wp2
      go_ret
      refine ⟨rfl, _, ?_, HS.out.trans HPut.out.2⟩
      have e : numB n = done ++ [UInt8.ofNat m] := by
        unfold numB
        rw [HN.out, show 10 - k = (9 - k) + 1 by omega, numF_last _ _ hlt]
      rw [e, ← List.append_assoc]
      exact HPut.out.1
set_option maxRecDepth 100000 in
set_option maxHeartbeats 1000000 in
theorem penNumber_neg (a : Option Addr) (n : Int) (w : World) (h : a = none ∨ n < 0) :
    Calls Try.prog 72 #[.pointer a, .int .i64 n] w fun e w' => e = .returned (.bool false) ∧ w = w' := by
  cases a with
  | none =>
    go_enter Try.func72, Try.ntmps72
    go_wp2
    go_ret
    exact ⟨rfl, rfl⟩
  | some ad =>
    have hn : n < 0 := by rcases h with h | h; cases h; exact h
    go_enter Try.func72, Try.ntmps72
    go_wp2
    go_ret
    exact ⟨rfl, rfl⟩
set_option maxRecDepth 100000 in
set_option maxHeartbeats 1000000 in
theorem penText_any (p : Nat) (g : Option Nat) (xs : List UInt8) (a : Option Addr) (m c : Nat) (ys : List UInt8) (w : World) (h : PenAt w p g xs) (hy : By w a m ys) (hm2 : m ≤ 2048) (hl : xs.length ≤ 50000000) (hlt : 0 < m → ∀ ad, a = some ad → ad.block ≠ p ∧ g ≠ some ad.block) :
    Calls Try.prog 73 #[.pointer (some ⟨p, 0, none⟩), .slice a m c] w fun e w' => e = .returned (.bool true) ∧ ∃ g', PenAt w' p g' (xs ++ (numB m ++ ys)) ∧ PenStep p w g w' g' := by
  obtain ⟨i0, hi, hz0, hz1, hz2⟩ := info_parts (P := Try.prog) (e := 5) (z := .int .u8 0) (size := 1) (bytes := 1) (by kernel_rfl)
  have HI := Lib.hid (And.intro hi (And.intro hz0 (And.intro hz1 hz2)))
  clear hi hz0 hz1 hz2
  have hm := hy.1
  have HM := Lib.hid hm; clear hm
  have HY := Lib.hid hy; clear hy
  have HP := Lib.hid h; clear h
  have HLT := Lib.hid hlt; clear hlt
  go_enter Try.func73, Try.ntmps73
  go_wp2_with fail
  refine (penNumber_any p g xs m _ HP.out (by omega) (by omega)).mono ?_
  rintro e w2 ⟨rfl, g2, hp2, hs2⟩
  obtain ⟨sv, hc, hf, ho, hsg, hgp, hplt⟩ := hp2.cell
  have hy2 : By w2 a m ys := By.mut HY.out hs2.1 (fun h0 ad had hx => by
    have := HLT.out h0 ad had
    exact hx.elim this.1 this.2)
  have HY2 := Lib.hid hy2; clear hy2
  have HS := Lib.hid hs2; clear hs2
  have HP2 := Lib.hid hp2; clear hp2
  have HO := Lib.hid ho; clear ho
  have HG : Hid (some p ≠ sv.ownBlock) := Lib.hid (fun e => by rw [hsg] at e; exact hgp e.symm)
  clear hsg hgp
  have hnl : (numB m).length ≤ 10 := numF_len 10 m
  go_wp2_with (refine wpList_append_fp rfl (.tmp 20) (.tmp 21) 30 rfl 0 5 i0 (.int .u8 0) 1 1 Try.underlying30 HI.out.1 HI.out.2.1 HI.out.2.2.1 HI.out.2.2.2 rfl (by decide) _ _ ((xs ++ numB m).map B) rfl (HO.out) _ _ _ (ys.map B) rfl (By.flat HY2.out) (B_one _) ?c1 ?c2 ?c3 ?c4)
  case c1 => simp [maxLen]; omega
  case c2 => have := HM.out; simp; omega
  case c3 => omega
  intro v' w1 hown hgr hblk
  obtain ⟨va, vc, rfl⟩ := own_slice hown
  obtain ⟨hc1, hf1⟩ := grown_at hgr hc hf HG.out
  have HPut := Lib.hid (pen_put (ys := ys) HP2.out (Ext.refl _) hc (by have := HM.out; subst this; simpa using hown) hgr hblk)
  clear hown hgr hblk
  go_wp2
  go_ret
  exact ⟨rfl, _, by rw [← List.append_assoc]; exact HPut.out.1, HS.out.trans HPut.out.2⟩
set_option maxRecDepth 100000 in
set_option maxHeartbeats 1000000 in
theorem penText_no (pa : Option Addr) (a : Option Addr) (m c : Nat) (w : World) (h : pa = none ∨ 2048 < m) :
    Calls Try.prog 73 #[.pointer pa, .slice a m c] w fun e w' => e = .returned (.bool false) ∧ w = w' := by
  cases pa with
  | none =>
    go_enter Try.func73, Try.ntmps73
    go_wp2
    go_ret
    exact ⟨rfl, rfl⟩
  | some ad =>
    have hn : 2048 < m := by rcases h with h | h; cases h; exact h
    go_enter Try.func73, Try.ntmps73
    go_wp2
    go_ret
    exact ⟨rfl, rfl⟩
set_option maxRecDepth 100000 in
set_option maxHeartbeats 1000000 in
theorem penBytes_any (p : Nat) (g : Option Nat) (xs : List UInt8) (w : World) (h : PenAt w p g xs) (hl : xs.length ≤ 100000000000000) :
    Calls Try.prog 36 #[.pointer (some ⟨p, 0, none⟩)] w fun e w' => ∃ v, e = .returned v ∧ IsBy w' v xs ∧ Ext w w' := by
  obtain ⟨sv, hc, hf, ho, hsg, hgp, hplt⟩ := h.cell
  obtain ⟨a, n, c, rfl, hnc, hcm, hb⟩ := own_by ho
  have HB := Lib.hid hb; clear hb
  have HC := Lib.hid (And.intro hnc hcm); clear hnc hcm
  clear h ho hsg hgp
  go_enter Try.func36, Try.ntmps36
  go_wp2_with fail
  refine (clone_any _ _ _ xs _ HB.out HC.out (by have := HB.out.1; omega)).mono ?_
  rintro e w1 ⟨v, rfl, hown, hx⟩
  have HO := Lib.hid (And.intro (own_by hown) hx); clear hown hx
  go_wp2
  go_ret
  exact ⟨_, rfl, HO.out.1, HO.out.2⟩
theorem penBytes_own (p : Nat) (g : Option Nat) (xs : List UInt8) (w : World) (h : PenAt w p g xs) (hl : xs.length ≤ 100000000000000) :
    Calls Try.prog 36 #[.pointer (some ⟨p, 0, none⟩)] w fun e w' => ∃ v, e = .returned v ∧ w'.ownsRow w.heap.size 5 1 v xs.length (xs.map B) ∧ Ext w w' := by
  obtain ⟨sv, hc, hf, ho, hsg, hgp, hplt⟩ := h.cell
  obtain ⟨a, n, c, rfl, hnc, hcm, hb⟩ := own_by ho
  have hn : n = xs.length := hb.1
  have HB := Lib.hid hb; clear hb
  have HC := Lib.hid (And.intro hnc hcm); clear hnc hcm
  have HN := Lib.hid hn
  clear h ho hsg hgp hn
  go_enter Try.func36, Try.ntmps36
  go_wp2_with fail
  refine (clone_any _ _ _ xs _ HB.out HC.out (by have := HB.out.1; omega)).mono ?_
  rintro e w1 ⟨v, rfl, hown, hx⟩
  have HO := Lib.hid (And.intro hown hx); clear hown hx
  go_wp2
  go_ret
  exact ⟨_, rfl, HN.out ▸ HO.out.1, HO.out.2⟩
set_option maxRecDepth 100000 in
set_option maxHeartbeats 1000000 in
theorem penBytes_nil (w : World) :
    Calls Try.prog 36 #[.pointer none] w fun e w' => e = .returned (.slice none 0 0) ∧ w = w' := by
  go_enter Try.func36, Try.ntmps36
  go_wp2
  go_ret
  exact ⟨rfl, rfl⟩
end Go.Proofs.Ytdkemfimhdjdiaa

namespace Go.Proofs.Ytdkemfimhdjdiaa
set_option linter.unusedSimpArgs false
set_option linter.unusedVariables false
open Go Go.RowKit
theorem sliceBound_ok {P : Program} {w : World} (k : IntKind) (i : Int) (y : Nat) (code : BoundsCode) (h0 : 0 ≤ i) (h1 : i ≤ y) : (Instr.sliceBound (.int k i) y code).run P w = .ok i.toNat w := by
  simp [Instr.sliceBound, asIntOf, h0, h1, Sem.run_pure]
/-- s[k:] -/
theorem slice_low {P : Program} {w : World} {α : Type} {s : Nat} {R : World → Nat → Nat → α → Prop} {T e : TypeId} {a : Option Addr} {n c k : Nat} {xs : List α} (ht : P.underlying T = some (.slice e)) (hsz : ∀ w, (sizeOf e).run P w = .ok s w) (h : Arr s R w a n xs) (hk : k ≤ n) (hc : n ≤ c) :
    ∃ a', (Instr.slice T (.slice a n c) (some (.int .i64 (k : Int))) none none).run P w = .ok (.slice a' (n - k) (c - k)) w ∧ Arr s R w a' (n - k) (xs.drop k) ∧ ∀ ad, a' = some ad → ∃ ad0, a = some ad0 ∧ ad.block = ad0.block := by
  refine ⟨if c = k then a else a.map (·.add (k * s)), ?_, ?_, ?_⟩
  · unfold Instr.slice Instr.sliceBounds
    simp [run_underlying ht, sliceBound_ok _ _ _ _ (show (0 : Int) ≤ k by omega) (show (k : Int) ≤ (n : Int) by omega), hsz, Sem.run_pure, Result.andThen]
  · refine ⟨by simp [h.1], fun h0 => ?_⟩
    obtain ⟨b, off, rfl, hc'⟩ := h.2 (by omega)
    rw [if_neg (by omega)]
    refine ⟨b, off + k * s, by simp [addr_add], fun i x hi => ?_⟩
    rw [List.getElem?_drop] at hi
    have := hc' _ _ hi
    rw [Nat.add_mul, ← Nat.add_assoc] at this
    exact this
  · intro ad had
    split at had
    · exact ⟨ad, had, rfl⟩
    · cases a with
      | none => cases had
      | some a0 =>
        simp at had
        refine ⟨a0, rfl, ?_⟩
        rw [← had]
        unfold Addr.add
        split <;> rfl
/-- s[:k] -/
theorem slice_high {P : Program} {w : World} {α : Type} {s : Nat} {R : World → Nat → Nat → α → Prop} {T e : TypeId} {a : Option Addr} {n c k : Nat} {xs : List α} (ht : P.underlying T = some (.slice e)) (hsz : ∀ w, (sizeOf e).run P w = .ok s w) (h : Arr s R w a n xs) (hk : k ≤ n) (hc : n ≤ c) :
    (Instr.slice T (.slice a n c) none (some (.int .i64 (k : Int))) none).run P w = .ok (.slice a k c) w ∧ Arr s R w a k (xs.take k) := by
  constructor
  · unfold Instr.slice Instr.sliceBounds
    simp [run_underlying ht, sliceBound_ok _ _ _ _ (show (0 : Int) ≤ k by omega) (show (k : Int) ≤ (c : Int) by omega), hsz, Sem.run_pure, Result.andThen]
    intro _
    cases a with
    | none => rfl
    | some a0 => simp [Addr.add]
  · refine ⟨by have := h.1; simp; omega, fun h0 => ?_⟩
    obtain ⟨b, off, rfl, hc'⟩ := h.2 (by omega)
    refine ⟨b, off, rfl, fun i x hi => hc' i x ?_⟩
    rw [List.getElem?_take] at hi
    split at hi
    · exact hi
    · cases hi
end Go.Proofs.Ytdkemfimhdjdiaa

namespace Go.Proofs.Ytdkemfimhdjdiaa
set_option linter.unusedSimpArgs false
set_option linter.unusedVariables false
open Go Go.RowKit
/-- The reader at block r, not over, has xs left. -/
def RdAt (z : Nat → Prop) (w : World) (r : Nat) (xs : List UInt8) : Prop := ∃ a n c, Blk w r [.slice a n c, .bool false] ∧ By w a n xs ∧ (n ≤ c ∧ c ≤ maxLen) ∧ ∀ ad, a = some ad → ad.block ≠ r ∧ z ad.block
/-- The reader at block r, not over, whatever is left. -/
theorem Blk.mut {fp : Nat → Prop} {w w' : World} {b : Nat} {vs : List Value} (h : Blk w b vs) (hm : MutO fp w w') (hb : ¬ fp b) : Blk w' b vs := let ⟨ty, e⟩ := h; ⟨ty, by rw [hm.block b h.lt hb]; exact e⟩
def RdAny (w : World) (r : Nat) : Prop := ∃ a n c, Blk w r [.slice a n c, .bool false]
/-- It is over. -/
def RdOver (w : World) (r : Nat) : Prop := ∃ a n c, Blk w r [.slice a n c, .bool true]
theorem RdAt.mono {z z' : Nat → Prop} {w : World} {r : Nat} {xs : List UInt8} (h : RdAt z w r xs) (hz : ∀ k, z k → z' k) : RdAt z' w r xs :=
  let ⟨a, n, c, h1, h2, h3, h4⟩ := h; ⟨a, n, c, h1, h2, h3, fun ad had => ⟨(h4 ad had).1, hz _ (h4 ad had).2⟩⟩
theorem RdAt.any {z : Nat → Prop} {w : World} {r : Nat} {xs : List UInt8} (h : RdAt z w r xs) : RdAny w r := let ⟨a, n, c, h1, _⟩ := h; ⟨a, n, c, h1⟩
theorem RdAt.mut {z : Nat → Prop} {fp : Nat → Prop} {w w' : World} {r : Nat} {xs : List UInt8} (h : RdAt z w r xs) (hm : MutO fp w w') (hr : ¬ fp r) (hz : ∀ k, fp k → ¬ z k) : RdAt z w' r xs := by
  obtain ⟨a, n, c, hb, hy, hc, hk⟩ := h
  exact ⟨a, n, c, hb.mut hm hr, By.mut hy hm fun _ ad had hx => hz _ hx (hk ad had).2, hc, hk⟩
theorem RdAny.mut {fp : Nat → Prop} {w w' : World} {r : Nat} (h : RdAny w r) (hm : MutO fp w w') (hr : ¬ fp r) : RdAny w' r := let ⟨a, n, c, hb⟩ := h; ⟨a, n, c, hb.mut hm hr⟩
theorem RdOver.mut {fp : Nat → Prop} {w w' : World} {r : Nat} (h : RdOver w r) (hm : MutO fp w w') (hr : ¬ fp r) : RdOver w' r := let ⟨a, n, c, hb⟩ := h; ⟨a, n, c, hb.mut hm hr⟩
def rdFp (r : Nat) : Nat → Prop := fun k => k = r
/-- A failure with e. -/
def failV (r : Nat) (e : Int) : Value := .iface 173 (.agg #[.pointer (some ⟨r, 0, none⟩), .int .i64 e])
def Failed (r : Nat) (e : Int) (w : World) : Ending → World → Prop := fun en w' => en = .panicked [{ v := failV r e, recovered := false }] ∧ RdAny w' r ∧ MutO (rdFp r) w w'
/-- What a reading method comes to. -/
def RdOut {α : Type} (z : Nat → Prop) (r : Nat) (w : World) (res : Except Int (α × List UInt8)) (ok : α → Value → World → Prop) : Ending → World → Prop := fun en w' =>
  match res with
  | .error e => Failed r e w en w'
  | .ok (a, ys) => ∃ v, en = .returned v ∧ ok a v w' ∧ RdAt z w' r ys ∧ MutO (rdFp r) w w'

theorem off_over (w : World) (r : Nat) (h : RdOver w r) : Calls Try.prog 104 #[.pointer (some ⟨r, 0, none⟩)] w fun e w' => e = .returned (.bool true) ∧ w = w' := by
  obtain ⟨a, n, c, hb⟩ := h
  have h1 := hb.cell 1
  clear hb
  go_enter Try.func104, Try.ntmps104
  go_wp2
  go_ret
  exact ⟨rfl, rfl⟩
theorem off_nil (w : World) : Calls Try.prog 104 #[.pointer none] w fun e w' => e = .returned (.bool true) ∧ w = w' := by
  go_enter Try.func104, Try.ntmps104
  go_wp2
  go_ret
  exact ⟨rfl, rfl⟩
theorem off_no (w : World) (r : Nat) (h : RdAny w r) : Calls Try.prog 104 #[.pointer (some ⟨r, 0, none⟩)] w fun e w' => e = .returned (.bool false) ∧ w = w' := by
  obtain ⟨a, n, c, hb⟩ := h
  have h1 := hb.cell 1
  clear hb
  go_enter Try.func104, Try.ntmps104
  go_wp2
  go_ret
  exact ⟨rfl, rfl⟩
theorem fail_any (w : World) (r : Nat) (e : Int) (h : RdAny w r) (he : e ≠ 0) : Calls Try.prog 78 #[.pointer (some ⟨r, 0, none⟩), .int .i64 e] w fun en w' => en = .panicked [{ v := failV r e, recovered := false }] ∧ w = w' := by
  obtain ⟨a, n, c, hb⟩ := h
  have h1 := hb.cell 1
  clear hb
  unfold failV
  go_enter Try.func78, Try.ntmps78
  go_wp2
  exact ⟨rfl, rfl, rfl⟩
theorem fail_off (w : World) (a : Option Addr) (e : Int) (h : a = none ∨ e = 0 ∨ ∃ r, a = some ⟨r, 0, none⟩ ∧ RdOver w r) (hs : ∀ ad, a = some ad → e = 0 → ∃ r, ad = ⟨r, 0, none⟩ ∧ (RdAny w r ∨ RdOver w r)) :
    Calls Try.prog 78 #[.pointer a, .int .i64 e] w fun en w' => en = .returned (.tuple #[]) ∧ w = w' := by
  cases a with
  | none =>
    go_enter Try.func78, Try.ntmps78
    go_wp2
    go_end0
    exact ⟨rfl, rfl⟩
  | some ad =>
    by_cases he : e = 0
    · obtain ⟨r, rfl, h | h⟩ := hs ad rfl he
      · obtain ⟨a, n, c, hb⟩ := h
        have h1 := hb.cell 1
        clear hb
        subst he
        go_enter Try.func78, Try.ntmps78
        go_wp2
        go_end0
        exact ⟨rfl, rfl⟩
      · obtain ⟨a, n, c, hb⟩ := h
        have h1 := hb.cell 1
        clear hb
        subst he
        go_enter Try.func78, Try.ntmps78
        go_wp2
        go_end0
        exact ⟨rfl, rfl⟩
    · obtain ⟨r, h2, a, n, c, hb⟩ : ∃ r, some ad = some ⟨r, 0, none⟩ ∧ RdOver w r := by
        rcases h with h | h | h
        · cases h
        · exact absurd h he
        · exact h
      injection h2 with h2
      subst h2
      have h1 := hb.cell 1
      clear hb
      go_enter Try.func78, Try.ntmps78
      go_wp2
      go_end0
      exact ⟨rfl, rfl⟩
end Go.Proofs.Ytdkemfimhdjdiaa

namespace Go.Proofs.Ytdkemfimhdjdiaa
set_option linter.unusedSimpArgs false
set_option linter.unusedVariables false
open Go Go.RowKit
def rdNext (i : Nat) (xs : List UInt8) : Except Int (UInt8 × List UInt8) :=
  if i = 9 then .error 11 else match xs with
  | [] => .error 10
  | c :: ys => if c = 0 ∧ 0 < i then .error 11 else .ok (c, ys)
def rdNumF : Nat → Nat → Nat → List UInt8 → Except Int (Nat × List UInt8)
  | 0, _, _, _ => .error 11
  | f + 1, i, acc, xs => match rdNext i xs with
    | .error e => .error e
    | .ok (c, ys) => if c.toNat < 128 then .ok (acc + c.toNat % 128 * 128 ^ i, ys) else rdNumF f (i + 1) (acc + c.toNat % 128 * 128 ^ i) ys
def rdNum (xs : List UInt8) : Except Int (Nat × List UInt8) := rdNumF 10 0 0 xs
def rdNumber (most : Int) (xs : List UInt8) : Except Int (Nat × List UInt8) := match rdNum xs with
  | .error e => .error e
  | .ok (n, ys) => if most < n then .error 12 else .ok (n, ys)

theorem Failed.step {r : Nat} {e : Int} {w w1 w' : World} {en : Ending} (h : Failed r e w1 en w') (hm : MutO (rdFp r) w w1) : Failed r e w en w' := ⟨h.1, h.2.1, hm.trans h.2.2 fun _ _ h => h⟩
theorem size_u8 (w : World) : (sizeOf 5).run Try.prog w = .ok 1 w := by kernel_rfl

set_option maxRecDepth 100000 in
set_option maxHeartbeats 1000000 in
theorem next_any {z : Nat → Prop} (w : World) (r : Nat) (xs : List UInt8) (i : Nat) (hi : i ≤ 9) (h : RdAt z w r xs) :
    Calls Try.prog 105 #[.pointer (some ⟨r, 0, none⟩), .int .i64 (i : Int)] w (RdOut z r w (rdNext i xs) fun c v w' => v = B c) := by
  have ha := Lib.hid h.any
  obtain ⟨a, n, c, hb, hy, hc, hr⟩ := h
  have h0 := hb.cell 0
  have f0 := hb.free 0
  by_cases h9 : i = 9
  · subst h9
    have hout : rdNext 9 xs = .error 11 := by simp [rdNext]
    rw [hout]
    have HB := Lib.hid hb; clear hb hout hy
    go_enter Try.func105, Try.ntmps105
    go_wp2_with fail
    refine (fail_any _ r 11 ha.out (by decide)).mono ?_
    rintro e w' ⟨rfl, rfl⟩
    exact ⟨rfl, rfl, ha.out, MutO.refl _ _⟩
  · have hi8 : i < 9 := by omega
    cases xs with
    | nil =>
      have hout : rdNext i [] = .error 10 := by simp [rdNext, h9]
      rw [hout]
      have hn : n = 0 := hy.1
      subst hn
      have HB := Lib.hid hb; clear hb hout hy
      go_enter Try.func105, Try.ntmps105
      go_wp2_with fail
      refine (fail_any _ r 10 ha.out (by decide)).mono ?_
      rintro e w' ⟨rfl, rfl⟩
      exact ⟨rfl, rfl, ha.out, MutO.refl _ _⟩
    | cons x ys =>
      have hn : 0 < n := by have := hy.1; simp at this; omega
      obtain ⟨b, off, rfl, hcell, _, hx⟩ := By.at hy hn
      have hx0 : w.cell? ⟨b, off, none⟩ = some (.int .u8 (x.toNat : Int)) := by simpa using hx
      obtain ⟨a', hrun, hy', hblk⟩ := slice_low (P := Try.prog) (w := w) (k := 1) Try.underlying30 size_u8 hy (by omega) hc.1
      have hbr : b ≠ r := (hr _ rfl).1
      have HY : Hid (By w a' (n - 1) ys) := Lib.hid (by simpa using hy')
      have HBK : Hid (∀ ad, a' = some ad → ad.block ≠ r ∧ z ad.block) := Lib.hid (fun ad had => by obtain ⟨ad0, h1, h2⟩ := hblk ad had; rw [h2]; exact hr _ h1)
      have hrun' : (Instr.slice 30 (.slice (some ⟨b, off, none⟩) n c) (some (.int .i64 1)) none none).run Try.prog w = .ok (.slice a' (n - 1) (c - 1)) w := hrun
      have HC := Lib.hid hc
      have HB := Lib.hid hb
      clear hcell hx hy hy' hblk hrun hr hb hc
      have hn1 : (1 : Int) ≤ n := by omega
      -- the reader behind the step
      have hafter : ∀ W, W = w.setCell ⟨r, 0, none⟩ (.slice a' (n - 1) (c - 1)) → RdAt z W r ys ∧ MutO (rdFp r) w W := fun W hW => by
        subst hW
        have hm : MutO (rdFp r) w (w.setCell ⟨r, 0, none⟩ (.slice a' (n - 1) (c - 1))) := MutO.set (fp := rdFp r) (p := ⟨r, 0, none⟩) (MutO.refl _ _) rfl _
        refine ⟨⟨a', n - 1, c - 1, by have := HB.out.set 0 (.slice a' (n - 1) (c - 1)); simpa using this, By.mut HY.out hm fun _ ad had => (HBK.out ad had).1, ⟨by have := HC.out; omega, by have := HC.out; omega⟩, HBK.out⟩, hm⟩
      have HA := Lib.hid hafter; clear hafter
      by_cases hz : x = 0 ∧ 0 < i
      · have hout : rdNext i (x :: ys) = .error 11 := by simp [rdNext, h9, hz]
        rw [hout]
        obtain ⟨rfl, hi0⟩ := hz
        clear hout
        go_enter Try.func105, Try.ntmps105
        go_wp2_with fail
        refine (fail_any _ r 11 (HA.out _ rfl).1.any (by decide)).mono ?_
        rintro e w' ⟨rfl, rfl⟩
        exact ⟨rfl, rfl, (HA.out _ rfl).1.any, (HA.out _ rfl).2⟩
      · have hout : rdNext i (x :: ys) = .ok (x, ys) := by simp [rdNext, h9, hz]
        rw [hout]
        clear hout
        by_cases hx0' : x = 0
        · subst hx0'
          have hi0 : i = 0 := by
            rcases Nat.eq_zero_or_pos i with h | h
            · exact h
            · exact absurd ⟨rfl, h⟩ hz
          subst hi0
          go_enter Try.func105, Try.ntmps105
          go_wp2
          go_ret
          exact ⟨_, rfl, rfl, (HA.out _ rfl).1, (HA.out _ rfl).2⟩
        · have hxn : 0 < x.toNat := by
            rcases Nat.eq_zero_or_pos x.toNat with h | h
            · exact absurd (UInt8.toNat.inj (by simpa using h)) hx0'
            · exact h
          go_enter Try.func105, Try.ntmps105
          go_wp2
          go_ret
          exact ⟨_, rfl, rfl, (HA.out _ rfl).1, (HA.out _ rfl).2⟩
theorem rdNext_cases (i : Nat) (xs : List UInt8) : (∃ e, rdNext i xs = .error e) ∨ ∃ c ys, rdNext i xs = .ok (c, ys) := by
  cases h : rdNext i xs with
  | error e => exact .inl ⟨e, rfl⟩
  | ok p => exact .inr ⟨p.1, p.2, rfl⟩
theorem or_add (a d i : Nat) (h : a < 128 ^ i) : a ||| (d * 128 ^ i) = a + d * 128 ^ i := by
  have e : (128 : Nat) ^ i = 2 ^ (7 * i) := by rw [Nat.pow_mul]
  rw [e] at h ⊢
  rw [Nat.or_comm, Nat.mul_comm d, ← Nat.two_pow_add_eq_or_of_lt h, Nat.add_comm]
theorem i64_or_nat (a b : Nat) (ha : a < 9223372036854775808) (hb : b < 9223372036854775808) : bits .or .i64 (a : Int) (b : Int) = ((a ||| b : Nat) : Int) := by
  refine (bits_nat .i64 63 (by decide) (fun n h0 h1 => IntWalk.i64_in n ⟨by omega, ?_⟩) a b ha hb).2
  have : (2 : Int) ^ 63 = 9223372036854775808 := by decide
  omega
theorem u8_and_127 (c : UInt8) : bits .and .u8 (c.toNat : Int) 127 = ((c.toNat % 128 : Nat) : Int) := by
  have h := (bits_nat .u8 8 (by decide) (fun n h0 h1 => wraps_u8 n h0 h1) c.toNat 127 c.toNat_lt (by decide)).1
  rw [show ((127 : Nat) : Int) = 127 by rfl] at h
  rw [h, show (127 : Nat) = 2 ^ 7 - 1 by rfl, Nat.and_two_pow_sub_one_eq_mod]
theorem pow128 (i : Nat) : (2 : Int) ^ (7 * i) = ((128 ^ i : Nat) : Int) := by
  rw [Int.pow_mul]; simp
theorem pow128_le (i : Nat) (h : i ≤ 8) : 128 ^ (i + 1) ≤ 9223372036854775808 := by
  have : (128 : Nat) ^ 9 = 9223372036854775808 := by decide
  rw [← this]
  exact Nat.pow_le_pow_right (by decide) (by omega)
theorem step_val (acc j : Nat) (c : UInt8) (hj : j ≤ 8) (ha : acc < 128 ^ j) :
    bits .or .i64 (acc : Int) (wrap64 (wrap64 (bits .and .u8 (c.toNat : Int) 127) * 2 ^ (7 * j))) = ((acc + c.toNat % 128 * 128 ^ j : Nat) : Int) := by
  have hp := pow128_le j hj
  have hd : c.toNat % 128 < 128 := Nat.mod_lt _ (by decide)
  have h1 : c.toNat % 128 * 128 ^ j < 9223372036854775808 := by
    have : c.toNat % 128 * 128 ^ j < 128 * 128 ^ j := Nat.mul_lt_mul_of_pos_right hd (Nat.pow_pos (by decide))
    rw [Nat.pow_succ, Nat.mul_comm] at hp
    omega
  have h2 : acc < 9223372036854775808 := by
    have : 128 ^ j ≤ 128 ^ (j + 1) := Nat.pow_le_pow_right (by decide) (by omega)
    omega
  rw [u8_and_127, IntWalk.wrap64_in ((c.toNat % 128 : Nat) : Int) ⟨by omega, by omega⟩, pow128, ← Int.natCast_mul, IntWalk.wrap64_in ((c.toNat % 128 * 128 ^ j : Nat) : Int) ⟨by omega, by omega⟩, i64_or_nat _ _ h2 h1, or_add _ _ _ ha]
theorem acc_lt (acc j d : Nat) (ha : acc < 128 ^ j) (hd : d < 128) : acc + d * 128 ^ j < 128 ^ (j + 1) := by
  have : d * 128 ^ j ≤ 127 * 128 ^ j := Nat.mul_le_mul_right _ (by omega)
  rw [Nat.pow_succ]
  omega
theorem RdOut.err {α : Type} {z : Nat → Prop} {r : Nat} {w : World} {res : Except Int (α × List UInt8)} {ok : α → Value → World → Prop} {e : Int} {en : Ending} {w' : World} (hE : res = .error e) (h : Failed r e w en w') : RdOut z r w res ok en w' := by
  subst hE; exact h
theorem RdOut.ok {α : Type} {z : Nat → Prop} {r : Nat} {w : World} {res : Except Int (α × List UInt8)} {ok : α → Value → World → Prop} {a : α} {ys : List UInt8} {en : Ending} {w' : World} (hE : res = .ok (a, ys))
    (h : ∃ v, en = .returned v ∧ ok a v w' ∧ RdAt z w' r ys ∧ MutO (rdFp r) w w') : RdOut z r w res ok en w' := by
  subst hE; exact h
set_option maxRecDepth 100000 in
set_option maxHeartbeats 1000000 in
theorem number_any {z : Nat → Prop} (w : World) (r : Nat) (xs : List UInt8) (most : Int) (h : RdAt z w r xs) :
    Calls Try.prog 76 #[.pointer (some ⟨r, 0, none⟩), .int .i64 most] w (RdOut z r w (rdNumber most xs) fun n v w' => v = .int .i64 (n : Int)) := by
  have H := Lib.hid h; clear h
  go_enter Try.func76, Try.ntmps76
  go_wp2_with fail
  refine (off_no _ _ H.out.any).mono ?_
  rintro e w' ⟨rfl, rfl⟩
  go_wp2_with fail
  go_loopw [5, 6] (fun a i wr => ∃ (j acc : Nat) (ys : List UInt8), j ≤ 9 ∧ i = .int .i64 (j : Int) ∧ a = .int .i64 (acc : Int) ∧ acc < 128 ^ j ∧ rdNum xs = rdNumF (10 - j) j acc ys ∧ RdAt z wr r ys ∧ MutO (rdFp r) w wr) (fun _ i _ => 10 - (intOf i).toNat)
  case atStart => exact ⟨0, 0, xs, by omega, rfl, rfl, by simp, rfl, H.out, MutO.refl _ _⟩
  case round =>
    obtain ⟨j, acc, ys, hj, rfl, rfl, hacc, hnum, hrd, hm⟩ := hrel
    have HN := Lib.hid hnum; clear hnum
    have HR := Lib.hid hrd; clear hrd
    have HM := Lib.hid hm; clear hm
    have HA := Lib.hid hacc; clear hacc
    go_wp2_with fail
    refine (next_any _ r ys j hj HR.out).mono ?_
    intro e w1 h1
    rcases rdNext_cases j ys with ⟨er, her⟩ | ⟨c, zs, hok⟩
    · rw [her] at h1
      obtain ⟨rfl, hany, hm1⟩ := h1
      have hE : rdNumber most xs = .error er := by
        unfold rdNumber
        rw [HN.out, show 10 - j = (9 - j) + 1 by omega, rdNumF, her]
      exact ⟨rfl, RdOut.err hE ⟨rfl, hany, HM.out.trans hm1 fun _ _ h => h⟩⟩
    · rw [hok] at h1
      obtain ⟨v, rfl, rfl, hrd1, hm1⟩ := h1
      have hj8 : j ≤ 8 := by
        rcases Nat.lt_or_ge j 9 with h | h
        · omega
        · obtain rfl : j = 9 := by omega
          simp [rdNext] at hok
      unfold B
      have hval := step_val acc j c hj8 HA.out
      have hN : rdNum xs = if c.toNat < 128 then .ok (acc + c.toNat % 128 * 128 ^ j, zs) else rdNumF (10 - (j + 1)) (j + 1) (acc + c.toNat % 128 * 128 ^ j) zs := by
        rw [HN.out, show 10 - j = (9 - j) + 1 by omega, rdNumF, hok, show 10 - (j + 1) = 9 - j by omega]
      obtain ⟨acc', hacc'⟩ : ∃ x, acc + c.toNat % 128 * 128 ^ j = x := ⟨_, rfl⟩
      rw [hacc'] at hval hN
      have HL : Hid (acc' < 128 ^ (j + 1)) := Lib.hid (by rw [← hacc']; exact acc_lt _ _ _ HA.out (Nat.mod_lt _ (by decide)))
      have HN' := Lib.hid hN
      have HR1 := Lib.hid hrd1
      have HM1 : Hid (MutO (rdFp r) w w1) := Lib.hid (HM.out.trans hm1 fun _ _ h => h)
      have hacc63 : acc' < 9223372036854775808 := Nat.lt_of_lt_of_le HL.out (pow128_le j hj8)
      clear hN hrd1 hm1 hacc' hok HN HR HM HA
      by_cases hc : c.toNat < 128
      · by_cases hmost : most < (acc' : Int)
        · go_wp2_with fail
          refine (fail_any _ r 12 HR1.out.any (by decide)).mono ?_
          rintro e w' ⟨rfl, rfl⟩
          have hE : rdNumber most xs = .error 12 := by
            unfold rdNumber
            rw [HN'.out, if_pos hc]
            simp [hmost]
          exact ⟨rfl, RdOut.err hE ⟨rfl, HR1.out.any, HM1.out⟩⟩
        · go_wp2_with fail
          go_ret
          have hE : rdNumber most xs = .ok (acc', zs) := by
            unfold rdNumber
            rw [HN'.out, if_pos hc]
            simp [hmost]
          exact RdOut.ok hE ⟨_, rfl, rfl, HR1.out, HM1.out⟩
      · go_wp2_with fail
        go_roundw
        case rel => exact ⟨j + 1, acc', zs, by omega, by go_num, rfl, HL.out, by rw [HN'.out, if_neg hc], HR1.out, HM1.out⟩
        case measure => simp [intOf]; omega
end Go.Proofs.Ytdkemfimhdjdiaa

namespace Go.Proofs.Ytdkemfimhdjdiaa
set_option linter.unusedSimpArgs false
set_option linter.unusedVariables false
open Go Go.RowKit
def rdText (most : Int) (xs : List UInt8) : Except Int (List UInt8 × List UInt8) := match rdNum xs with
  | .error e => .error e
  | .ok (n, ys) => if most < n then .error 12 else if ys.length < n then .error 10 else .ok (ys.take n, ys.drop n)
theorem rdNext_len (i : Nat) (xs : List UInt8) (c : UInt8) (ys : List UInt8) (h : rdNext i xs = .ok (c, ys)) : ys.length < xs.length := by
  unfold rdNext at h
  split at h
  · cases h
  · cases xs with
    | nil => cases h
    | cons x zs =>
      simp only at h
      split at h
      · cases h
      · injection h with h; injection h with h1 h2; subst h2; simp
theorem rdNumF_spec (f : Nat) : ∀ (i acc : Nat) (xs : List UInt8) (n : Nat) (ys : List UInt8), f + i = 10 → acc < 128 ^ i → rdNumF f i acc xs = .ok (n, ys) → n < 9223372036854775808 ∧ ys.length < xs.length := by
  induction f with
  | zero => intro i acc xs n ys _ _ h; cases h
  | succ f ih =>
    intro i acc xs n ys hf ha h
    unfold rdNumF at h
    rcases rdNext_cases i xs with ⟨e, he⟩ | ⟨c, zs, hok⟩
    · rw [he] at h; cases h
    · rw [hok] at h
      have hi : i ≤ 8 := by
        rcases Nat.lt_or_ge i 9 with h' | h'
        · omega
        · obtain rfl : i = 9 := by omega
          simp [rdNext] at hok
      have hl := rdNext_len i xs c zs hok
      have hlt := acc_lt acc i (c.toNat % 128) ha (Nat.mod_lt _ (by decide))
      simp only at h
      split at h
      · injection h with h; injection h with h1 h2
        subst h1 h2
        exact ⟨Nat.lt_of_lt_of_le hlt (pow128_le i hi), hl⟩
      · have := ih (i + 1) _ zs n ys (by omega) hlt h
        exact ⟨this.1, by omega⟩
theorem rdNum_spec {xs : List UInt8} {n : Nat} {ys : List UInt8} (h : rdNum xs = .ok (n, ys)) : n < 9223372036854775808 ∧ ys.length < xs.length := rdNumF_spec 10 0 0 xs n ys rfl (by decide) h
theorem rdNum_cases (xs : List UInt8) : (∃ e, rdNum xs = .error e) ∨ ∃ n ys, rdNum xs = .ok (n, ys) := by
  cases h : rdNum xs with
  | error e => exact .inl ⟨e, rfl⟩
  | ok p => exact .inr ⟨p.1, p.2, rfl⟩
set_option maxRecDepth 100000 in
set_option maxHeartbeats 1000000 in
theorem text_new {z : Nat → Prop} (w : World) (r : Nat) (xs : List UInt8) (most : Int) (h : RdAt z w r xs) (hl : xs.length ≤ 100000000000) :
    Calls Try.prog 77 #[.pointer (some ⟨r, 0, none⟩), .int .i64 most] w (RdOut z r w (rdText most xs) fun bs v w' => IsBy w' v bs ∧ ∀ k, v.ownBlock = some k → w.heap.size ≤ k) := by
  have H := Lib.hid h; clear h
  go_enter Try.func77, Try.ntmps77
  go_wp2_with fail
  refine (off_no _ _ H.out.any).mono ?_
  rintro e w' ⟨rfl, rfl⟩
  go_wp2_with fail
  refine (number_any _ r xs _ H.out).mono ?_
  intro e w1 h1
  rcases rdNum_cases xs with ⟨er, her⟩ | ⟨n, ys, hok⟩
  · have h2 : rdNumber 9223372036854775807 xs = .error er := by unfold rdNumber; rw [her]
    rw [h2] at h1
    have hE : rdText most xs = .error er := by unfold rdText; rw [her]
    obtain ⟨rfl, hany, hm1⟩ := h1
    exact ⟨rfl, RdOut.err hE ⟨rfl, hany, hm1⟩⟩
  · have hsp := rdNum_spec hok
    have h2 : rdNumber 9223372036854775807 xs = .ok (n, ys) := by
      unfold rdNumber; rw [hok]
      simp only
      rw [if_neg (by omega)]
    rw [h2] at h1
    obtain ⟨v, rfl, rfl, hrd, hm⟩ := h1
    have hout : rdText most xs = if most < n then .error 12 else if ys.length < n then .error 10 else .ok (ys.take n, ys.drop n) := by unfold rdText; rw [hok]
    have HO := Lib.hid hout
    have HA := Lib.hid hrd.any
    obtain ⟨a, m, c, hb, hy, hc, hr⟩ := hrd
    have h0 := hb.cell 0
    have f0 := hb.free 0
    have hml := hy.1
    have hn63 := hsp.1
    have HL := Lib.hid hml
    have HB := Lib.hid hb
    have HY := Lib.hid hy
    have HM := Lib.hid hm
    have HC := Lib.hid hc
    have HR := Lib.hid hr
    clear hout hok h2 hb hy hm hc hr
    by_cases g1 : most < (n : Int)
    · go_wp2_with fail
      refine (fail_any _ r 12 HA.out (by decide)).mono ?_
      rintro e w' ⟨rfl, rfl⟩
      exact ⟨rfl, RdOut.err (by rw [HO.out, if_pos g1]) ⟨rfl, HA.out, HM.out⟩⟩
    · by_cases g2 : m < n
      · clear hml
        go_wp2_with fail
        refine (fail_any _ r 10 HA.out (by decide)).mono ?_
        rintro e w' ⟨rfl, rfl⟩
        exact ⟨rfl, RdOut.err (by rw [HO.out, if_neg (show ¬ most < (n : Int) by omega), if_pos (by have := HL.out; omega)]) ⟨rfl, HA.out, HM.out⟩⟩
      · obtain ⟨hrun, hyt⟩ := slice_high (P := Try.prog) (w := w1) (k := n) Try.underlying30 size_u8 HY.out (by omega) HC.out.1
        have HT := Lib.hid hyt
        have hmb : m ≤ 100000000000 := by omega
        clear hml hyt
        go_wp2_with fail
        refine (clone_any _ _ _ (ys.take n) _ HT.out (by have := HC.out; omega) (by omega)).mono ?_
        rintro e w2 ⟨v, rfl, hown, hx2⟩
        obtain ⟨a', hrun2, hyd, hblk⟩ := slice_low (P := Try.prog) (w := w2) (k := n) Try.underlying30 size_u8 (HY.out.ext hx2) (by omega) HC.out.1
        have HYD := Lib.hid hyd
        have HB2 := Lib.hid (HB.out.ext hx2)
        have h02 := HB2.out.cell 0
        have f02 := HB2.out.free 0
        have HW := Lib.hid (own_by hown)
        have HX2 := Lib.hid hx2
        have HBK := Lib.hid hblk
        obtain ⟨va, vc, rfl⟩ := own_slice hown
        have hgr : ∀ k, (Value.slice va n vc).ownBlock = some k → w1.heap.size ≤ k := fun k hk => (hown.lt k hk).1
        have HGR := Lib.hid hgr
        have HOW := Lib.hid hown
        have hrlt : r < w1.heap.size := HB.out.lt
        clear hyd hown hx2 hblk hgr h0 f0 hrun
        go_wp2_with fail
        go_ret
        have hm2 : MutO (rdFp r) w1 (w2.setCell ⟨r, 0, none⟩ (.slice a' (m - n) (c - n))) := MutO.set (fp := rdFp r) (p := ⟨r, 0, none⟩) (MutO.of_ext HX2.out) rfl _
        have hm3 : MutO (rdFp r) w2 (w2.setCell ⟨r, 0, none⟩ (.slice a' (m - n) (c - n))) := MutO.set (fp := rdFp r) (p := ⟨r, 0, none⟩) (MutO.refl _ _) rfl _
        refine RdOut.ok (by rw [HO.out, if_neg (show ¬ most < (n : Int) by omega), if_neg (by have := HL.out; omega)]) ⟨_, rfl, ?_, ?_, HM.out.trans hm2 fun _ _ h => h⟩
        · refine ⟨?_, fun k hk => Nat.le_trans HM.out.size (HGR.out k hk)⟩
          obtain ⟨a3, n3, c3, e3, h31, h32, h33⟩ := HW.out
          refine ⟨a3, n3, c3, e3, h31, h32, By.mut h33 hm3 fun h0 ad had hx => ?_⟩
          injection e3 with e4 e5 e6
          have := HGR.out ad.block (by rw [e4, had]; rfl)
          have hx' : ad.block = r := hx
          omega
        · refine ⟨a', m - n, c - n, by have := HB2.out.set 0 (.slice a' (m - n) (c - n)); simpa using this, By.mut HYD.out hm3 fun _ ad had => ?_, ⟨by have := HC.out; omega, by have := HC.out; omega⟩, ?_⟩
          · obtain ⟨ad0, e0, e1⟩ := HBK.out ad had
            intro hx; exact (HR.out ad0 e0).1 (e1 ▸ hx)
          · intro ad had
            obtain ⟨ad0, e0, e1⟩ := HBK.out ad had
            rw [e1]; exact HR.out ad0 e0
theorem text_any {z : Nat → Prop} (w : World) (r : Nat) (xs : List UInt8) (most : Int) (h : RdAt z w r xs) (hl : xs.length ≤ 100000000000) :
    Calls Try.prog 77 #[.pointer (some ⟨r, 0, none⟩), .int .i64 most] w (RdOut z r w (rdText most xs) fun bs v w' => IsBy w' v bs) :=
  (text_new w r xs most h hl).mono fun en w' h => by
    unfold RdOut at *
    cases hr : rdText most xs with
    | error e => rw [hr] at h; exact h
    | ok p => obtain ⟨a, ys⟩ := p; rw [hr] at h; obtain ⟨v, h1, h2, h3⟩ := h; exact ⟨v, h1, h2.1, h3⟩
end Go.Proofs.Ytdkemfimhdjdiaa

namespace Go.Proofs.Ytdkemfimhdjdiaa
set_option linter.unusedSimpArgs false
set_option linter.unusedVariables false
open Go Go.RowKit
/-- A pen that has written xs. -/
def penI (p : Nat) (xs : List UInt8) : It where
  P e _ w := e p ∧ ∃ g, PenAt w p g xs ∧ ∀ k, g = some k → e k
  st := by
    rintro e s w w' ⟨h1, g, ⟨sv, ⟨ty, h2⟩, h3, h4, h5⟩, h6⟩ hag
    exact ⟨h1, g, ⟨sv, ⟨ty, by rw [hag p (.inl h1)]; exact h2⟩, row_agree h3 fun k hk => hag k (.inl (h6 k (by rw [← h4]; exact hk))), h4, h5⟩, h6⟩
  facts _ := True
  ok := fun _ => trivial
theorem By.agree {w w' : World} {a : Option Addr} {n : Nat} {xs : List UInt8} (h : By w a n xs) (hag : 0 < n → ∀ ad, a = some ad → w'.heap[ad.block]? = w.heap[ad.block]?) : By w' a n xs := by
  refine ⟨h.1, fun h0 => ?_⟩
  obtain ⟨b, off, rfl, hc⟩ := h.2 h0
  refine ⟨b, off, rfl, fun i x hi => ?_⟩
  have := hc i x hi
  have h9 : w'.heap[b]? = w.heap[b]? := hag h0 ⟨b, off, none⟩ rfl
  unfold byteR at *
  rw [World.cell?_of_block (w := w) h9]
  exact this
/-- A reader that has xs left. -/
def rdI (r : Nat) (xs : List UInt8) : It where
  P e s w := e r ∧ RdAt s w r xs
  st := by
    rintro e s w w' ⟨h1, a, n, c, ⟨ty, h2⟩, h3, h4, h5⟩ hag
    exact ⟨h1, a, n, c, ⟨ty, by rw [hag r (.inl h1)]; exact h2⟩, h3.agree fun _ ad had => hag _ (.inr (h5 ad had).2), h4, h5⟩
  facts _ := True
  ok := fun _ => trivial
/-- A reader, whatever is left. -/
def rdAnyI (r : Nat) : It where
  P e _ w := e r ∧ RdAny w r
  st := by
    rintro e s w w' ⟨h1, a, n, c, ⟨ty, h2⟩⟩ hag
    exact ⟨h1, a, n, c, ⟨ty, by rw [hag r (.inl h1)]; exact h2⟩⟩
  facts _ := True
  ok := fun _ => trivial
def rdOverI (r : Nat) : It where
  P e _ w := e r ∧ RdOver w r
  st := by
    rintro e s w w' ⟨h1, a, n, c, ⟨ty, h2⟩⟩ hag
    exact ⟨h1, a, n, c, ⟨ty, by rw [hag r (.inl h1)]; exact h2⟩⟩
  facts _ := True
  ok := fun _ => trivial
section
variable {fr al : Nat → Prop} {w0 w w' : World} {L : List It}
theorem PenAt.inj {w : World} {p : Nat} {g g' : Option Nat} {xs ys : List UInt8} (h : PenAt w p g xs) (h' : PenAt w p g' ys) : g = g' := by
  obtain ⟨sv, h1, _, h2, _⟩ := h
  obtain ⟨sv', h1', _, h2', _⟩ := h'
  have e1 := h1.cell 0
  have e2 := h1'.cell 0
  rw [e1] at e2
  have : sv = sv' := by simpa using e2
  subst this
  rw [← h2, ← h2']
theorem PenAt.glt' {w : World} {p : Nat} {g : Option Nat} {xs : List UInt8} (h : PenAt w p g xs) {k : Nat} (hk : g = some k) : k < w.heap.size := by
  obtain ⟨sv, _, h2, h3, _⟩ := h
  exact (h2.lt k (h3.trans hk)).2
theorem Own.penStep (st : Own fr al w0 L w) {i p : Nat} {xs ys : List UInt8} (hi : L[i]? = some (penI p xs)) {g g' : Option Nat} (hp : PenAt w p g xs) (hp' : PenAt w' p g' ys) (hs : PenStep p w g w' g') : Own fr al w0 (L.set i (penI p ys)) w' :=
  st.upd hi fun e s ⟨h1, g1, h2, h3⟩ h4 h5 => by
    obtain rfl := hp.inj h2
    refine ⟨fun k => e k ∨ (w.heap.size ≤ k ∧ k < w'.heap.size), s, ⟨.inl h1, g', hp', fun k hk => ?_⟩, fun b hb => ?_, fun b hb => ⟨Nat.lt_of_lt_of_le (h4 b (.inr hb)) hs.1.size, .inr (.inl hb)⟩, fun b hb hb' => ?_, ?_⟩
    · rcases hs.2 with q | ⟨j, q, hj⟩
      · rw [q] at hk; exact .inl (h3 k hk)
      · have e := hk; rw [q] at e; injection e with e; subst e
        exact .inr ⟨hj, hp'.glt' hk⟩
    · rcases hb with hb | hb
      · exact ⟨Nat.lt_of_lt_of_le (h4 b (.inl hb)) hs.1.size, .inl hb⟩
      · exact ⟨hb.2, .inr hb.1⟩
    · rcases hb with hb | hb
      · exact h5 b hb hb'
      · have := h4 b (.inr hb'); omega
    · exact hs.1.mono fun k hk => by
        rcases hk with rfl | hk
        · exact h1
        · exact h3 k hk
theorem Own.pen (st : Own fr al w0 L w) {i p : Nat} {xs : List UInt8} (hi : L[i]? = some (penI p xs)) : ∃ g, PenAt w p g xs := let ⟨_, _, ⟨_, g, h, _⟩, _⟩ := st.get hi; ⟨g, h⟩
theorem Own.newPen (st : Own fr al w0 L w) {i p : Nat} (hi : L[i]? = some (blkI p [.slice none 0 0])) : Own fr al w0 (L.set i (penI p [])) w :=
  st.conv hi fun e s ⟨h1, h2⟩ h3 => ⟨e, s, ⟨h1, none, ⟨_, h2, ⟨rfl, .inl ⟨rfl, rfl⟩⟩, rfl, by simp⟩, fun k hk => by cases hk⟩, fun _ q => q, fun _ q => .inr q, h3⟩
/-- Two items, one of which is one's own, lie apart. -/
theorem Own.get2 (st : Own fr al w0 L w) {i j : Nat} {I J : It} (hi : L[i]? = some I) (hj : L[j]? = some J) (hij : i ≠ j) : ∃ e s e' s', I.P e s w ∧ J.P e' s' w ∧ (∀ b, e b → ¬ e' b ∧ ¬ s' b) ∧ ∀ b, e' b → ¬ s b := by
  obtain ⟨hm, e, s, F⟩ := st
  exact ⟨_, _, _, _, F.holds i I hi, F.holds j J hj, fun b hb => ⟨F.ee i j b (get_lt hi) (get_lt hj) hij hb, F.es i j b (get_lt hi) (get_lt hj) hb⟩, fun b hb => F.es j i b (get_lt hj) (get_lt hi) hb⟩
end

theorem penNumber_c {fr al : Nat → Prop} {w : World} {p : Nat} {xs : List UInt8} (st : Own fr al w [penI p xs] w) (n : Nat) (hn : n < 9223372036854775808) (hl : xs.length ≤ 100000000) :
    Calls Try.prog 72 #[.pointer (some ⟨p, 0, none⟩), .int .i64 (n : Int)] w fun e w' => e = .returned (.bool true) ∧ Own fr al w [penI p (xs ++ numB n)] w' := by
  obtain ⟨g, hp⟩ := st.pen (i := 0) rfl
  exact (penNumber_any p g xs n w hp hn hl).mono fun e w' ⟨h1, g', h2, h3⟩ => ⟨h1, st.penStep (i := 0) rfl hp h2 h3⟩
theorem penText_c {fr al : Nat → Prop} {w : World} {p m c : Nat} {a : Option Addr} {xs ys : List UInt8} (st : Own fr al w [penI p xs, byI a m ys] w) (hm : m ≤ 2048) (hl : xs.length ≤ 50000000) :
    Calls Try.prog 73 #[.pointer (some ⟨p, 0, none⟩), .slice a m c] w fun e w' => e = .returned (.bool true) ∧ Own fr al w [penI p (xs ++ (numB m ++ ys)), byI a m ys] w' := by
  obtain ⟨g, hp⟩ := st.pen (i := 0) rfl
  obtain ⟨e, s, e', s', ⟨h1, g1, h2, h3⟩, ⟨h4, h5⟩, h6, _⟩ := st.get2 (i := 0) (j := 1) rfl rfl (by decide)
  obtain rfl := hp.inj h2
  refine (penText_any p g xs a m c ys w hp h4 hm hl fun h0 ad had => ⟨?_, ?_⟩).mono fun e w' ⟨h1, g', h2, h3⟩ => ⟨h1, st.penStep (i := 0) rfl hp h2 h3⟩
  · intro q; exact (h6 _ h1).2 (q ▸ h5 h0 ad had)
  · intro q; exact (h6 _ (h3 _ q)).2 (h5 h0 ad had)
theorem own_byI {fr al : Nat → Prop} {w0 w w' : World} {L : List It} (st : Own fr al w0 L w) (hx : Ext w w') {v : Value} {xs : List UInt8} {n : Nat} (h : w'.ownsRow w.heap.size 5 1 v n (xs.map B)) :
    ∃ a c, v = .slice a xs.length c ∧ (xs.length ≤ c ∧ c ≤ maxLen) ∧ Own fr al w0 (L ++ [byI a xs.length xs]) w' := by
  obtain ⟨a, m, c, rfl, h1, h2, h3⟩ := own_by h
  obtain rfl : m = xs.length := h3.1
  exact ⟨a, c, rfl, ⟨h1, h2⟩, st.addBy hx h3 fun _ ad had => (h.lt ad.block (by rw [had]; rfl)).1⟩
theorem penBytes_c {fr al : Nat → Prop} {w : World} {p : Nat} {xs : List UInt8} (st : Own fr al w [penI p xs] w) (hl : xs.length ≤ 100000000000000) :
    Calls Try.prog 36 #[.pointer (some ⟨p, 0, none⟩)] w fun e w' => ∃ a c, e = .returned (.slice a xs.length c) ∧ (xs.length ≤ c ∧ c ≤ maxLen) ∧ Own fr al w [penI p xs, byI a xs.length xs] w' := by
  obtain ⟨g, hp⟩ := st.pen (i := 0) rfl
  refine (penBytes_own p g xs w hp hl).mono ?_
  rintro e w' ⟨v, rfl, h, hx⟩
  obtain ⟨a, c, rfl, h1, h2⟩ := own_byI st hx h
  exact ⟨a, c, rfl, h1, h2⟩
theorem clone_c {fr al : Nat → Prop} {w : World} {n c : Nat} {a : Option Addr} {xs : List UInt8} (st : Own fr al w [byI a n xs] w) (hc : n ≤ c ∧ c ≤ maxLen) (hn : n ≤ 140737488355328) :
    Calls Try.prog 56 #[.slice a n c] w fun e w' => ∃ a' c', e = .returned (.slice a' xs.length c') ∧ (xs.length ≤ c' ∧ c' ≤ maxLen) ∧ Own fr al w [byI a n xs, byI a' xs.length xs] w' := by
  refine (clone_any a n c xs w (st.by (i := 0) rfl) hc hn).mono ?_
  rintro e w' ⟨v, rfl, h, hx⟩
  obtain ⟨a, c, rfl, h1, h2⟩ := own_byI st hx h
  exact ⟨a, c, rfl, h1, h2⟩
/-- How a reading method ends: with a value, or with a failure. -/
def RdC {α : Type} (fr al : Nat → Prop) (w : World) (r : Nat) (res : Except Int (α × List UInt8)) (ok : α → Value → List It → Prop) : Ending → World → Prop := fun en w' =>
  match res with
  | .error e => en = .panicked [{ v := failV r e, recovered := false }] ∧ Own fr al w [rdAnyI r] w'
  | .ok (x, ys) => ∃ v M, en = .returned v ∧ ok x v M ∧ Own fr al w (rdI r ys :: M) w'
theorem rd_c {α : Type} {F : FuncId} {args : Array Value} {fr al : Nat → Prop} {w : World} {r : Nat} {xs : List UInt8} {res : Except Int (α × List UInt8)} {ok : α → Value → World → Prop} (st : Own fr al w [rdI r xs] w)
    (h : ∀ s, RdAt s w r xs → Calls Try.prog F args w (RdOut s r w res ok)) (okM : α → Value → List It → Prop)
    (hM : ∀ x v w' ys (e s : Nat → Prop), MutO (rdFp r) w w' → ok x v w' → e r → RdAt s w' r ys → (∀ b, e b ∨ s b → b < w.heap.size) → (∀ b, e b → ¬ s b) → (∀ b, e b → fr b) → (∀ b, e b ∨ s b → al b) → ∃ M, okM x v M ∧ Own fr al w (rdI r ys :: M) w') :
    Calls Try.prog F args w (RdC fr al w r res okM) := by
  obtain ⟨hm, e, s, Ft⟩ := st
  have h0 := Ft.holds 0 _ rfl
  have lo : ∀ b, e 0 b ∨ s 0 b → b < w.heap.size := fun b => Ft.lo 0 b (by simp)
  have hd : ∀ b, e 0 b → ¬ s 0 b := fun b => Ft.es 0 0 b (by simp) (by simp)
  have hfr : ∀ b, e 0 b → fr b := fun b hb => Ft.fr 0 b (by simp) hb (lo b (.inl hb))
  have hal : ∀ b, e 0 b ∨ s 0 b → al b := fun b hb => Ft.al 0 b (by simp) hb (lo b hb)
  refine (h (s 0) h0.2).mono fun en w' hen => ?_
  unfold RdOut at hen
  unfold RdC
  cases hr : res with
  | error er =>
    rw [hr] at hen
    obtain ⟨h1, h2, h3⟩ := hen
    exact ⟨h1, Own.mk1 (h3.mono fun k hk => by obtain rfl : k = r := hk; exact hfr _ h0.1) (e := e 0) (s := s 0) ⟨h0.1, h2⟩ (fun b hb => Nat.lt_of_lt_of_le (lo b hb) h3.size) (fun b hb _ => hfr b hb) (fun b hb _ => hal b hb) hd⟩
  | ok p =>
    obtain ⟨x, ys⟩ := p
    rw [hr] at hen
    obtain ⟨v, h1, h2, h3, h4⟩ := hen
    obtain ⟨M, h5, h6⟩ := hM x v w' ys (e 0) (s 0) h4 h2 h0.1 h3 lo hd hfr hal
    exact ⟨v, M, h1, h5, h6⟩
theorem number_c {fr al : Nat → Prop} {w : World} {r : Nat} {xs : List UInt8} (st : Own fr al w [rdI r xs] w) (most : Int) :
    Calls Try.prog 76 #[.pointer (some ⟨r, 0, none⟩), .int .i64 most] w (RdC fr al w r (rdNumber most xs) fun n v M => v = .int .i64 (n : Int) ∧ M = []) :=
  rd_c st (fun s h => number_any w r xs most h) _ fun x v w' ys e s hm hok he hrd lo hd hfr hal =>
    ⟨[], ⟨hok, rfl⟩, Own.mk1 (hm.mono fun k hk => by obtain rfl : k = r := hk; exact hfr _ he) (e := e) (s := s) ⟨he, hrd⟩ (fun b hb => Nat.lt_of_lt_of_le (lo b hb) hm.size) (fun b hb _ => hfr b hb) (fun b hb _ => hal b hb) hd⟩
theorem text_c {fr al : Nat → Prop} {w : World} {r : Nat} {xs : List UInt8} (st : Own fr al w [rdI r xs] w) (most : Int) (hl : xs.length ≤ 100000000000) :
    Calls Try.prog 77 #[.pointer (some ⟨r, 0, none⟩), .int .i64 most] w (RdC fr al w r (rdText most xs) fun bs v M => ∃ a c, v = .slice a bs.length c ∧ (bs.length ≤ c ∧ c ≤ maxLen) ∧ M = [byI a bs.length bs]) :=
  rd_c st (fun s h => text_new w r xs most h hl) _ fun x v w' ys e s hm ⟨⟨a, n, c, hv, h1, h2, h3⟩, hok⟩ he hrd lo hd hfr hal => by
    subst hv
    obtain rfl : n = x.length := h3.1
    have hfresh : ∀ b, (0 < x.length ∧ ∃ ad, a = some ad ∧ ad.block = b) → w.heap.size ≤ b ∧ b < w'.heap.size := by
      rintro b ⟨h0, ad, rfl, rfl⟩
      refine ⟨hok _ rfl, ?_⟩
      obtain ⟨b, off, hb, hc⟩ := h3.2 h0
      cases hb
      exact World.block_lt_of_cell? w' _ (hc 0 _ (List.getElem?_eq_getElem h0))
    refine ⟨_, ⟨a, c, rfl, ⟨h1, h2⟩, rfl⟩, Own.mk2 (hm.mono fun k hk => by obtain rfl : k = r := hk; exact hfr _ he) (e := e) (s := s) (f := fun _ => False) (t := fun b => 0 < x.length ∧ ∃ ad, a = some ad ∧ ad.block = b) ⟨he, hrd⟩ ⟨h3, fun h0 ad had => ⟨h0, ad, had, rfl⟩⟩ ?_ ?_ ?_ ?_ (fun _ q => q.elim)⟩
    · rintro b (hb | hb | hb)
      · exact Nat.lt_of_lt_of_le (lo b hb) hm.size
      · exact hb.elim
      · exact (hfresh b hb).2
    · rintro b (hb | hb) _
      · exact hfr b hb
      · exact hb.elim
    · rintro b (hb | hb | hb) hlt
      · exact hal b hb
      · exact hb.elim
      · have := (hfresh b hb).1; omega
    · intro b hb
      refine ⟨hd b hb, fun q => q, fun q => ?_⟩
      have := (hfresh b q).1; have := lo b (.inl hb); omega
end Go.Proofs.Ytdkemfimhdjdiaa
