/- Credentials: as values; which are right. -/
import Derived.Test.YtdkemfimhdjdiaaSlRoleA
namespace Go.Proofs.Ytdkemfimhdjdiaa
set_option linter.unusedSimpArgs false
set_option linter.unusedVariables false
open Go Go.RowKit
structure CredT where
  k : Int
  h : Role
  w : List UInt8
  b : Role
  c : Role
  e : List UInt8
deriving DecidableEq, Inhabited
def cC (x : CredT) : List Value := [.int .i64 x.k, S x.h.1, S x.h.2, S x.w, S x.b.1, S x.b.2, S x.c.1, S x.c.2, S x.e]
def cV (x : CredT) : Value := .agg #[.int .i64 x.k, S x.h.1, S x.h.2, S x.w, S x.b.1, S x.b.2, S x.c.1, S x.c.2, S x.e]
instance fltCred : Flt CredT := ⟨9, cC, fun _ => rfl, by decide, fun x u hu => by simp [cC] at hu; rcases hu with rfl | rfl | rfl | rfl | rfl | rfl | rfl | rfl | rfl <;> rfl⟩
theorem fltCred_k : Flt.k CredT = 9 := rfl
@[irreducible] def credEq (a b : CredT) : Bool := decide (a = b)
theorem credEq_eq (a b : CredT) : credEq a b = decide (a = b) := by unfold credEq; rfl
@[go_sem] theorem credEq_self (x : CredT) : credEq x x = true := by rw [credEq_eq]; simp
@[go_sem] theorem roleEq_self' (x : Role) : roleEq x x = true := by rw [roleEq_eq]; simp
theorem iteB (p : Prop) [Decidable p] (b : Bool) (W : World) : (if p then Result.ok b W else Result.ok false W) = Result.ok (decide p && b) W := by
  by_cases h : p <;> simp [h]
@[go_sem high] theorem eqCred (k : Int) (ho hd w bo bd co cd e : List UInt8) (k' : Int) (ho' hd' w' bo' bd' co' cd' e' : List UInt8) (W : World) :
    (Op.equalIn 10000 98 (.agg #[.int .i64 k, .string ⟨ho.toArray⟩, .string ⟨hd.toArray⟩, .string ⟨w.toArray⟩, .string ⟨bo.toArray⟩, .string ⟨bd.toArray⟩, .string ⟨co.toArray⟩, .string ⟨cd.toArray⟩, .string ⟨e.toArray⟩])
      (.agg #[.int .i64 k', .string ⟨ho'.toArray⟩, .string ⟨hd'.toArray⟩, .string ⟨w'.toArray⟩, .string ⟨bo'.toArray⟩, .string ⟨bd'.toArray⟩, .string ⟨co'.toArray⟩, .string ⟨cd'.toArray⟩, .string ⟨e'.toArray⟩])).run Try.prog W =
      .ok (credEq ⟨k, (ho, hd), w, (bo, bd), (co, cd), e⟩ ⟨k', (ho', hd'), w', (bo', bd'), (co', cd'), e'⟩) W := by
  have hS : Try.prog.underlying 98 = some (.struct (Try.prog.fieldsOf 98)) := by kernel_rfl
  rw [show (10000 : Nat) = 9999 + 1 from rfl, run_equalIn_agg W 9999 98 _ _ hS (by kernel_rfl), credEq_eq]
  simp only [Program.fieldsOf, Try.underlying98]
  go_simp
  simp only [iteB, Bool.and_true, Bool.and_assoc]
def nR : Role := ([], [])
/-- Which credentials are right. -/
def credR (x : CredT) : Bool := roleR x.h && (if x.k = 1 then nameR x.w && roleEq x.b nR && roleEq x.c nR && (x.e == [])
  else (x.w == []) && roleR x.b && (if x.k = 2 then roleEq x.c nR && (x.e == []) else if x.k = 3 then roleEq x.c nR && (x.b.1 == x.h.1) && nameR x.e else decide (x.k = 4) && (x.e == []) && roleR x.c && roleLt x.b x.c))
end Go.Proofs.Ytdkemfimhdjdiaa

namespace Go.Proofs.Ytdkemfimhdjdiaa
set_option linter.unusedSimpArgs false
set_option linter.unusedVariables false
open Go Go.RowKit
theorem beq_nil (x : List UInt8) : (x == []) = decide (([] : List UInt8) = x) := by cases x <;> simp
theorem roleEq_iff (x y : Role) : roleEq x y = true ↔ x = y := by rw [roleEq_eq]; simp
theorem credEq_iff (x y : CredT) : credEq x y = true ↔ x = y := by rw [credEq_eq]; simp
theorem bnil_iff (x : List UInt8) : (x == []) = true ↔ [] = x := by cases x <;> simp
theorem credEq_1 (k : Int) (h : Role) (w : List UInt8) (b c : Role) (e : List UInt8) : credEq ⟨k, h, w, ([], []), ([], []), []⟩ ⟨k, h, w, b, c, e⟩ = (roleEq b nR && roleEq c nR && (e == [])) := by
  rw [Bool.eq_iff_iff, credEq_iff]
  simp only [Bool.and_eq_true, roleEq_iff, bnil_iff, CredT.mk.injEq, nR, true_and, and_assoc]
  exact ⟨fun ⟨h1, h2, h3⟩ => ⟨h1.symm, h2.symm, h3⟩, fun ⟨h1, h2, h3⟩ => ⟨h1.symm, h2.symm, h3⟩⟩
theorem credEq_2 (k : Int) (h : Role) (w : List UInt8) (b c : Role) (e : List UInt8) : credEq ⟨k, h, [], b, ([], []), []⟩ ⟨k, h, w, b, c, e⟩ = ((w == []) && roleEq c nR && (e == [])) := by
  rw [Bool.eq_iff_iff, credEq_iff]
  simp only [Bool.and_eq_true, roleEq_iff, bnil_iff, CredT.mk.injEq, nR, true_and, and_assoc]
  exact ⟨fun ⟨h1, h2, h3⟩ => ⟨h1, h2.symm, h3⟩, fun ⟨h1, h2, h3⟩ => ⟨h1, h2.symm, h3⟩⟩
theorem credEq_3 (k : Int) (h : Role) (w : List UInt8) (b c : Role) (e : List UInt8) : credEq ⟨k, h, [], b, ([], []), e⟩ ⟨k, h, w, b, c, e⟩ = ((w == []) && roleEq c nR) := by
  rw [Bool.eq_iff_iff, credEq_iff]
  simp only [Bool.and_eq_true, roleEq_iff, bnil_iff, CredT.mk.injEq, nR, true_and, and_true]
  exact ⟨fun ⟨h1, h2⟩ => ⟨h1, h2.symm⟩, fun ⟨h1, h2⟩ => ⟨h1, h2.symm⟩⟩
theorem credEq_4 (k : Int) (h : Role) (w : List UInt8) (b c : Role) (e : List UInt8) : credEq ⟨k, h, [], b, c, []⟩ ⟨k, h, w, b, c, e⟩ = ((w == []) && (e == [])) := by
  rw [Bool.eq_iff_iff, credEq_iff]
  simp only [Bool.and_eq_true, bnil_iff, CredT.mk.injEq, true_and]
theorem roleCmp_neg (x y : Role) : decide (roleCmp x y < 0) = roleLt x y := by
  unfold roleCmp
  cases h : roleLt x y with
  | true => simp
  | false => cases h2 : roleLt y x <;> simp
set_option maxRecDepth 100000 in
set_option maxHeartbeats 1000000 in
theorem credRight_any (x : CredT) (W : World) (hl : x.h.1.length ≤ 100000 ∧ x.h.2.length ≤ 100000 ∧ x.w.length ≤ 100000 ∧ x.b.1.length ≤ 100000 ∧ x.b.2.length ≤ 100000 ∧ x.c.1.length ≤ 100000 ∧ x.c.2.length ≤ 100000 ∧ x.e.length ≤ 100000) :
    Calls Try.prog 48 #[cV x] W fun e w' => e = .returned (.bool (credR x)) ∧ Ext W w' := by
  obtain ⟨k, ⟨ho, hd⟩, nw, ⟨bo, bd⟩, ⟨co, cd⟩, we⟩ := x
  simp only at hl
  obtain ⟨l1, l2, l3, l4, l5, l6, l7, l8⟩ := hl
  have HRH := Lib.hid (roleRight_any (ho, hd))
  have HRB := Lib.hid (roleRight_any (bo, bd))
  have HRC := Lib.hid (roleRight_any (co, cd))
  have HLT := Lib.hid (roleCompare_any (bo, bd) (co, cd))
  have st := Own.startOld W
  unfold cV rV S at *
  (try simp only [Value.cells, List.cons_append, List.nil_append, List.set, spl, putIt, pick, List.map_cons, List.map_nil, List.getElem?_cons_zero, List.getElem?_cons_succ, Option.getD_some, List.drop_succ_cons, List.drop_zero, List.drop_nil, List.append_nil, unB] at st)
  (try clear hc); have hc := st.facts; (try simp only [factsOf, blkI, blkFacts, rowI, byI, datI, nullI, oldI, penI, rdI, rdAnyI, rdOverI, Nat.zero_add, Nat.reduceAdd, and_true, true_and, and_self] at hc)
  go_enter Try.func48, Try.ntmps48
  go_wp2_with ((first
        | ((with_reducible refine wl_box ?_ (fun K hK => ?_)); rfl; refine owp_box (o := ⟨some 1, _, _, _, _, _⟩) rfl st ?_; apply Exists.intro; refine ⟨?_, ?_⟩; (focus (go_simp; try rfl)); (clear st; intro b1 w hb st; clear hb))
        | ((with_reducible refine wl_alloc ?_ (fun K hK => ?_)); rfl; refine owp_alloc (o := ⟨some 3, _, _, _, _, _⟩) rfl st ?_; apply Exists.intro; apply Exists.intro; refine ⟨?_, ?_⟩; (focus (first | (go_simp; done) | (go_simp; rfl))); (clear st; intro b3 w hb st; clear hb))
        | ((with_reducible refine wl_store ?_ (fun K hK => ?_)); rfl; refine owp_store rfl st ?_; apply Exists.intro; apply Exists.intro; refine ⟨?_, ?_, ?_⟩; (focus (go_simp; try rfl)); (focus (go_simp; try rfl)); (with_reducible refine ⟨2, _, _, _, _, get2, rfl, rfl, ?_, ?_, ?_, ?_⟩); (kernel_rfl); (simp [Value.cells]); (rfl); (clear st; intro w st))); (try simp only [Value.cells, List.cons_append, List.nil_append, List.set, spl, putIt, pick, List.map_cons, List.map_nil, List.getElem?_cons_zero, List.getElem?_cons_succ, Option.getD_some, List.drop_succ_cons, List.drop_zero, List.drop_nil, List.append_nil, unB] at st); (try clear hc); have hc := st.facts; (try simp only [factsOf, blkI, blkFacts, rowI, byI, datI, nullI, oldI, penI, rdI, rdAnyI, rdOverI, Nat.zero_add, Nat.reduceAdd, and_true, true_and, and_self] at hc))
  refine (HRH.out _ (by omega) (by omega)).mono ?_
  rintro en w ⟨rfl, hx⟩
  replace st := st.ext hx
  clear hx
  (try clear hc); have hc := st.facts; (try simp only [factsOf, blkI, blkFacts, rowI, byI, datI, nullI, oldI, penI, rdI, rdAnyI, rdOverI, Nat.zero_add, Nat.reduceAdd, and_true, true_and, and_self] at hc)
  by_cases k1 : k = 1
  · subst k1
    cases h1 : roleR (ho, hd) with
    | false =>
      have H1 := Lib.hid h1
      clear h1
      go_wp2_with fail
      refine Rg4.wp_region4 (Rel := Ext) #[0, 1, 0, 4, 12, 28, 60, 124, 3, 383, 1023]
        [(6, .val (.bool false))] [9] [1, 5] (fun _ => True) [0, 1, 2, 3, 4, 5, 6, 7, 8, 9, 10] (by kernel_rfl) (by kernel_rfl) (by kernel_rfl) (by kernel_rfl) Ext.refl (fun _ _ _ => Ext.trans) (show Rg4.PB _ by repeat (first | with_reducible exact Rg4.pb_body | with_reducible exact Rg4.pb_bodyD rfl | with_reducible refine Rg4.pb_then ?_ | with_reducible refine Rg4.pb_inBlock ?_ | with_reducible refine Rg4.pb_noGoto ?_)) (trivial) ?_
      replace st := st.drew
      change Rg4.wp4 _ _ _ _ _ _ _ _ _ (World.drew _) _ _
      generalize World.drew _ = w at st ⊢
      (try clear hc); have hc := st.facts; (try simp only [factsOf, blkI, blkFacts, rowI, byI, datI, nullI, oldI, penI, rdI, rdAnyI, rdOverI, Nat.zero_add, Nat.reduceAdd, and_true, true_and, and_self] at hc)
      (refine Rg4.w4_any (Rg4.want_none rfl) rfl ?_; apply Exists.intro; refine ⟨fun w' => ?_, ?_⟩; (focus (first | (go_simp; done) | (go_simp; first | rfl | (rw [if_neg] <;> first | rfl | omega) | (rw [if_pos] <;> first | rfl | omega)))); (try simp only [Act.put, List.setIfInBounds_toArray, List.set]))
      (refine Rg4.w4_read (Rg4.want_none rfl) rfl rfl ?_; apply Exists.intro; refine ⟨fun w' hw' hcl' => ?_, ?_⟩; focus (have st' := st.ext hw'; have hc' := st'.facts; (try simp only [factsOf, blkI, blkFacts, rowI, byI, datI, nullI, oldI, penI, rdI, rdAnyI, rdOverI, Nat.zero_add, Nat.reduceAdd, and_true, true_and, and_self] at hc'); (focus (first | (go_simp; done) | (go_simp; first | rfl | (rw [if_neg] <;> first | rfl | omega) | (rw [if_pos] <;> first | rfl | omega))))); (try simp only [Act.put, List.setIfInBounds_toArray, List.set]))
      (refine Rg4.w4_any (Rg4.want_none rfl) rfl ?_; apply Exists.intro; refine ⟨fun w' => ?_, ?_⟩; (focus (first | (go_simp; done) | (go_simp; first | rfl | (rw [if_neg] <;> first | rfl | omega) | (rw [if_pos] <;> first | rfl | omega)))); (try simp only [Act.put, List.setIfInBounds_toArray, List.set]))
      (refine Rg4.w4_any (Rg4.want_none rfl) rfl ?_; apply Exists.intro; refine ⟨fun w' => ?_, ?_⟩; (focus (first | (go_simp; done) | (go_simp; first | rfl | (rw [if_neg] <;> first | rfl | omega) | (rw [if_pos] <;> first | rfl | omega)))); (try simp only [Act.put, List.setIfInBounds_toArray, List.set]))
      (first | (refine Rg4.w4_any (Rg4.want_of 3 20 true rfl rfl rfl) rfl ?_; apply Exists.intro; refine ⟨fun w' => ?_, ?_⟩; (focus (first | (go_simp; done) | (go_simp; first | rfl | (rw [if_neg] <;> first | rfl | omega) | (rw [if_pos] <;> first | rfl | omega)))); (try simp only [Act.put, List.setIfInBounds_toArray, List.set])) | (refine Rg4.w4_skip (Rg4.unwant_of 3 20 true rfl rfl rfl) ?_; (try simp only [Act.put, List.setIfInBounds_toArray, List.set])) | (refine Rg4.w4_skip (Rg4.unwant_nil 3 20 true rfl rfl rfl) ?_; (try simp only [Act.put, List.setIfInBounds_toArray, List.set])))
      (first | (refine Rg4.w4_read (Rg4.want_of 3 20 true rfl rfl rfl) rfl rfl ?_; apply Exists.intro; refine ⟨fun w' hw' hcl' => ?_, ?_⟩; focus (have st' := st.ext hw'; have hc' := st'.facts; (try simp only [factsOf, blkI, blkFacts, rowI, byI, datI, nullI, oldI, penI, rdI, rdAnyI, rdOverI, Nat.zero_add, Nat.reduceAdd, and_true, true_and, and_self] at hc'); (focus (first | (go_simp; done) | (go_simp; first | rfl | (rw [if_neg] <;> first | rfl | omega) | (rw [if_pos] <;> first | rfl | omega))))); (try simp only [Act.put, List.setIfInBounds_toArray, List.set])) | (refine Rg4.w4_skip (Rg4.unwant_of 3 20 true rfl rfl rfl) ?_; (try simp only [Act.put, List.setIfInBounds_toArray, List.set])) | (refine Rg4.w4_skip (Rg4.unwant_nil 3 20 true rfl rfl rfl) ?_; (try simp only [Act.put, List.setIfInBounds_toArray, List.set])))
      first | refine Rg4.w4_skip (Rg4.unwant_of 3 20 true rfl rfl rfl) ?_ | refine Rg4.w4_skip (Rg4.unwant_nil 3 20 true rfl rfl rfl) ?_
      (try simp only [Act.put, List.setIfInBounds_toArray, List.set])
      (refine Rg4.w4_any (Rg4.want_none rfl) rfl ?_; apply Exists.intro; refine ⟨fun w' => ?_, ?_⟩; (focus (first | (go_simp; done) | (go_simp; first | rfl | (rw [if_neg] <;> first | rfl | omega) | (rw [if_pos] <;> first | rfl | omega)))); (try simp only [Act.put, List.setIfInBounds_toArray, List.set]))
      (refine Rg4.w4_any (Rg4.want_none rfl) rfl ?_; apply Exists.intro; refine ⟨fun w' => ?_, ?_⟩; (focus (first | (go_simp; done) | (go_simp; first | rfl | (rw [if_neg] <;> first | rfl | omega) | (rw [if_pos] <;> first | rfl | omega)))); (try simp only [Act.put, List.setIfInBounds_toArray, List.set]))
      (refine Rg4.w4_bar (Rg4.want_none rfl) rfl (fun w' hw' hcl' _ K hK => ?_); replace st := st.ext hw'; (refine owp_store rfl st ?_; apply Exists.intro; apply Exists.intro; refine ⟨?_, ?_, ?_⟩; (focus (go_simp; try rfl)); (focus (go_simp; try rfl)); (with_reducible refine ⟨2, _, _, _, _, get2, rfl, rfl, ?_, ?_, ?_, ?_⟩); (kernel_rfl); (simp [Value.cells]); (rfl); (clear st; intro w st); (try simp only [Value.cells, List.cons_append, List.nil_append, List.set, spl, putIt, pick, List.map_cons, List.map_nil, List.getElem?_cons_zero, List.getElem?_cons_succ, Option.getD_some, List.drop_succ_cons, List.drop_zero, List.drop_nil, List.append_nil, unB] at st); (try clear hc); have hc := st.facts; (try simp only [factsOf, blkI, blkFacts, rowI, byI, datI, nullI, oldI, penI, rdI, rdAnyI, rdOverI, Nat.zero_add, Nat.reduceAdd, and_true, true_and, and_self] at hc)); refine hK _ _ ⟨trivial, ?_⟩; (try simp only [Act.put, List.setIfInBounds_toArray, List.set]))
      (refine Rg4.w4_any (Rg4.want_none rfl) rfl ?_; apply Exists.intro; refine ⟨fun w' => ?_, ?_⟩; (focus (first | (go_simp; done) | (go_simp; first | rfl | (rw [if_neg] <;> first | rfl | omega) | (rw [if_pos] <;> first | rfl | omega)))); (try simp only [Act.put, List.setIfInBounds_toArray, List.set]))
      refine Rg4.w4_nil (fun w' hw' hcl' _ => ?_); replace st := st.ext hw'; clear hw' hcl'; (try clear hc); have hc := st.facts; (try simp only [factsOf, blkI, blkFacts, rowI, byI, datI, nullI, oldI, penI, rdI, rdAnyI, rdOverI, Nat.zero_add, Nat.reduceAdd, and_true, true_and, and_self] at hc)
      go_wp2_with fail
      go_ret
      exact ⟨by simp [credR, H1.out], st.ext0⟩
    | true =>
      have H1 := Lib.hid h1
      clear h1
      cases h2 : nameR nw with
      | false =>
        have H2 := Lib.hid h2
        clear h2
        go_wp2_with fail
        refine Rg4.wp_region4 (Rel := Ext) #[0, 1, 0, 4, 12, 28, 60, 124, 3, 383, 1023]
          [(6, .val (.bool false))] [9] [1, 5] (fun _ => True) [0, 1, 2, 3, 4, 5, 6, 7, 8, 9, 10] (by kernel_rfl) (by kernel_rfl) (by kernel_rfl) (by kernel_rfl) Ext.refl (fun _ _ _ => Ext.trans) (show Rg4.PB _ by repeat (first | with_reducible exact Rg4.pb_body | with_reducible exact Rg4.pb_bodyD rfl | with_reducible refine Rg4.pb_then ?_ | with_reducible refine Rg4.pb_inBlock ?_ | with_reducible refine Rg4.pb_noGoto ?_)) (trivial) ?_
        replace st := st.drew
        change Rg4.wp4 _ _ _ _ _ _ _ _ _ (World.drew _) _ _
        generalize World.drew _ = w at st ⊢
        (try clear hc); have hc := st.facts; (try simp only [factsOf, blkI, blkFacts, rowI, byI, datI, nullI, oldI, penI, rdI, rdAnyI, rdOverI, Nat.zero_add, Nat.reduceAdd, and_true, true_and, and_self] at hc)
        (refine Rg4.w4_any (Rg4.want_none rfl) rfl ?_; apply Exists.intro; refine ⟨fun w' => ?_, ?_⟩; (focus (first | (go_simp; done) | (go_simp; first | rfl | (rw [if_neg] <;> first | rfl | omega) | (rw [if_pos] <;> first | rfl | omega)))); (try simp only [Act.put, List.setIfInBounds_toArray, List.set]))
        (refine Rg4.w4_read (Rg4.want_none rfl) rfl rfl ?_; apply Exists.intro; refine ⟨fun w' hw' hcl' => ?_, ?_⟩; focus (have st' := st.ext hw'; have hc' := st'.facts; (try simp only [factsOf, blkI, blkFacts, rowI, byI, datI, nullI, oldI, penI, rdI, rdAnyI, rdOverI, Nat.zero_add, Nat.reduceAdd, and_true, true_and, and_self] at hc'); (focus (first | (go_simp; done) | (go_simp; first | rfl | (rw [if_neg] <;> first | rfl | omega) | (rw [if_pos] <;> first | rfl | omega))))); (try simp only [Act.put, List.setIfInBounds_toArray, List.set]))
        (refine Rg4.w4_any (Rg4.want_none rfl) rfl ?_; apply Exists.intro; refine ⟨fun w' => ?_, ?_⟩; (focus (first | (go_simp; done) | (go_simp; first | rfl | (rw [if_neg] <;> first | rfl | omega) | (rw [if_pos] <;> first | rfl | omega)))); (try simp only [Act.put, List.setIfInBounds_toArray, List.set]))
        (refine Rg4.w4_any (Rg4.want_none rfl) rfl ?_; apply Exists.intro; refine ⟨fun w' => ?_, ?_⟩; (focus (first | (go_simp; done) | (go_simp; first | rfl | (rw [if_neg] <;> first | rfl | omega) | (rw [if_pos] <;> first | rfl | omega)))); (try simp only [Act.put, List.setIfInBounds_toArray, List.set]))
        (first | (refine Rg4.w4_any (Rg4.want_of 3 20 true rfl rfl rfl) rfl ?_; apply Exists.intro; refine ⟨fun w' => ?_, ?_⟩; (focus (first | (go_simp; done) | (go_simp; first | rfl | (rw [if_neg] <;> first | rfl | omega) | (rw [if_pos] <;> first | rfl | omega)))); (try simp only [Act.put, List.setIfInBounds_toArray, List.set])) | (refine Rg4.w4_skip (Rg4.unwant_of 3 20 true rfl rfl rfl) ?_; (try simp only [Act.put, List.setIfInBounds_toArray, List.set])) | (refine Rg4.w4_skip (Rg4.unwant_nil 3 20 true rfl rfl rfl) ?_; (try simp only [Act.put, List.setIfInBounds_toArray, List.set])))
        (first | (refine Rg4.w4_read (Rg4.want_of 3 20 true rfl rfl rfl) rfl rfl ?_; apply Exists.intro; refine ⟨fun w' hw' hcl' => ?_, ?_⟩; focus (have st' := st.ext hw'; have hc' := st'.facts; (try simp only [factsOf, blkI, blkFacts, rowI, byI, datI, nullI, oldI, penI, rdI, rdAnyI, rdOverI, Nat.zero_add, Nat.reduceAdd, and_true, true_and, and_self] at hc'); (focus (first | (go_simp; done) | (go_simp; first | rfl | (rw [if_neg] <;> first | rfl | omega) | (rw [if_pos] <;> first | rfl | omega))))); (try simp only [Act.put, List.setIfInBounds_toArray, List.set])) | (refine Rg4.w4_skip (Rg4.unwant_of 3 20 true rfl rfl rfl) ?_; (try simp only [Act.put, List.setIfInBounds_toArray, List.set])) | (refine Rg4.w4_skip (Rg4.unwant_nil 3 20 true rfl rfl rfl) ?_; (try simp only [Act.put, List.setIfInBounds_toArray, List.set])))
        refine Rg4.w4_some (Rg4.want_of 3 20 true rfl rfl rfl) rfl (fun w' hw' hcl' _ => ?_) ?_
        · refine Rg.relAt_call (by go_simp; exact ⟨rfl, rfl⟩) ?_
          refine (right_any nw _ (by omega)).mono ?_
          rintro en w'' ⟨rfl, hx⟩
          exact ⟨_, by rw [H2.out], hx, trivial, rfl⟩
        rintro v ⟨_, _, _, rfl⟩
        (try simp only [Act.put, List.setIfInBounds_toArray, List.set])
        (refine Rg4.w4_any (Rg4.want_none rfl) rfl ?_; apply Exists.intro; refine ⟨fun w' => ?_, ?_⟩; (focus (first | (go_simp; done) | (go_simp; first | rfl | (rw [if_neg] <;> first | rfl | omega) | (rw [if_pos] <;> first | rfl | omega)))); (try simp only [Act.put, List.setIfInBounds_toArray, List.set]))
        (refine Rg4.w4_any (Rg4.want_none rfl) rfl ?_; apply Exists.intro; refine ⟨fun w' => ?_, ?_⟩; (focus (first | (go_simp; done) | (go_simp; first | rfl | (rw [if_neg] <;> first | rfl | omega) | (rw [if_pos] <;> first | rfl | omega)))); (try simp only [Act.put, List.setIfInBounds_toArray, List.set]))
        (refine Rg4.w4_bar (Rg4.want_none rfl) rfl (fun w' hw' hcl' _ K hK => ?_); replace st := st.ext hw'; (refine owp_store rfl st ?_; apply Exists.intro; apply Exists.intro; refine ⟨?_, ?_, ?_⟩; (focus (go_simp; try rfl)); (focus (go_simp; try rfl)); (with_reducible refine ⟨2, _, _, _, _, get2, rfl, rfl, ?_, ?_, ?_, ?_⟩); (kernel_rfl); (simp [Value.cells]); (rfl); (clear st; intro w st); (try simp only [Value.cells, List.cons_append, List.nil_append, List.set, spl, putIt, pick, List.map_cons, List.map_nil, List.getElem?_cons_zero, List.getElem?_cons_succ, Option.getD_some, List.drop_succ_cons, List.drop_zero, List.drop_nil, List.append_nil, unB] at st); (try clear hc); have hc := st.facts; (try simp only [factsOf, blkI, blkFacts, rowI, byI, datI, nullI, oldI, penI, rdI, rdAnyI, rdOverI, Nat.zero_add, Nat.reduceAdd, and_true, true_and, and_self] at hc)); refine hK _ _ ⟨trivial, ?_⟩; (try simp only [Act.put, List.setIfInBounds_toArray, List.set]))
        (refine Rg4.w4_any (Rg4.want_none rfl) rfl ?_; apply Exists.intro; refine ⟨fun w' => ?_, ?_⟩; (focus (first | (go_simp; done) | (go_simp; first | rfl | (rw [if_neg] <;> first | rfl | omega) | (rw [if_pos] <;> first | rfl | omega)))); (try simp only [Act.put, List.setIfInBounds_toArray, List.set]))
        refine Rg4.w4_nil (fun w' hw' hcl' _ => ?_); replace st := st.ext hw'; clear hw' hcl'; (try clear hc); have hc := st.facts; (try simp only [factsOf, blkI, blkFacts, rowI, byI, datI, nullI, oldI, penI, rdI, rdAnyI, rdOverI, Nat.zero_add, Nat.reduceAdd, and_true, true_and, and_self] at hc)
        go_wp2_with fail
        go_ret
        exact ⟨by simp [credR, H1.out, H2.out], st.ext0⟩
      | true =>
        have H2 := Lib.hid h2
        clear h2
        go_wp2_with fail
        refine Rg4.wp_region4 (Rel := Ext) #[0, 1, 0, 4, 12, 28, 60, 124, 3, 383, 1023]
          [(6, .val (.bool true))] [9] [1, 5] (fun _ => True) [0, 1, 2, 3, 4, 5, 6, 7, 8, 9, 10] (by kernel_rfl) (by kernel_rfl) (by kernel_rfl) (by kernel_rfl) Ext.refl (fun _ _ _ => Ext.trans) (show Rg4.PB _ by repeat (first | with_reducible exact Rg4.pb_body | with_reducible exact Rg4.pb_bodyD rfl | with_reducible refine Rg4.pb_then ?_ | with_reducible refine Rg4.pb_inBlock ?_ | with_reducible refine Rg4.pb_noGoto ?_)) (trivial) ?_
        replace st := st.drew
        change Rg4.wp4 _ _ _ _ _ _ _ _ _ (World.drew _) _ _
        generalize World.drew _ = w at st ⊢
        (try clear hc); have hc := st.facts; (try simp only [factsOf, blkI, blkFacts, rowI, byI, datI, nullI, oldI, penI, rdI, rdAnyI, rdOverI, Nat.zero_add, Nat.reduceAdd, and_true, true_and, and_self] at hc)
        (refine Rg4.w4_any (Rg4.want_none rfl) rfl ?_; apply Exists.intro; refine ⟨fun w' => ?_, ?_⟩; (focus (first | (go_simp; done) | (go_simp; first | rfl | (rw [if_neg] <;> first | rfl | omega) | (rw [if_pos] <;> first | rfl | omega)))); (try simp only [Act.put, List.setIfInBounds_toArray, List.set]))
        (refine Rg4.w4_read (Rg4.want_none rfl) rfl rfl ?_; apply Exists.intro; refine ⟨fun w' hw' hcl' => ?_, ?_⟩; focus (have st' := st.ext hw'; have hc' := st'.facts; (try simp only [factsOf, blkI, blkFacts, rowI, byI, datI, nullI, oldI, penI, rdI, rdAnyI, rdOverI, Nat.zero_add, Nat.reduceAdd, and_true, true_and, and_self] at hc'); (focus (first | (go_simp; done) | (go_simp; first | rfl | (rw [if_neg] <;> first | rfl | omega) | (rw [if_pos] <;> first | rfl | omega))))); (try simp only [Act.put, List.setIfInBounds_toArray, List.set]))
        (refine Rg4.w4_any (Rg4.want_none rfl) rfl ?_; apply Exists.intro; refine ⟨fun w' => ?_, ?_⟩; (focus (first | (go_simp; done) | (go_simp; first | rfl | (rw [if_neg] <;> first | rfl | omega) | (rw [if_pos] <;> first | rfl | omega)))); (try simp only [Act.put, List.setIfInBounds_toArray, List.set]))
        (refine Rg4.w4_any (Rg4.want_none rfl) rfl ?_; apply Exists.intro; refine ⟨fun w' => ?_, ?_⟩; (focus (first | (go_simp; done) | (go_simp; first | rfl | (rw [if_neg] <;> first | rfl | omega) | (rw [if_pos] <;> first | rfl | omega)))); (try simp only [Act.put, List.setIfInBounds_toArray, List.set]))
        (first | (refine Rg4.w4_any (Rg4.want_of 3 20 true rfl rfl rfl) rfl ?_; apply Exists.intro; refine ⟨fun w' => ?_, ?_⟩; (focus (first | (go_simp; done) | (go_simp; first | rfl | (rw [if_neg] <;> first | rfl | omega) | (rw [if_pos] <;> first | rfl | omega)))); (try simp only [Act.put, List.setIfInBounds_toArray, List.set])) | (refine Rg4.w4_skip (Rg4.unwant_of 3 20 true rfl rfl rfl) ?_; (try simp only [Act.put, List.setIfInBounds_toArray, List.set])) | (refine Rg4.w4_skip (Rg4.unwant_nil 3 20 true rfl rfl rfl) ?_; (try simp only [Act.put, List.setIfInBounds_toArray, List.set])))
        (first | (refine Rg4.w4_read (Rg4.want_of 3 20 true rfl rfl rfl) rfl rfl ?_; apply Exists.intro; refine ⟨fun w' hw' hcl' => ?_, ?_⟩; focus (have st' := st.ext hw'; have hc' := st'.facts; (try simp only [factsOf, blkI, blkFacts, rowI, byI, datI, nullI, oldI, penI, rdI, rdAnyI, rdOverI, Nat.zero_add, Nat.reduceAdd, and_true, true_and, and_self] at hc'); (focus (first | (go_simp; done) | (go_simp; first | rfl | (rw [if_neg] <;> first | rfl | omega) | (rw [if_pos] <;> first | rfl | omega))))); (try simp only [Act.put, List.setIfInBounds_toArray, List.set])) | (refine Rg4.w4_skip (Rg4.unwant_of 3 20 true rfl rfl rfl) ?_; (try simp only [Act.put, List.setIfInBounds_toArray, List.set])) | (refine Rg4.w4_skip (Rg4.unwant_nil 3 20 true rfl rfl rfl) ?_; (try simp only [Act.put, List.setIfInBounds_toArray, List.set])))
        refine Rg4.w4_some (Rg4.want_of 3 20 true rfl rfl rfl) rfl (fun w' hw' hcl' _ => ?_) ?_
        · refine Rg.relAt_call (by go_simp; exact ⟨rfl, rfl⟩) ?_
          refine (right_any nw _ (by omega)).mono ?_
          rintro en w'' ⟨rfl, hx⟩
          exact ⟨_, by rw [H2.out], hx, trivial, rfl⟩
        rintro v ⟨_, _, _, rfl⟩
        (try simp only [Act.put, List.setIfInBounds_toArray, List.set])
        (refine Rg4.w4_any (Rg4.want_none rfl) rfl ?_; apply Exists.intro; refine ⟨fun w' => ?_, ?_⟩; (focus (first | (go_simp; done) | (go_simp; first | rfl | (rw [if_neg] <;> first | rfl | omega) | (rw [if_pos] <;> first | rfl | omega)))); (try simp only [Act.put, List.setIfInBounds_toArray, List.set]))
        (refine Rg4.w4_any (Rg4.want_none rfl) rfl ?_; apply Exists.intro; refine ⟨fun w' => ?_, ?_⟩; (focus (first | (go_simp; done) | (go_simp; first | rfl | (rw [if_neg] <;> first | rfl | omega) | (rw [if_pos] <;> first | rfl | omega)))); (try simp only [Act.put, List.setIfInBounds_toArray, List.set]))
        (refine Rg4.w4_bar (Rg4.want_none rfl) rfl (fun w' hw' hcl' _ K hK => ?_); replace st := st.ext hw'; (refine owp_store rfl st ?_; apply Exists.intro; apply Exists.intro; refine ⟨?_, ?_, ?_⟩; (focus (go_simp; try rfl)); (focus (go_simp; try rfl)); (with_reducible refine ⟨2, _, _, _, _, get2, rfl, rfl, ?_, ?_, ?_, ?_⟩); (kernel_rfl); (simp [Value.cells]); (rfl); (clear st; intro w st); (try simp only [Value.cells, List.cons_append, List.nil_append, List.set, spl, putIt, pick, List.map_cons, List.map_nil, List.getElem?_cons_zero, List.getElem?_cons_succ, Option.getD_some, List.drop_succ_cons, List.drop_zero, List.drop_nil, List.append_nil, unB] at st); (try clear hc); have hc := st.facts; (try simp only [factsOf, blkI, blkFacts, rowI, byI, datI, nullI, oldI, penI, rdI, rdAnyI, rdOverI, Nat.zero_add, Nat.reduceAdd, and_true, true_and, and_self] at hc)); refine hK _ _ ⟨trivial, ?_⟩; (try simp only [Act.put, List.setIfInBounds_toArray, List.set]))
        (refine Rg4.w4_any (Rg4.want_none rfl) rfl ?_; apply Exists.intro; refine ⟨fun w' => ?_, ?_⟩; (focus (first | (go_simp; done) | (go_simp; first | rfl | (rw [if_neg] <;> first | rfl | omega) | (rw [if_pos] <;> first | rfl | omega)))); (try simp only [Act.put, List.setIfInBounds_toArray, List.set]))
        refine Rg4.w4_nil (fun w' hw' hcl' _ => ?_); replace st := st.ext hw'; clear hw' hcl'; (try clear hc); have hc := st.facts; (try simp only [factsOf, blkI, blkFacts, rowI, byI, datI, nullI, oldI, penI, rdI, rdAnyI, rdOverI, Nat.zero_add, Nat.reduceAdd, and_true, true_and, and_self] at hc)
        go_wp2_with fail
        go_ret
        exact ⟨by show Ending.returned (Value.bool (credEq _ _)) = _; rw [credEq_1]; simp [credR, H1.out, H2.out], st.ext0⟩
  · have hk1 : (k == 1) = false := by simpa using k1
    have K1 := Lib.hid k1
    clear k1
    by_cases k2 : k = 2
    · subst k2
      cases h1 : roleR (ho, hd) with
      | false =>
        have H1 := Lib.hid h1
        clear h1
        go_wp2_with fail
        refine Rg4.wp_region4 (Rel := Ext) #[0, 1, 0, 4, 12, 28, 60, 124, 3, 383, 1023]
          [(6, .val (.bool false))] [9] [1, 5] (fun _ => True) [0, 1, 2, 3, 4, 5, 6, 7, 8, 9, 10] (by kernel_rfl) (by kernel_rfl) (by kernel_rfl) (by kernel_rfl) Ext.refl (fun _ _ _ => Ext.trans) (show Rg4.PB _ by repeat (first | with_reducible exact Rg4.pb_body | with_reducible exact Rg4.pb_bodyD rfl | with_reducible refine Rg4.pb_then ?_ | with_reducible refine Rg4.pb_inBlock ?_ | with_reducible refine Rg4.pb_noGoto ?_)) (trivial) ?_
        replace st := st.drew
        change Rg4.wp4 _ _ _ _ _ _ _ _ _ (World.drew _) _ _
        generalize World.drew _ = w at st ⊢
        (try clear hc); have hc := st.facts; (try simp only [factsOf, blkI, blkFacts, rowI, byI, datI, nullI, oldI, penI, rdI, rdAnyI, rdOverI, Nat.zero_add, Nat.reduceAdd, and_true, true_and, and_self] at hc)
        (refine Rg4.w4_any (Rg4.want_none rfl) rfl ?_; apply Exists.intro; refine ⟨fun w' => ?_, ?_⟩; (focus (first | (go_simp; done) | (go_simp; first | rfl | (rw [if_neg] <;> first | rfl | omega) | (rw [if_pos] <;> first | rfl | omega)))); (try simp only [Act.put, List.setIfInBounds_toArray, List.set]))
        (refine Rg4.w4_read (Rg4.want_none rfl) rfl rfl ?_; apply Exists.intro; refine ⟨fun w' hw' hcl' => ?_, ?_⟩; focus (have st' := st.ext hw'; have hc' := st'.facts; (try simp only [factsOf, blkI, blkFacts, rowI, byI, datI, nullI, oldI, penI, rdI, rdAnyI, rdOverI, Nat.zero_add, Nat.reduceAdd, and_true, true_and, and_self] at hc'); (focus (first | (go_simp; done) | (go_simp; first | rfl | (rw [if_neg] <;> first | rfl | omega) | (rw [if_pos] <;> first | rfl | omega))))); (try simp only [Act.put, List.setIfInBounds_toArray, List.set]))
        (refine Rg4.w4_any (Rg4.want_none rfl) rfl ?_; apply Exists.intro; refine ⟨fun w' => ?_, ?_⟩; (focus (first | (go_simp; done) | (go_simp; first | rfl | (rw [if_neg] <;> first | rfl | omega) | (rw [if_pos] <;> first | rfl | omega)))); (try simp only [Act.put, List.setIfInBounds_toArray, List.set]))
        (refine Rg4.w4_any (Rg4.want_none rfl) rfl ?_; apply Exists.intro; refine ⟨fun w' => ?_, ?_⟩; (focus (first | (go_simp; done) | (go_simp; first | rfl | (rw [if_neg] <;> first | rfl | omega) | (rw [if_pos] <;> first | rfl | omega)))); (try simp only [Act.put, List.setIfInBounds_toArray, List.set]))
        (first | (refine Rg4.w4_any (Rg4.want_of 3 31 true rfl rfl rfl) rfl ?_; apply Exists.intro; refine ⟨fun w' => ?_, ?_⟩; (focus (first | (go_simp; done) | (go_simp; first | rfl | (rw [if_neg] <;> first | rfl | omega) | (rw [if_pos] <;> first | rfl | omega)))); (try simp only [Act.put, List.setIfInBounds_toArray, List.set])) | (refine Rg4.w4_skip (Rg4.unwant_of 3 31 true rfl rfl rfl) ?_; (try simp only [Act.put, List.setIfInBounds_toArray, List.set])) | (refine Rg4.w4_skip (Rg4.unwant_nil 3 31 true rfl rfl rfl) ?_; (try simp only [Act.put, List.setIfInBounds_toArray, List.set])))
        (first | (refine Rg4.w4_read (Rg4.want_of 3 31 true rfl rfl rfl) rfl rfl ?_; apply Exists.intro; refine ⟨fun w' hw' hcl' => ?_, ?_⟩; focus (have st' := st.ext hw'; have hc' := st'.facts; (try simp only [factsOf, blkI, blkFacts, rowI, byI, datI, nullI, oldI, penI, rdI, rdAnyI, rdOverI, Nat.zero_add, Nat.reduceAdd, and_true, true_and, and_self] at hc'); (focus (first | (go_simp; done) | (go_simp; first | rfl | (rw [if_neg] <;> first | rfl | omega) | (rw [if_pos] <;> first | rfl | omega))))); (try simp only [Act.put, List.setIfInBounds_toArray, List.set])) | (refine Rg4.w4_skip (Rg4.unwant_of 3 31 true rfl rfl rfl) ?_; (try simp only [Act.put, List.setIfInBounds_toArray, List.set])) | (refine Rg4.w4_skip (Rg4.unwant_nil 3 31 true rfl rfl rfl) ?_; (try simp only [Act.put, List.setIfInBounds_toArray, List.set])))
        first | refine Rg4.w4_skip (Rg4.unwant_of 3 31 true rfl rfl rfl) ?_ | refine Rg4.w4_skip (Rg4.unwant_nil 3 31 true rfl rfl rfl) ?_
        (try simp only [Act.put, List.setIfInBounds_toArray, List.set])
        (refine Rg4.w4_any (Rg4.want_none rfl) rfl ?_; apply Exists.intro; refine ⟨fun w' => ?_, ?_⟩; (focus (first | (go_simp; done) | (go_simp; first | rfl | (rw [if_neg] <;> first | rfl | omega) | (rw [if_pos] <;> first | rfl | omega)))); (try simp only [Act.put, List.setIfInBounds_toArray, List.set]))
        (refine Rg4.w4_any (Rg4.want_none rfl) rfl ?_; apply Exists.intro; refine ⟨fun w' => ?_, ?_⟩; (focus (first | (go_simp; done) | (go_simp; first | rfl | (rw [if_neg] <;> first | rfl | omega) | (rw [if_pos] <;> first | rfl | omega)))); (try simp only [Act.put, List.setIfInBounds_toArray, List.set]))
        (refine Rg4.w4_bar (Rg4.want_none rfl) rfl (fun w' hw' hcl' _ K hK => ?_); replace st := st.ext hw'; (refine owp_store rfl st ?_; apply Exists.intro; apply Exists.intro; refine ⟨?_, ?_, ?_⟩; (focus (go_simp; try rfl)); (focus (go_simp; try rfl)); (with_reducible refine ⟨2, _, _, _, _, get2, rfl, rfl, ?_, ?_, ?_, ?_⟩); (kernel_rfl); (simp [Value.cells]); (rfl); (clear st; intro w st); (try simp only [Value.cells, List.cons_append, List.nil_append, List.set, spl, putIt, pick, List.map_cons, List.map_nil, List.getElem?_cons_zero, List.getElem?_cons_succ, Option.getD_some, List.drop_succ_cons, List.drop_zero, List.drop_nil, List.append_nil, unB] at st); (try clear hc); have hc := st.facts; (try simp only [factsOf, blkI, blkFacts, rowI, byI, datI, nullI, oldI, penI, rdI, rdAnyI, rdOverI, Nat.zero_add, Nat.reduceAdd, and_true, true_and, and_self] at hc)); refine hK _ _ ⟨trivial, ?_⟩; (try simp only [Act.put, List.setIfInBounds_toArray, List.set]))
        (refine Rg4.w4_any (Rg4.want_none rfl) rfl ?_; apply Exists.intro; refine ⟨fun w' => ?_, ?_⟩; (focus (first | (go_simp; done) | (go_simp; first | rfl | (rw [if_neg] <;> first | rfl | omega) | (rw [if_pos] <;> first | rfl | omega)))); (try simp only [Act.put, List.setIfInBounds_toArray, List.set]))
        refine Rg4.w4_nil (fun w' hw' hcl' _ => ?_); replace st := st.ext hw'; clear hw' hcl'; (try clear hc); have hc := st.facts; (try simp only [factsOf, blkI, blkFacts, rowI, byI, datI, nullI, oldI, penI, rdI, rdAnyI, rdOverI, Nat.zero_add, Nat.reduceAdd, and_true, true_and, and_self] at hc)
        go_wp2_with fail
        go_ret
        exact ⟨by simp [credR, H1.out], st.ext0⟩
      | true =>
        have H1 := Lib.hid h1
        clear h1
        cases h2 : roleR (bo, bd) with
        | false =>
          have H2 := Lib.hid h2
          clear h2
          go_wp2_with fail
          refine Rg4.wp_region4 (Rel := Ext) #[0, 1, 0, 4, 12, 28, 60, 124, 3, 383, 1023]
            [(6, .val (.bool false))] [9] [1, 5] (fun _ => True) [0, 1, 2, 3, 4, 5, 6, 7, 8, 9, 10] (by kernel_rfl) (by kernel_rfl) (by kernel_rfl) (by kernel_rfl) Ext.refl (fun _ _ _ => Ext.trans) (show Rg4.PB _ by repeat (first | with_reducible exact Rg4.pb_body | with_reducible exact Rg4.pb_bodyD rfl | with_reducible refine Rg4.pb_then ?_ | with_reducible refine Rg4.pb_inBlock ?_ | with_reducible refine Rg4.pb_noGoto ?_)) (trivial) ?_
          replace st := st.drew
          change Rg4.wp4 _ _ _ _ _ _ _ _ _ (World.drew _) _ _
          generalize World.drew _ = w at st ⊢
          (try clear hc); have hc := st.facts; (try simp only [factsOf, blkI, blkFacts, rowI, byI, datI, nullI, oldI, penI, rdI, rdAnyI, rdOverI, Nat.zero_add, Nat.reduceAdd, and_true, true_and, and_self] at hc)
          (refine Rg4.w4_any (Rg4.want_none rfl) rfl ?_; apply Exists.intro; refine ⟨fun w' => ?_, ?_⟩; (focus (first | (go_simp; done) | (go_simp; first | rfl | (rw [if_neg] <;> first | rfl | omega) | (rw [if_pos] <;> first | rfl | omega)))); (try simp only [Act.put, List.setIfInBounds_toArray, List.set]))
          (refine Rg4.w4_read (Rg4.want_none rfl) rfl rfl ?_; apply Exists.intro; refine ⟨fun w' hw' hcl' => ?_, ?_⟩; focus (have st' := st.ext hw'; have hc' := st'.facts; (try simp only [factsOf, blkI, blkFacts, rowI, byI, datI, nullI, oldI, penI, rdI, rdAnyI, rdOverI, Nat.zero_add, Nat.reduceAdd, and_true, true_and, and_self] at hc'); (focus (first | (go_simp; done) | (go_simp; first | rfl | (rw [if_neg] <;> first | rfl | omega) | (rw [if_pos] <;> first | rfl | omega))))); (try simp only [Act.put, List.setIfInBounds_toArray, List.set]))
          (refine Rg4.w4_any (Rg4.want_none rfl) rfl ?_; apply Exists.intro; refine ⟨fun w' => ?_, ?_⟩; (focus (first | (go_simp; done) | (go_simp; first | rfl | (rw [if_neg] <;> first | rfl | omega) | (rw [if_pos] <;> first | rfl | omega)))); (try simp only [Act.put, List.setIfInBounds_toArray, List.set]))
          (refine Rg4.w4_any (Rg4.want_none rfl) rfl ?_; apply Exists.intro; refine ⟨fun w' => ?_, ?_⟩; (focus (first | (go_simp; done) | (go_simp; first | rfl | (rw [if_neg] <;> first | rfl | omega) | (rw [if_pos] <;> first | rfl | omega)))); (try simp only [Act.put, List.setIfInBounds_toArray, List.set]))
          (first | (refine Rg4.w4_any (Rg4.want_of 3 31 true rfl rfl rfl) rfl ?_; apply Exists.intro; refine ⟨fun w' => ?_, ?_⟩; (focus (first | (go_simp; done) | (go_simp; first | rfl | (rw [if_neg] <;> first | rfl | omega) | (rw [if_pos] <;> first | rfl | omega)))); (try simp only [Act.put, List.setIfInBounds_toArray, List.set])) | (refine Rg4.w4_skip (Rg4.unwant_of 3 31 true rfl rfl rfl) ?_; (try simp only [Act.put, List.setIfInBounds_toArray, List.set])) | (refine Rg4.w4_skip (Rg4.unwant_nil 3 31 true rfl rfl rfl) ?_; (try simp only [Act.put, List.setIfInBounds_toArray, List.set])))
          (first | (refine Rg4.w4_read (Rg4.want_of 3 31 true rfl rfl rfl) rfl rfl ?_; apply Exists.intro; refine ⟨fun w' hw' hcl' => ?_, ?_⟩; focus (have st' := st.ext hw'; have hc' := st'.facts; (try simp only [factsOf, blkI, blkFacts, rowI, byI, datI, nullI, oldI, penI, rdI, rdAnyI, rdOverI, Nat.zero_add, Nat.reduceAdd, and_true, true_and, and_self] at hc'); (focus (first | (go_simp; done) | (go_simp; first | rfl | (rw [if_neg] <;> first | rfl | omega) | (rw [if_pos] <;> first | rfl | omega))))); (try simp only [Act.put, List.setIfInBounds_toArray, List.set])) | (refine Rg4.w4_skip (Rg4.unwant_of 3 31 true rfl rfl rfl) ?_; (try simp only [Act.put, List.setIfInBounds_toArray, List.set])) | (refine Rg4.w4_skip (Rg4.unwant_nil 3 31 true rfl rfl rfl) ?_; (try simp only [Act.put, List.setIfInBounds_toArray, List.set])))
          refine Rg4.w4_some (Rg4.want_of 3 31 true rfl rfl rfl) rfl (fun w' hw' hcl' _ => ?_) ?_
          · refine Rg.relAt_call (by go_simp; exact ⟨rfl, rfl⟩) ?_
            refine (HRB.out _ (by omega) (by omega)).mono ?_
            rintro en w'' ⟨rfl, hx⟩
            exact ⟨_, by rw [H2.out], hx, trivial, rfl⟩
          rintro v ⟨_, _, _, rfl⟩
          (try simp only [Act.put, List.setIfInBounds_toArray, List.set])
          (refine Rg4.w4_any (Rg4.want_none rfl) rfl ?_; apply Exists.intro; refine ⟨fun w' => ?_, ?_⟩; (focus (first | (go_simp; done) | (go_simp; first | rfl | (rw [if_neg] <;> first | rfl | omega) | (rw [if_pos] <;> first | rfl | omega)))); (try simp only [Act.put, List.setIfInBounds_toArray, List.set]))
          (refine Rg4.w4_any (Rg4.want_none rfl) rfl ?_; apply Exists.intro; refine ⟨fun w' => ?_, ?_⟩; (focus (first | (go_simp; done) | (go_simp; first | rfl | (rw [if_neg] <;> first | rfl | omega) | (rw [if_pos] <;> first | rfl | omega)))); (try simp only [Act.put, List.setIfInBounds_toArray, List.set]))
          (refine Rg4.w4_bar (Rg4.want_none rfl) rfl (fun w' hw' hcl' _ K hK => ?_); replace st := st.ext hw'; (refine owp_store rfl st ?_; apply Exists.intro; apply Exists.intro; refine ⟨?_, ?_, ?_⟩; (focus (go_simp; try rfl)); (focus (go_simp; try rfl)); (with_reducible refine ⟨2, _, _, _, _, get2, rfl, rfl, ?_, ?_, ?_, ?_⟩); (kernel_rfl); (simp [Value.cells]); (rfl); (clear st; intro w st); (try simp only [Value.cells, List.cons_append, List.nil_append, List.set, spl, putIt, pick, List.map_cons, List.map_nil, List.getElem?_cons_zero, List.getElem?_cons_succ, Option.getD_some, List.drop_succ_cons, List.drop_zero, List.drop_nil, List.append_nil, unB] at st); (try clear hc); have hc := st.facts; (try simp only [factsOf, blkI, blkFacts, rowI, byI, datI, nullI, oldI, penI, rdI, rdAnyI, rdOverI, Nat.zero_add, Nat.reduceAdd, and_true, true_and, and_self] at hc)); refine hK _ _ ⟨trivial, ?_⟩; (try simp only [Act.put, List.setIfInBounds_toArray, List.set]))
          (refine Rg4.w4_any (Rg4.want_none rfl) rfl ?_; apply Exists.intro; refine ⟨fun w' => ?_, ?_⟩; (focus (first | (go_simp; done) | (go_simp; first | rfl | (rw [if_neg] <;> first | rfl | omega) | (rw [if_pos] <;> first | rfl | omega)))); (try simp only [Act.put, List.setIfInBounds_toArray, List.set]))
          refine Rg4.w4_nil (fun w' hw' hcl' _ => ?_); replace st := st.ext hw'; clear hw' hcl'; (try clear hc); have hc := st.facts; (try simp only [factsOf, blkI, blkFacts, rowI, byI, datI, nullI, oldI, penI, rdI, rdAnyI, rdOverI, Nat.zero_add, Nat.reduceAdd, and_true, true_and, and_self] at hc)
          go_wp2_with fail
          go_ret
          exact ⟨by simp [credR, H1.out, H2.out], st.ext0⟩
        | true =>
          have H2 := Lib.hid h2
          clear h2
          go_wp2_with fail
          refine Rg4.wp_region4 (Rel := Ext) #[0, 1, 0, 4, 12, 28, 60, 124, 3, 383, 1023]
            [(6, .val (.bool true))] [9] [1, 5] (fun _ => True) [0, 1, 2, 3, 4, 5, 6, 7, 8, 9, 10] (by kernel_rfl) (by kernel_rfl) (by kernel_rfl) (by kernel_rfl) Ext.refl (fun _ _ _ => Ext.trans) (show Rg4.PB _ by repeat (first | with_reducible exact Rg4.pb_body | with_reducible exact Rg4.pb_bodyD rfl | with_reducible refine Rg4.pb_then ?_ | with_reducible refine Rg4.pb_inBlock ?_ | with_reducible refine Rg4.pb_noGoto ?_)) (trivial) ?_
          replace st := st.drew
          change Rg4.wp4 _ _ _ _ _ _ _ _ _ (World.drew _) _ _
          generalize World.drew _ = w at st ⊢
          (try clear hc); have hc := st.facts; (try simp only [factsOf, blkI, blkFacts, rowI, byI, datI, nullI, oldI, penI, rdI, rdAnyI, rdOverI, Nat.zero_add, Nat.reduceAdd, and_true, true_and, and_self] at hc)
          (refine Rg4.w4_any (Rg4.want_none rfl) rfl ?_; apply Exists.intro; refine ⟨fun w' => ?_, ?_⟩; (focus (first | (go_simp; done) | (go_simp; first | rfl | (rw [if_neg] <;> first | rfl | omega) | (rw [if_pos] <;> first | rfl | omega)))); (try simp only [Act.put, List.setIfInBounds_toArray, List.set]))
          (refine Rg4.w4_read (Rg4.want_none rfl) rfl rfl ?_; apply Exists.intro; refine ⟨fun w' hw' hcl' => ?_, ?_⟩; focus (have st' := st.ext hw'; have hc' := st'.facts; (try simp only [factsOf, blkI, blkFacts, rowI, byI, datI, nullI, oldI, penI, rdI, rdAnyI, rdOverI, Nat.zero_add, Nat.reduceAdd, and_true, true_and, and_self] at hc'); (focus (first | (go_simp; done) | (go_simp; first | rfl | (rw [if_neg] <;> first | rfl | omega) | (rw [if_pos] <;> first | rfl | omega))))); (try simp only [Act.put, List.setIfInBounds_toArray, List.set]))
          (refine Rg4.w4_any (Rg4.want_none rfl) rfl ?_; apply Exists.intro; refine ⟨fun w' => ?_, ?_⟩; (focus (first | (go_simp; done) | (go_simp; first | rfl | (rw [if_neg] <;> first | rfl | omega) | (rw [if_pos] <;> first | rfl | omega)))); (try simp only [Act.put, List.setIfInBounds_toArray, List.set]))
          (refine Rg4.w4_any (Rg4.want_none rfl) rfl ?_; apply Exists.intro; refine ⟨fun w' => ?_, ?_⟩; (focus (first | (go_simp; done) | (go_simp; first | rfl | (rw [if_neg] <;> first | rfl | omega) | (rw [if_pos] <;> first | rfl | omega)))); (try simp only [Act.put, List.setIfInBounds_toArray, List.set]))
          (first | (refine Rg4.w4_any (Rg4.want_of 3 31 true rfl rfl rfl) rfl ?_; apply Exists.intro; refine ⟨fun w' => ?_, ?_⟩; (focus (first | (go_simp; done) | (go_simp; first | rfl | (rw [if_neg] <;> first | rfl | omega) | (rw [if_pos] <;> first | rfl | omega)))); (try simp only [Act.put, List.setIfInBounds_toArray, List.set])) | (refine Rg4.w4_skip (Rg4.unwant_of 3 31 true rfl rfl rfl) ?_; (try simp only [Act.put, List.setIfInBounds_toArray, List.set])) | (refine Rg4.w4_skip (Rg4.unwant_nil 3 31 true rfl rfl rfl) ?_; (try simp only [Act.put, List.setIfInBounds_toArray, List.set])))
          (first | (refine Rg4.w4_read (Rg4.want_of 3 31 true rfl rfl rfl) rfl rfl ?_; apply Exists.intro; refine ⟨fun w' hw' hcl' => ?_, ?_⟩; focus (have st' := st.ext hw'; have hc' := st'.facts; (try simp only [factsOf, blkI, blkFacts, rowI, byI, datI, nullI, oldI, penI, rdI, rdAnyI, rdOverI, Nat.zero_add, Nat.reduceAdd, and_true, true_and, and_self] at hc'); (focus (first | (go_simp; done) | (go_simp; first | rfl | (rw [if_neg] <;> first | rfl | omega) | (rw [if_pos] <;> first | rfl | omega))))); (try simp only [Act.put, List.setIfInBounds_toArray, List.set])) | (refine Rg4.w4_skip (Rg4.unwant_of 3 31 true rfl rfl rfl) ?_; (try simp only [Act.put, List.setIfInBounds_toArray, List.set])) | (refine Rg4.w4_skip (Rg4.unwant_nil 3 31 true rfl rfl rfl) ?_; (try simp only [Act.put, List.setIfInBounds_toArray, List.set])))
          refine Rg4.w4_some (Rg4.want_of 3 31 true rfl rfl rfl) rfl (fun w' hw' hcl' _ => ?_) ?_
          · refine Rg.relAt_call (by go_simp; exact ⟨rfl, rfl⟩) ?_
            refine (HRB.out _ (by omega) (by omega)).mono ?_
            rintro en w'' ⟨rfl, hx⟩
            exact ⟨_, by rw [H2.out], hx, trivial, rfl⟩
          rintro v ⟨_, _, _, rfl⟩
          (try simp only [Act.put, List.setIfInBounds_toArray, List.set])
          (refine Rg4.w4_any (Rg4.want_none rfl) rfl ?_; apply Exists.intro; refine ⟨fun w' => ?_, ?_⟩; (focus (first | (go_simp; done) | (go_simp; first | rfl | (rw [if_neg] <;> first | rfl | omega) | (rw [if_pos] <;> first | rfl | omega)))); (try simp only [Act.put, List.setIfInBounds_toArray, List.set]))
          (refine Rg4.w4_any (Rg4.want_none rfl) rfl ?_; apply Exists.intro; refine ⟨fun w' => ?_, ?_⟩; (focus (first | (go_simp; done) | (go_simp; first | rfl | (rw [if_neg] <;> first | rfl | omega) | (rw [if_pos] <;> first | rfl | omega)))); (try simp only [Act.put, List.setIfInBounds_toArray, List.set]))
          (refine Rg4.w4_bar (Rg4.want_none rfl) rfl (fun w' hw' hcl' _ K hK => ?_); replace st := st.ext hw'; (refine owp_store rfl st ?_; apply Exists.intro; apply Exists.intro; refine ⟨?_, ?_, ?_⟩; (focus (go_simp; try rfl)); (focus (go_simp; try rfl)); (with_reducible refine ⟨2, _, _, _, _, get2, rfl, rfl, ?_, ?_, ?_, ?_⟩); (kernel_rfl); (simp [Value.cells]); (rfl); (clear st; intro w st); (try simp only [Value.cells, List.cons_append, List.nil_append, List.set, spl, putIt, pick, List.map_cons, List.map_nil, List.getElem?_cons_zero, List.getElem?_cons_succ, Option.getD_some, List.drop_succ_cons, List.drop_zero, List.drop_nil, List.append_nil, unB] at st); (try clear hc); have hc := st.facts; (try simp only [factsOf, blkI, blkFacts, rowI, byI, datI, nullI, oldI, penI, rdI, rdAnyI, rdOverI, Nat.zero_add, Nat.reduceAdd, and_true, true_and, and_self] at hc)); refine hK _ _ ⟨trivial, ?_⟩; (try simp only [Act.put, List.setIfInBounds_toArray, List.set]))
          (refine Rg4.w4_any (Rg4.want_none rfl) rfl ?_; apply Exists.intro; refine ⟨fun w' => ?_, ?_⟩; (focus (first | (go_simp; done) | (go_simp; first | rfl | (rw [if_neg] <;> first | rfl | omega) | (rw [if_pos] <;> first | rfl | omega)))); (try simp only [Act.put, List.setIfInBounds_toArray, List.set]))
          refine Rg4.w4_nil (fun w' hw' hcl' _ => ?_); replace st := st.ext hw'; clear hw' hcl'; (try clear hc); have hc := st.facts; (try simp only [factsOf, blkI, blkFacts, rowI, byI, datI, nullI, oldI, penI, rdI, rdAnyI, rdOverI, Nat.zero_add, Nat.reduceAdd, and_true, true_and, and_self] at hc)
          go_wp2_with fail
          go_ret
          exact ⟨by show Ending.returned (Value.bool (credEq _ _)) = _; rw [credEq_2]; simp [credR, H1.out, H2.out, Bool.and_assoc], st.ext0⟩
    · have hk2 : (k == 2) = false := by simpa using k2
      have K2 := Lib.hid k2
      clear k2
      by_cases k3 : k = 3
      · subst k3
        cases h1 : roleR (ho, hd) with
        | false =>
          have H1 := Lib.hid h1
          clear h1
          go_wp2_with fail
          refine Rg4.wp_region4_eq #[0, 1, 0, 4, 3, 19, 63, 127] [5, 7] [1] (fun W' => Blk W' b1 [.int .i64 3, .string ⟨ho.toArray⟩, .string ⟨hd.toArray⟩, .string ⟨nw.toArray⟩, .string ⟨bo.toArray⟩, .string ⟨bd.toArray⟩, .string ⟨co.toArray⟩, .string ⟨cd.toArray⟩, .string ⟨we.toArray⟩]) [0, 1, 2, 3, 4, 5, 6, 7] (by kernel_rfl) (by kernel_rfl) (by kernel_rfl) (by kernel_rfl) (show Rg4.PB _ by repeat (first | with_reducible exact Rg4.pb_body | with_reducible exact Rg4.pb_bodyD rfl | with_reducible refine Rg4.pb_then ?_ | with_reducible refine Rg4.pb_inBlock ?_ | with_reducible refine Rg4.pb_noGoto ?_)) (st.drew.blk (i := 1) get1) ?_
          replace st := st.drew
          change Rg4.wp4 _ _ _ _ _ _ _ _ _ (World.drew _) _ _
          generalize World.drew _ = w at st ⊢
          (try clear hc); have hc := st.facts; (try simp only [factsOf, blkI, blkFacts, rowI, byI, datI, nullI, oldI, penI, rdI, rdAnyI, rdOverI, Nat.zero_add, Nat.reduceAdd, and_true, true_and, and_self] at hc)
          (refine Rg4.w4_any (Rg4.want_none rfl) rfl ?_; apply Exists.intro; refine ⟨fun w' => ?_, ?_⟩; (focus (first | (go_simp; done) | (go_simp; first | rfl | (rw [if_neg] <;> first | rfl | omega) | (rw [if_pos] <;> first | rfl | omega)))); (try simp only [Act.put, List.setIfInBounds_toArray, List.set]))
          (refine Rg4.w4_read (Rg4.want_none rfl) rfl rfl ?_; apply Exists.intro; refine ⟨fun w' hw' hcl' => ?_, ?_⟩; focus (subst hw'; (focus (first | (go_simp; done) | (go_simp; first | rfl | (rw [if_neg] <;> first | rfl | omega) | (rw [if_pos] <;> first | rfl | omega))))); (try simp only [Act.put, List.setIfInBounds_toArray, List.set]))
          (refine Rg4.w4_any (Rg4.want_none rfl) rfl ?_; apply Exists.intro; refine ⟨fun w' => ?_, ?_⟩; (focus (first | (go_simp; done) | (go_simp; first | rfl | (rw [if_neg] <;> first | rfl | omega) | (rw [if_pos] <;> first | rfl | omega)))); (try simp only [Act.put, List.setIfInBounds_toArray, List.set]))
          (refine Rg4.w4_cl (Rg4.want_none rfl) rfl ?_; apply Exists.intro; refine ⟨fun w' hcl => ?_, ?_⟩; (focus (have q6 := Blk.cell hcl 6; have q7 := Blk.cell hcl 7; have q8 := Blk.cell hcl 8; (try simp at q6 q7 q8); (focus (first | (go_simp; done) | (go_simp; first | rfl | (rw [if_neg] <;> first | rfl | omega) | (rw [if_pos] <;> first | rfl | omega)))))); (try simp only [Act.put, List.setIfInBounds_toArray, List.set]))
          (refine Rg4.w4_any (Rg4.want_none rfl) rfl ?_; apply Exists.intro; refine ⟨fun w' => ?_, ?_⟩; (focus (first | (go_simp; done) | (go_simp; first | rfl | (rw [if_neg] <;> first | rfl | omega) | (rw [if_pos] <;> first | rfl | omega)))); (try simp only [Act.put, List.setIfInBounds_toArray, List.set]))
          (refine Rg4.w4_bar (Rg4.want_none rfl) rfl (fun w' hw' hcl' _ K hK => ?_); subst hw'; (refine owp_store rfl st ?_; apply Exists.intro; apply Exists.intro; refine ⟨?_, ?_, ?_⟩; (focus (go_simp; try rfl)); (focus (go_simp; try rfl)); (with_reducible refine ⟨2, _, _, _, _, get2, rfl, rfl, ?_, ?_, ?_, ?_⟩); (kernel_rfl); (simp [Value.cells]); (rfl); (clear st; intro w st); (try simp only [Value.cells, List.cons_append, List.nil_append, List.set, spl, putIt, pick, List.map_cons, List.map_nil, List.getElem?_cons_zero, List.getElem?_cons_succ, Option.getD_some, List.drop_succ_cons, List.drop_zero, List.drop_nil, List.append_nil, unB] at st); (try clear hc); have hc := st.facts; (try simp only [factsOf, blkI, blkFacts, rowI, byI, datI, nullI, oldI, penI, rdI, rdAnyI, rdOverI, Nat.zero_add, Nat.reduceAdd, and_true, true_and, and_self] at hc)); refine hK _ _ ⟨st.blk (i := 1) get1, ?_⟩; (try simp only [Act.put, List.setIfInBounds_toArray, List.set]))
          (refine Rg4.w4_any (Rg4.want_none rfl) rfl ?_; apply Exists.intro; refine ⟨fun w' => ?_, ?_⟩; (focus (first | (go_simp; done) | (go_simp; first | rfl | (rw [if_neg] <;> first | rfl | omega) | (rw [if_pos] <;> first | rfl | omega)))); (try simp only [Act.put, List.setIfInBounds_toArray, List.set]))
          (refine Rg4.w4_bar (Rg4.want_none rfl) rfl (fun w' hw' hcl' _ K hK => ?_); subst hw'; (refine owp_store rfl st ?_; apply Exists.intro; apply Exists.intro; refine ⟨?_, ?_, ?_⟩; (focus (go_simp; try rfl)); (focus (go_simp; try rfl)); (with_reducible refine ⟨2, _, _, _, _, get2, rfl, rfl, ?_, ?_, ?_, ?_⟩); (kernel_rfl); (simp [Value.cells]); (rfl); (clear st; intro w st); (try simp only [Value.cells, List.cons_append, List.nil_append, List.set, spl, putIt, pick, List.map_cons, List.map_nil, List.getElem?_cons_zero, List.getElem?_cons_succ, Option.getD_some, List.drop_succ_cons, List.drop_zero, List.drop_nil, List.append_nil, unB] at st); (try clear hc); have hc := st.facts; (try simp only [factsOf, blkI, blkFacts, rowI, byI, datI, nullI, oldI, penI, rdI, rdAnyI, rdOverI, Nat.zero_add, Nat.reduceAdd, and_true, true_and, and_self] at hc)); refine hK _ _ ⟨st.blk (i := 1) get1, ?_⟩; (try simp only [Act.put, List.setIfInBounds_toArray, List.set]))
          refine Rg4.w4_nil (fun w' hw' hcl' _ => ?_); subst hw'; clear hcl'
          go_wp2_with fail
          go_ret
          exact ⟨by simp [credR, H1.out], st.ext0⟩
        | true =>
          have H1 := Lib.hid h1
          clear h1
          go_wp2_with fail
          refine Rg4.wp_region4_eq #[0, 1, 0, 4, 3, 19, 63, 127] [5, 7] [1] (fun W' => Blk W' b1 [.int .i64 3, .string ⟨ho.toArray⟩, .string ⟨hd.toArray⟩, .string ⟨nw.toArray⟩, .string ⟨bo.toArray⟩, .string ⟨bd.toArray⟩, .string ⟨co.toArray⟩, .string ⟨cd.toArray⟩, .string ⟨we.toArray⟩]) [0, 1, 2, 3, 4, 5, 6, 7] (by kernel_rfl) (by kernel_rfl) (by kernel_rfl) (by kernel_rfl) (show Rg4.PB _ by repeat (first | with_reducible exact Rg4.pb_body | with_reducible exact Rg4.pb_bodyD rfl | with_reducible refine Rg4.pb_then ?_ | with_reducible refine Rg4.pb_inBlock ?_ | with_reducible refine Rg4.pb_noGoto ?_)) (st.drew.blk (i := 1) get1) ?_
          replace st := st.drew
          change Rg4.wp4 _ _ _ _ _ _ _ _ _ (World.drew _) _ _
          generalize World.drew _ = w at st ⊢
          (try clear hc); have hc := st.facts; (try simp only [factsOf, blkI, blkFacts, rowI, byI, datI, nullI, oldI, penI, rdI, rdAnyI, rdOverI, Nat.zero_add, Nat.reduceAdd, and_true, true_and, and_self] at hc)
          (refine Rg4.w4_any (Rg4.want_none rfl) rfl ?_; apply Exists.intro; refine ⟨fun w' => ?_, ?_⟩; (focus (first | (go_simp; done) | (go_simp; first | rfl | (rw [if_neg] <;> first | rfl | omega) | (rw [if_pos] <;> first | rfl | omega)))); (try simp only [Act.put, List.setIfInBounds_toArray, List.set]))
          (refine Rg4.w4_read (Rg4.want_none rfl) rfl rfl ?_; apply Exists.intro; refine ⟨fun w' hw' hcl' => ?_, ?_⟩; focus (subst hw'; (focus (first | (go_simp; done) | (go_simp; first | rfl | (rw [if_neg] <;> first | rfl | omega) | (rw [if_pos] <;> first | rfl | omega))))); (try simp only [Act.put, List.setIfInBounds_toArray, List.set]))
          (refine Rg4.w4_any (Rg4.want_none rfl) rfl ?_; apply Exists.intro; refine ⟨fun w' => ?_, ?_⟩; (focus (first | (go_simp; done) | (go_simp; first | rfl | (rw [if_neg] <;> first | rfl | omega) | (rw [if_pos] <;> first | rfl | omega)))); (try simp only [Act.put, List.setIfInBounds_toArray, List.set]))
          (refine Rg4.w4_cl (Rg4.want_none rfl) rfl ?_; apply Exists.intro; refine ⟨fun w' hcl => ?_, ?_⟩; (focus (have q6 := Blk.cell hcl 6; have q7 := Blk.cell hcl 7; have q8 := Blk.cell hcl 8; (try simp at q6 q7 q8); (focus (first | (go_simp; done) | (go_simp; first | rfl | (rw [if_neg] <;> first | rfl | omega) | (rw [if_pos] <;> first | rfl | omega)))))); (try simp only [Act.put, List.setIfInBounds_toArray, List.set]))
          (refine Rg4.w4_any (Rg4.want_none rfl) rfl ?_; apply Exists.intro; refine ⟨fun w' => ?_, ?_⟩; (focus (first | (go_simp; done) | (go_simp; first | rfl | (rw [if_neg] <;> first | rfl | omega) | (rw [if_pos] <;> first | rfl | omega)))); (try simp only [Act.put, List.setIfInBounds_toArray, List.set]))
          (refine Rg4.w4_bar (Rg4.want_none rfl) rfl (fun w' hw' hcl' _ K hK => ?_); subst hw'; (refine owp_store rfl st ?_; apply Exists.intro; apply Exists.intro; refine ⟨?_, ?_, ?_⟩; (focus (go_simp; try rfl)); (focus (go_simp; try rfl)); (with_reducible refine ⟨2, _, _, _, _, get2, rfl, rfl, ?_, ?_, ?_, ?_⟩); (kernel_rfl); (simp [Value.cells]); (rfl); (clear st; intro w st); (try simp only [Value.cells, List.cons_append, List.nil_append, List.set, spl, putIt, pick, List.map_cons, List.map_nil, List.getElem?_cons_zero, List.getElem?_cons_succ, Option.getD_some, List.drop_succ_cons, List.drop_zero, List.drop_nil, List.append_nil, unB] at st); (try clear hc); have hc := st.facts; (try simp only [factsOf, blkI, blkFacts, rowI, byI, datI, nullI, oldI, penI, rdI, rdAnyI, rdOverI, Nat.zero_add, Nat.reduceAdd, and_true, true_and, and_self] at hc)); refine hK _ _ ⟨st.blk (i := 1) get1, ?_⟩; (try simp only [Act.put, List.setIfInBounds_toArray, List.set]))
          (refine Rg4.w4_any (Rg4.want_none rfl) rfl ?_; apply Exists.intro; refine ⟨fun w' => ?_, ?_⟩; (focus (first | (go_simp; done) | (go_simp; first | rfl | (rw [if_neg] <;> first | rfl | omega) | (rw [if_pos] <;> first | rfl | omega)))); (try simp only [Act.put, List.setIfInBounds_toArray, List.set]))
          (refine Rg4.w4_bar (Rg4.want_none rfl) rfl (fun w' hw' hcl' _ K hK => ?_); subst hw'; (refine owp_store rfl st ?_; apply Exists.intro; apply Exists.intro; refine ⟨?_, ?_, ?_⟩; (focus (go_simp; try rfl)); (focus (go_simp; try rfl)); (with_reducible refine ⟨2, _, _, _, _, get2, rfl, rfl, ?_, ?_, ?_, ?_⟩); (kernel_rfl); (simp [Value.cells]); (rfl); (clear st; intro w st); (try simp only [Value.cells, List.cons_append, List.nil_append, List.set, spl, putIt, pick, List.map_cons, List.map_nil, List.getElem?_cons_zero, List.getElem?_cons_succ, Option.getD_some, List.drop_succ_cons, List.drop_zero, List.drop_nil, List.append_nil, unB] at st); (try clear hc); have hc := st.facts; (try simp only [factsOf, blkI, blkFacts, rowI, byI, datI, nullI, oldI, penI, rdI, rdAnyI, rdOverI, Nat.zero_add, Nat.reduceAdd, and_true, true_and, and_self] at hc)); refine hK _ _ ⟨st.blk (i := 1) get1, ?_⟩; (try simp only [Act.put, List.setIfInBounds_toArray, List.set]))
          refine Rg4.w4_nil (fun w' hw' hcl' _ => ?_); subst hw'; clear hcl'
          go_wp2_with fail
          refine (HRB.out _ (by omega) (by omega)).mono ?_
          rintro en w ⟨rfl, hx⟩
          replace st := st.ext hx
          clear hx
          (try clear hc); have hc := st.facts; (try simp only [factsOf, blkI, blkFacts, rowI, byI, datI, nullI, oldI, penI, rdI, rdAnyI, rdOverI, Nat.zero_add, Nat.reduceAdd, and_true, true_and, and_self] at hc)
          cases h2 : roleR (bo, bd) with
          | false =>
            have H2 := Lib.hid h2
            clear h2
            go_wp2_with fail
            go_ret
            exact ⟨by simp [credR, H1.out, H2.out], st.ext0⟩
          | true =>
            have H2 := Lib.hid h2
            clear h2
            cases h3 : (bo == ho) with
            | false =>
              have H3 := Lib.hid h3
              go_wp2_with fail
              go_ret
              exact ⟨by simp only [credR, H1.out, H2.out, H3.out]; simp, st.ext0⟩
            | true =>
              have H3 := Lib.hid h3
              go_wp2_with fail
              refine (right_any we _ (by omega)).mono ?_
              rintro en w ⟨rfl, hx⟩
              replace st := st.ext hx
              clear hx
              (try clear hc); have hc := st.facts; (try simp only [factsOf, blkI, blkFacts, rowI, byI, datI, nullI, oldI, penI, rdI, rdAnyI, rdOverI, Nat.zero_add, Nat.reduceAdd, and_true, true_and, and_self] at hc)
              cases h4 : nameR we with
              | false =>
                have H4 := Lib.hid h4
                clear h4
                go_wp2_with fail
                go_ret
                exact ⟨by simp [credR, H4.out], st.ext0⟩
              | true =>
                have H4 := Lib.hid h4
                clear h4
                go_wp2_with fail
                go_ret
                exact ⟨by show Ending.returned (Value.bool (credEq _ _)) = _; rw [credEq_3]; simp only [credR, H1.out, H2.out, H3.out, H4.out]; simp, st.ext0⟩
      · have hk3 : (k == 3) = false := by simpa using k3
        have K3 := Lib.hid k3
        clear k3
        by_cases k4 : k = 4
        · subst k4
          cases h1 : roleR (ho, hd) with
          | false =>
            have H1 := Lib.hid h1
            clear h1
            go_wp2_with fail
            refine Rg4.wp_region4_eq #[0, 1, 0, 4, 3, 19, 63, 127] [5, 7] [1] (fun W' => Blk W' b1 [.int .i64 4, .string ⟨ho.toArray⟩, .string ⟨hd.toArray⟩, .string ⟨nw.toArray⟩, .string ⟨bo.toArray⟩, .string ⟨bd.toArray⟩, .string ⟨co.toArray⟩, .string ⟨cd.toArray⟩, .string ⟨we.toArray⟩]) [0, 1, 2, 3, 4, 5, 6, 7] (by kernel_rfl) (by kernel_rfl) (by kernel_rfl) (by kernel_rfl) (show Rg4.PB _ by repeat (first | with_reducible exact Rg4.pb_body | with_reducible exact Rg4.pb_bodyD rfl | with_reducible refine Rg4.pb_then ?_ | with_reducible refine Rg4.pb_inBlock ?_ | with_reducible refine Rg4.pb_noGoto ?_)) (st.drew.blk (i := 1) get1) ?_
            replace st := st.drew
            change Rg4.wp4 _ _ _ _ _ _ _ _ _ (World.drew _) _ _
            generalize World.drew _ = w at st ⊢
            (try clear hc); have hc := st.facts; (try simp only [factsOf, blkI, blkFacts, rowI, byI, datI, nullI, oldI, penI, rdI, rdAnyI, rdOverI, Nat.zero_add, Nat.reduceAdd, and_true, true_and, and_self] at hc)
            (refine Rg4.w4_any (Rg4.want_none rfl) rfl ?_; apply Exists.intro; refine ⟨fun w' => ?_, ?_⟩; (focus (first | (go_simp; done) | (go_simp; first | rfl | (rw [if_neg] <;> first | rfl | omega) | (rw [if_pos] <;> first | rfl | omega)))); (try simp only [Act.put, List.setIfInBounds_toArray, List.set]))
            (refine Rg4.w4_read (Rg4.want_none rfl) rfl rfl ?_; apply Exists.intro; refine ⟨fun w' hw' hcl' => ?_, ?_⟩; focus (subst hw'; (focus (first | (go_simp; done) | (go_simp; first | rfl | (rw [if_neg] <;> first | rfl | omega) | (rw [if_pos] <;> first | rfl | omega))))); (try simp only [Act.put, List.setIfInBounds_toArray, List.set]))
            (refine Rg4.w4_any (Rg4.want_none rfl) rfl ?_; apply Exists.intro; refine ⟨fun w' => ?_, ?_⟩; (focus (first | (go_simp; done) | (go_simp; first | rfl | (rw [if_neg] <;> first | rfl | omega) | (rw [if_pos] <;> first | rfl | omega)))); (try simp only [Act.put, List.setIfInBounds_toArray, List.set]))
            (refine Rg4.w4_cl (Rg4.want_none rfl) rfl ?_; apply Exists.intro; refine ⟨fun w' hcl => ?_, ?_⟩; (focus (have q6 := Blk.cell hcl 6; have q7 := Blk.cell hcl 7; have q8 := Blk.cell hcl 8; (try simp at q6 q7 q8); (focus (first | (go_simp; done) | (go_simp; first | rfl | (rw [if_neg] <;> first | rfl | omega) | (rw [if_pos] <;> first | rfl | omega)))))); (try simp only [Act.put, List.setIfInBounds_toArray, List.set]))
            (refine Rg4.w4_any (Rg4.want_none rfl) rfl ?_; apply Exists.intro; refine ⟨fun w' => ?_, ?_⟩; (focus (first | (go_simp; done) | (go_simp; first | rfl | (rw [if_neg] <;> first | rfl | omega) | (rw [if_pos] <;> first | rfl | omega)))); (try simp only [Act.put, List.setIfInBounds_toArray, List.set]))
            (refine Rg4.w4_bar (Rg4.want_none rfl) rfl (fun w' hw' hcl' _ K hK => ?_); subst hw'; (refine owp_store rfl st ?_; apply Exists.intro; apply Exists.intro; refine ⟨?_, ?_, ?_⟩; (focus (go_simp; try rfl)); (focus (go_simp; try rfl)); (with_reducible refine ⟨2, _, _, _, _, get2, rfl, rfl, ?_, ?_, ?_, ?_⟩); (kernel_rfl); (simp [Value.cells]); (rfl); (clear st; intro w st); (try simp only [Value.cells, List.cons_append, List.nil_append, List.set, spl, putIt, pick, List.map_cons, List.map_nil, List.getElem?_cons_zero, List.getElem?_cons_succ, Option.getD_some, List.drop_succ_cons, List.drop_zero, List.drop_nil, List.append_nil, unB] at st); (try clear hc); have hc := st.facts; (try simp only [factsOf, blkI, blkFacts, rowI, byI, datI, nullI, oldI, penI, rdI, rdAnyI, rdOverI, Nat.zero_add, Nat.reduceAdd, and_true, true_and, and_self] at hc)); refine hK _ _ ⟨st.blk (i := 1) get1, ?_⟩; (try simp only [Act.put, List.setIfInBounds_toArray, List.set]))
            (refine Rg4.w4_any (Rg4.want_none rfl) rfl ?_; apply Exists.intro; refine ⟨fun w' => ?_, ?_⟩; (focus (first | (go_simp; done) | (go_simp; first | rfl | (rw [if_neg] <;> first | rfl | omega) | (rw [if_pos] <;> first | rfl | omega)))); (try simp only [Act.put, List.setIfInBounds_toArray, List.set]))
            (refine Rg4.w4_bar (Rg4.want_none rfl) rfl (fun w' hw' hcl' _ K hK => ?_); subst hw'; (refine owp_store rfl st ?_; apply Exists.intro; apply Exists.intro; refine ⟨?_, ?_, ?_⟩; (focus (go_simp; try rfl)); (focus (go_simp; try rfl)); (with_reducible refine ⟨2, _, _, _, _, get2, rfl, rfl, ?_, ?_, ?_, ?_⟩); (kernel_rfl); (simp [Value.cells]); (rfl); (clear st; intro w st); (try simp only [Value.cells, List.cons_append, List.nil_append, List.set, spl, putIt, pick, List.map_cons, List.map_nil, List.getElem?_cons_zero, List.getElem?_cons_succ, Option.getD_some, List.drop_succ_cons, List.drop_zero, List.drop_nil, List.append_nil, unB] at st); (try clear hc); have hc := st.facts; (try simp only [factsOf, blkI, blkFacts, rowI, byI, datI, nullI, oldI, penI, rdI, rdAnyI, rdOverI, Nat.zero_add, Nat.reduceAdd, and_true, true_and, and_self] at hc)); refine hK _ _ ⟨st.blk (i := 1) get1, ?_⟩; (try simp only [Act.put, List.setIfInBounds_toArray, List.set]))
            refine Rg4.w4_nil (fun w' hw' hcl' _ => ?_); subst hw'; clear hcl'
            go_wp2_with fail
            go_ret
            exact ⟨by simp [credR, H1.out], st.ext0⟩
          | true =>
            have H1 := Lib.hid h1
            clear h1
            go_wp2_with fail
            refine Rg4.wp_region4_eq #[0, 1, 0, 4, 3, 19, 63, 127] [5, 7] [1] (fun W' => Blk W' b1 [.int .i64 4, .string ⟨ho.toArray⟩, .string ⟨hd.toArray⟩, .string ⟨nw.toArray⟩, .string ⟨bo.toArray⟩, .string ⟨bd.toArray⟩, .string ⟨co.toArray⟩, .string ⟨cd.toArray⟩, .string ⟨we.toArray⟩]) [0, 1, 2, 3, 4, 5, 6, 7] (by kernel_rfl) (by kernel_rfl) (by kernel_rfl) (by kernel_rfl) (show Rg4.PB _ by repeat (first | with_reducible exact Rg4.pb_body | with_reducible exact Rg4.pb_bodyD rfl | with_reducible refine Rg4.pb_then ?_ | with_reducible refine Rg4.pb_inBlock ?_ | with_reducible refine Rg4.pb_noGoto ?_)) (st.drew.blk (i := 1) get1) ?_
            replace st := st.drew
            change Rg4.wp4 _ _ _ _ _ _ _ _ _ (World.drew _) _ _
            generalize World.drew _ = w at st ⊢
            (try clear hc); have hc := st.facts; (try simp only [factsOf, blkI, blkFacts, rowI, byI, datI, nullI, oldI, penI, rdI, rdAnyI, rdOverI, Nat.zero_add, Nat.reduceAdd, and_true, true_and, and_self] at hc)
            (refine Rg4.w4_any (Rg4.want_none rfl) rfl ?_; apply Exists.intro; refine ⟨fun w' => ?_, ?_⟩; (focus (first | (go_simp; done) | (go_simp; first | rfl | (rw [if_neg] <;> first | rfl | omega) | (rw [if_pos] <;> first | rfl | omega)))); (try simp only [Act.put, List.setIfInBounds_toArray, List.set]))
            (refine Rg4.w4_read (Rg4.want_none rfl) rfl rfl ?_; apply Exists.intro; refine ⟨fun w' hw' hcl' => ?_, ?_⟩; focus (subst hw'; (focus (first | (go_simp; done) | (go_simp; first | rfl | (rw [if_neg] <;> first | rfl | omega) | (rw [if_pos] <;> first | rfl | omega))))); (try simp only [Act.put, List.setIfInBounds_toArray, List.set]))
            (refine Rg4.w4_any (Rg4.want_none rfl) rfl ?_; apply Exists.intro; refine ⟨fun w' => ?_, ?_⟩; (focus (first | (go_simp; done) | (go_simp; first | rfl | (rw [if_neg] <;> first | rfl | omega) | (rw [if_pos] <;> first | rfl | omega)))); (try simp only [Act.put, List.setIfInBounds_toArray, List.set]))
            (refine Rg4.w4_cl (Rg4.want_none rfl) rfl ?_; apply Exists.intro; refine ⟨fun w' hcl => ?_, ?_⟩; (focus (have q6 := Blk.cell hcl 6; have q7 := Blk.cell hcl 7; have q8 := Blk.cell hcl 8; (try simp at q6 q7 q8); (focus (first | (go_simp; done) | (go_simp; first | rfl | (rw [if_neg] <;> first | rfl | omega) | (rw [if_pos] <;> first | rfl | omega)))))); (try simp only [Act.put, List.setIfInBounds_toArray, List.set]))
            (refine Rg4.w4_any (Rg4.want_none rfl) rfl ?_; apply Exists.intro; refine ⟨fun w' => ?_, ?_⟩; (focus (first | (go_simp; done) | (go_simp; first | rfl | (rw [if_neg] <;> first | rfl | omega) | (rw [if_pos] <;> first | rfl | omega)))); (try simp only [Act.put, List.setIfInBounds_toArray, List.set]))
            (refine Rg4.w4_bar (Rg4.want_none rfl) rfl (fun w' hw' hcl' _ K hK => ?_); subst hw'; (refine owp_store rfl st ?_; apply Exists.intro; apply Exists.intro; refine ⟨?_, ?_, ?_⟩; (focus (go_simp; try rfl)); (focus (go_simp; try rfl)); (with_reducible refine ⟨2, _, _, _, _, get2, rfl, rfl, ?_, ?_, ?_, ?_⟩); (kernel_rfl); (simp [Value.cells]); (rfl); (clear st; intro w st); (try simp only [Value.cells, List.cons_append, List.nil_append, List.set, spl, putIt, pick, List.map_cons, List.map_nil, List.getElem?_cons_zero, List.getElem?_cons_succ, Option.getD_some, List.drop_succ_cons, List.drop_zero, List.drop_nil, List.append_nil, unB] at st); (try clear hc); have hc := st.facts; (try simp only [factsOf, blkI, blkFacts, rowI, byI, datI, nullI, oldI, penI, rdI, rdAnyI, rdOverI, Nat.zero_add, Nat.reduceAdd, and_true, true_and, and_self] at hc)); refine hK _ _ ⟨st.blk (i := 1) get1, ?_⟩; (try simp only [Act.put, List.setIfInBounds_toArray, List.set]))
            (refine Rg4.w4_any (Rg4.want_none rfl) rfl ?_; apply Exists.intro; refine ⟨fun w' => ?_, ?_⟩; (focus (first | (go_simp; done) | (go_simp; first | rfl | (rw [if_neg] <;> first | rfl | omega) | (rw [if_pos] <;> first | rfl | omega)))); (try simp only [Act.put, List.setIfInBounds_toArray, List.set]))
            (refine Rg4.w4_bar (Rg4.want_none rfl) rfl (fun w' hw' hcl' _ K hK => ?_); subst hw'; (refine owp_store rfl st ?_; apply Exists.intro; apply Exists.intro; refine ⟨?_, ?_, ?_⟩; (focus (go_simp; try rfl)); (focus (go_simp; try rfl)); (with_reducible refine ⟨2, _, _, _, _, get2, rfl, rfl, ?_, ?_, ?_, ?_⟩); (kernel_rfl); (simp [Value.cells]); (rfl); (clear st; intro w st); (try simp only [Value.cells, List.cons_append, List.nil_append, List.set, spl, putIt, pick, List.map_cons, List.map_nil, List.getElem?_cons_zero, List.getElem?_cons_succ, Option.getD_some, List.drop_succ_cons, List.drop_zero, List.drop_nil, List.append_nil, unB] at st); (try clear hc); have hc := st.facts; (try simp only [factsOf, blkI, blkFacts, rowI, byI, datI, nullI, oldI, penI, rdI, rdAnyI, rdOverI, Nat.zero_add, Nat.reduceAdd, and_true, true_and, and_self] at hc)); refine hK _ _ ⟨st.blk (i := 1) get1, ?_⟩; (try simp only [Act.put, List.setIfInBounds_toArray, List.set]))
            refine Rg4.w4_nil (fun w' hw' hcl' _ => ?_); subst hw'; clear hcl'
            go_wp2_with fail
            refine (HRB.out _ (by omega) (by omega)).mono ?_
            rintro en w ⟨rfl, hx⟩
            replace st := st.ext hx
            clear hx
            (try clear hc); have hc := st.facts; (try simp only [factsOf, blkI, blkFacts, rowI, byI, datI, nullI, oldI, penI, rdI, rdAnyI, rdOverI, Nat.zero_add, Nat.reduceAdd, and_true, true_and, and_self] at hc)
            cases h2 : roleR (bo, bd) with
            | false =>
              have H2 := Lib.hid h2
              clear h2
              go_wp2_with fail
              go_ret
              exact ⟨by simp [credR, H1.out, H2.out], st.ext0⟩
            | true =>
              have H2 := Lib.hid h2
              clear h2
              go_wp2_with fail
              refine (HRC.out _ (by omega) (by omega)).mono ?_
              rintro en w ⟨rfl, hx⟩
              replace st := st.ext hx
              clear hx
              (try clear hc); have hc := st.facts; (try simp only [factsOf, blkI, blkFacts, rowI, byI, datI, nullI, oldI, penI, rdI, rdAnyI, rdOverI, Nat.zero_add, Nat.reduceAdd, and_true, true_and, and_self] at hc)
              cases h3 : roleR (co, cd) with
              | false =>
                have H3 := Lib.hid h3
                clear h3
                go_wp2_with fail
                go_ret
                exact ⟨by simp [credR, H1.out, H2.out, H3.out], st.ext0⟩
              | true =>
                have H3 := Lib.hid h3
                clear h3
                go_wp2_with fail
                refine (HLT.out _).mono ?_
                rintro en w ⟨rfl, hx⟩
                replace st := st.ext hx
                clear hx
                (try clear hc); have hc := st.facts; (try simp only [factsOf, blkI, blkFacts, rowI, byI, datI, nullI, oldI, penI, rdI, rdAnyI, rdOverI, Nat.zero_add, Nat.reduceAdd, and_true, true_and, and_self] at hc)
                have h4 := roleCmp_neg (bo, bd) (co, cd)
                generalize roleCmp (bo, bd) (co, cd) = cv at *
                cases h5 : roleLt (bo, bd) (co, cd) with
                | false =>
                  have H5 := Lib.hid h5
                  rw [h5] at h4
                  clear h5
                  go_wp2_with fail
                  go_ret
                  exact ⟨by simp [credR, H1.out, H2.out, H3.out, H5.out], st.ext0⟩
                | true =>
                  have H5 := Lib.hid h5
                  rw [h5] at h4
                  clear h5
                  go_wp2_with fail
                  go_ret
                  exact ⟨by show Ending.returned (Value.bool (credEq _ _)) = _; rw [credEq_4]; simp [credR, H1.out, H2.out, H3.out, H5.out], st.ext0⟩
        · have hk4 : (k == 4) = false := by simpa using k4
          have K4 := Lib.hid k4
          clear k4
          go_wp2_with fail
          go_ret
          exact ⟨by simp [credR, K1.out, K2.out, K3.out, K4.out], st.ext0⟩
end Go.Proofs.Ytdkemfimhdjdiaa

namespace Go.Proofs.Ytdkemfimhdjdiaa
set_option linter.unusedSimpArgs false
set_option linter.unusedVariables false
open Go Go.RowKit
def credB (x : CredT) : List UInt8 := (numB x.k.toNat ++ roleB x.h) ++ (if x.k = 1 then numB x.w.length ++ x.w else roleB x.b ++ (if x.k = 3 then numB x.e.length ++ x.e else if x.k = 4 then roleB x.c else []))
/-- What is right, kind by kind. -/
theorem credR_cases {x : CredT} (h : credR x = true) : roleR x.h = true ∧ ((x.k = 1 ∧ nameR x.w = true ∧ x.b = nR ∧ x.c = nR ∧ x.e = []) ∨ (x.w = [] ∧ roleR x.b = true ∧ ((x.k = 2 ∧ x.c = nR ∧ x.e = []) ∨ (x.k = 3 ∧ x.c = nR ∧ x.b.1 = x.h.1 ∧ nameR x.e = true) ∨ (x.k = 4 ∧ x.e = [] ∧ roleR x.c = true ∧ roleLt x.b x.c = true)))) := by
  unfold credR at h
  rw [Bool.and_eq_true] at h
  refine ⟨h.1, ?_⟩
  have h := h.2
  by_cases k1 : x.k = 1
  · rw [if_pos k1] at h
    simp only [Bool.and_eq_true, roleEq_iff, beq_iff_eq] at h
    exact .inl ⟨k1, h.1.1.1, h.1.1.2, h.1.2, h.2⟩
  · rw [if_neg k1] at h
    simp only [Bool.and_eq_true, beq_iff_eq] at h
    refine .inr ⟨h.1.1, h.1.2, ?_⟩
    have h := h.2
    by_cases k2 : x.k = 2
    · rw [if_pos k2] at h
      simp only [Bool.and_eq_true, roleEq_iff, beq_iff_eq] at h
      exact .inl ⟨k2, h⟩
    · rw [if_neg k2] at h
      by_cases k3 : x.k = 3
      · rw [if_pos k3] at h
        simp only [Bool.and_eq_true, roleEq_iff, beq_iff_eq] at h
        exact .inr (.inl ⟨k3, h.1.1, h.1.2, h.2⟩)
      · rw [if_neg k3] at h
        simp only [Bool.and_eq_true, decide_eq_true_eq, beq_iff_eq] at h
        exact .inr (.inr ⟨h.1.1.1, h.1.1.2, h.1.2, h.2⟩)
theorem roleR_len {r : Role} (h : roleR r = true) : r.1.length ≤ 16 ∧ r.2.length ≤ 16 := by
  have h2 : nameR r.1 = true ∧ nameR r.2 = true := by simpa [roleR] using h
  exact ⟨(nameR_len h2.1).2, (nameR_len h2.2).2⟩
theorem roleB_len {r : Role} (h : roleR r = true) : (roleB r).length ≤ 60 := by
  have h1 := roleR_len h
  have h2 := numF_len 10 r.1.length
  have h3 := numF_len 10 r.2.length
  simp [roleB, numB]; omega
end Go.Proofs.Ytdkemfimhdjdiaa

namespace Go.Proofs.Ytdkemfimhdjdiaa
set_option linter.unusedSimpArgs false
set_option linter.unusedVariables false
open Go Go.RowKit
def credBy (x : CredT) : List UInt8 := if credR x = true then credB x else []
/-- Texts of a bounded length. -/
def CredL (n : Nat) (x : CredT) : Prop := x.h.1.length ≤ n ∧ x.h.2.length ≤ n ∧ x.w.length ≤ n ∧ x.b.1.length ≤ n ∧ x.b.2.length ≤ n ∧ x.c.1.length ≤ n ∧ x.c.2.length ≤ n ∧ x.e.length ≤ n
set_option maxRecDepth 100000 in
set_option maxHeartbeats 1000000 in
theorem credBytes_any (x : CredT) (W : World) (hl : CredL 100000 x) :
    Calls Try.prog 49 #[cV x] W fun e w' => ∃ a n c, e = .returned (.slice a n c) ∧ (n ≤ c ∧ c ≤ maxLen) ∧ By w' a n (credBy x) ∧ Ext W w' := by
  have HR := Lib.hid (fun W => credRight_any x W (by unfold CredL at hl; omega))
  have HE := Lib.hid (show credBy x = if credR x = true then credB x else [] from rfl)
  generalize credBy x = r at *
  cases hr : credR x with
  | false =>
    have H := Lib.hid hr
    obtain ⟨k, ⟨ho, hd⟩, nw, ⟨bo, bd⟩, ⟨co, cd⟩, we⟩ := x
    clear hl hr
    have st := Own.startOld W
    unfold cV S at *
    simp only at HR
    (try simp only [Value.cells, List.cons_append, List.nil_append, List.set, spl, putIt, pick, List.map_cons, List.map_nil, List.getElem?_cons_zero, List.getElem?_cons_succ, Option.getD_some, List.drop_succ_cons, List.drop_zero, List.drop_nil, List.append_nil, unB] at st)
    (try clear hc); have hc := st.facts; (try simp only [factsOf, blkI, blkFacts, rowI, byI, datI, nullI, oldI, penI, rdI, rdAnyI, rdOverI, Nat.zero_add, Nat.reduceAdd, and_true, true_and, and_self] at hc)
    go_enter Try.func49, Try.ntmps49
    go_wp2_with ((first
          | ((with_reducible refine wl_box ?_ (fun K hK => ?_)); rfl; refine owp_box (o := ⟨some 1, _, _, _, _, _⟩) rfl st ?_; apply Exists.intro; refine ⟨?_, ?_⟩; (focus (go_simp; try rfl)); (clear st; intro b1 w hb st; clear hb))
          | ((with_reducible refine wl_box ?_ (fun K hK => ?_)); rfl; refine owp_box (o := ⟨some 8, _, _, _, _, _⟩) rfl st ?_; apply Exists.intro; refine ⟨?_, ?_⟩; (focus (go_simp; try rfl)); (clear st; intro b8 w hb st; clear hb))); (try simp only [Value.cells, List.cons_append, List.nil_append, List.set, spl, putIt, pick, List.map_cons, List.map_nil, List.getElem?_cons_zero, List.getElem?_cons_succ, Option.getD_some, List.drop_succ_cons, List.drop_zero, List.drop_nil, List.append_nil, unB] at st); (try clear hc); have hc := st.facts; (try simp only [factsOf, blkI, blkFacts, rowI, byI, datI, nullI, oldI, penI, rdI, rdAnyI, rdOverI, Nat.zero_add, Nat.reduceAdd, and_true, true_and, and_self] at hc))
    refine (HR.out _).mono ?_
    rintro en w ⟨rfl, hx⟩
    replace st := st.ext hx
    clear hx
    (try clear hc); have hc := st.facts; (try simp only [factsOf, blkI, blkFacts, rowI, byI, datI, nullI, oldI, penI, rdI, rdAnyI, rdOverI, Nat.zero_add, Nat.reduceAdd, and_true, true_and, and_self] at hc)
    rw [H.out]
    go_wp2_with ((first
          | ((with_reducible refine wl_box ?_ (fun K hK => ?_)); rfl; refine owp_box (o := ⟨some 1, _, _, _, _, _⟩) rfl st ?_; apply Exists.intro; refine ⟨?_, ?_⟩; (focus (go_simp; try rfl)); (clear st; intro b1 w hb st; clear hb))
          | ((with_reducible refine wl_box ?_ (fun K hK => ?_)); rfl; refine owp_box (o := ⟨some 8, _, _, _, _, _⟩) rfl st ?_; apply Exists.intro; refine ⟨?_, ?_⟩; (focus (go_simp; try rfl)); (clear st; intro b8 w hb st; clear hb))); (try simp only [Value.cells, List.cons_append, List.nil_append, List.set, spl, putIt, pick, List.map_cons, List.map_nil, List.getElem?_cons_zero, List.getElem?_cons_succ, Option.getD_some, List.drop_succ_cons, List.drop_zero, List.drop_nil, List.append_nil, unB] at st); (try clear hc); have hc := st.facts; (try simp only [factsOf, blkI, blkFacts, rowI, byI, datI, nullI, oldI, penI, rdI, rdAnyI, rdOverI, Nat.zero_add, Nat.reduceAdd, and_true, true_and, and_self] at hc))
    go_ret
    exact ⟨none, 0, 0, rfl, ⟨by omega, by simp [maxLen]⟩, by rw [HE.out, H.out]; exact By.nil _ _, st.ext0⟩
  | true =>
    obtain ⟨hh, hcs⟩ := credR_cases hr
    have H := Lib.hid hr
    obtain ⟨k, ⟨ho, hd⟩, nw, ⟨bo, bd⟩, ⟨co, cd⟩, we⟩ := x
    simp only at hh hcs
    have hb1 := roleB_len hh
    have HH := Lib.hid hh
    clear hl hr hh
    have st := Own.startOld W
    unfold cV S at *
    simp only at HR
    (try simp only [Value.cells, List.cons_append, List.nil_append, List.set, spl, putIt, pick, List.map_cons, List.map_nil, List.getElem?_cons_zero, List.getElem?_cons_succ, Option.getD_some, List.drop_succ_cons, List.drop_zero, List.drop_nil, List.append_nil, unB] at st)
    (try clear hc); have hc := st.facts; (try simp only [factsOf, blkI, blkFacts, rowI, byI, datI, nullI, oldI, penI, rdI, rdAnyI, rdOverI, Nat.zero_add, Nat.reduceAdd, and_true, true_and, and_self] at hc)
    rcases hcs with ⟨rfl, hw, -, -, -⟩ | ⟨-, hbr, ⟨rfl, -, -⟩ | ⟨rfl, -, -, he⟩ | ⟨rfl, -, hcr, -⟩⟩
    · have hl2 := (nameR_len hw).2
      have hb2 : (numB nw.length).length ≤ 10 := numF_len 10 nw.length
      have hnk : (numB 1).length = 1 := by decide +kernel
      have HW := Lib.hid hw
      clear hw
      go_enter Try.func49, Try.ntmps49
      go_wp2_with ((first
            | ((with_reducible refine wl_box ?_ (fun K hK => ?_)); rfl; refine owp_box (o := ⟨some 1, _, _, _, _, _⟩) rfl st ?_; apply Exists.intro; refine ⟨?_, ?_⟩; (focus (go_simp; try rfl)); (clear st; intro b1 w hb st; clear hb))
            | ((with_reducible refine wl_box ?_ (fun K hK => ?_)); rfl; refine owp_box (o := ⟨some 8, _, _, _, _, _⟩) rfl st ?_; apply Exists.intro; refine ⟨?_, ?_⟩; (focus (go_simp; try rfl)); (clear st; intro b8 w hb st; clear hb))); (try simp only [Value.cells, List.cons_append, List.nil_append, List.set, spl, putIt, pick, List.map_cons, List.map_nil, List.getElem?_cons_zero, List.getElem?_cons_succ, Option.getD_some, List.drop_succ_cons, List.drop_zero, List.drop_nil, List.append_nil, unB] at st); (try clear hc); have hc := st.facts; (try simp only [factsOf, blkI, blkFacts, rowI, byI, datI, nullI, oldI, penI, rdI, rdAnyI, rdOverI, Nat.zero_add, Nat.reduceAdd, and_true, true_and, and_self] at hc))
      refine (HR.out _).mono ?_
      rintro en w ⟨rfl, hx⟩
      replace st := st.ext hx
      clear hx
      (try clear hc); have hc := st.facts; (try simp only [factsOf, blkI, blkFacts, rowI, byI, datI, nullI, oldI, penI, rdI, rdAnyI, rdOverI, Nat.zero_add, Nat.reduceAdd, and_true, true_and, and_self] at hc)
      rw [H.out]
      go_wp2_with ((first
            | ((with_reducible refine wl_box ?_ (fun K hK => ?_)); rfl; refine owp_box (o := ⟨some 1, _, _, _, _, _⟩) rfl st ?_; apply Exists.intro; refine ⟨?_, ?_⟩; (focus (go_simp; try rfl)); (clear st; intro b1 w hb st; clear hb))
            | ((with_reducible refine wl_box ?_ (fun K hK => ?_)); rfl; refine owp_box (o := ⟨some 8, _, _, _, _, _⟩) rfl st ?_; apply Exists.intro; refine ⟨?_, ?_⟩; (focus (go_simp; try rfl)); (clear st; intro b8 w hb st; clear hb))); (try simp only [Value.cells, List.cons_append, List.nil_append, List.set, spl, putIt, pick, List.map_cons, List.map_nil, List.getElem?_cons_zero, List.getElem?_cons_succ, Option.getD_some, List.drop_succ_cons, List.drop_zero, List.drop_nil, List.append_nil, unB] at st); (try clear hc); have hc := st.facts; (try simp only [factsOf, blkI, blkFacts, rowI, byI, datI, nullI, oldI, penI, rdI, rdAnyI, rdOverI, Nat.zero_add, Nat.reduceAdd, and_true, true_and, and_self] at hc))
      replace st := st.newPen (i := 2) get2
      (try simp only [Value.cells, List.cons_append, List.nil_append, List.set, spl, putIt, pick, List.map_cons, List.map_nil, List.getElem?_cons_zero, List.getElem?_cons_succ, Option.getD_some, List.drop_succ_cons, List.drop_zero, List.drop_nil, List.append_nil, unB] at st)
      (try clear hc); have hc := st.facts; (try simp only [factsOf, blkI, blkFacts, rowI, byI, datI, nullI, oldI, penI, rdI, rdAnyI, rdOverI, Nat.zero_add, Nat.reduceAdd, and_true, true_and, and_self] at hc)
      obtain ⟨fr', al', st', back⟩ := st.sub [2] (by decide) (by simp)
      (try simp only [Value.cells, List.cons_append, List.nil_append, List.set, spl, putIt, pick, List.map_cons, List.map_nil, List.getElem?_cons_zero, List.getElem?_cons_succ, Option.getD_some, List.drop_succ_cons, List.drop_zero, List.drop_nil, List.append_nil, unB] at st')
      refine (penNumber_c st' 1 (by decide) (by simp)).mono ?_
      clear st'
      rintro en w ⟨rfl, st'⟩
      replace st := back _ _ (by simp) st'
      clear back st'
      (try simp only [Value.cells, List.cons_append, List.nil_append, List.set, spl, putIt, pick, List.map_cons, List.map_nil, List.getElem?_cons_zero, List.getElem?_cons_succ, Option.getD_some, List.drop_succ_cons, List.drop_zero, List.drop_nil, List.append_nil, unB] at st)
      (try clear hc); have hc := st.facts; (try simp only [factsOf, blkI, blkFacts, rowI, byI, datI, nullI, oldI, penI, rdI, rdAnyI, rdOverI, Nat.zero_add, Nat.reduceAdd, and_true, true_and, and_self] at hc)
      go_wp2_with ((first
            | ((with_reducible refine wl_box ?_ (fun K hK => ?_)); rfl; refine owp_box (o := ⟨some 1, _, _, _, _, _⟩) rfl st ?_; apply Exists.intro; refine ⟨?_, ?_⟩; (focus (go_simp; try rfl)); (clear st; intro b1 w hb st; clear hb))
            | ((with_reducible refine wl_box ?_ (fun K hK => ?_)); rfl; refine owp_box (o := ⟨some 8, _, _, _, _, _⟩) rfl st ?_; apply Exists.intro; refine ⟨?_, ?_⟩; (focus (go_simp; try rfl)); (clear st; intro b8 w hb st; clear hb))); (try simp only [Value.cells, List.cons_append, List.nil_append, List.set, spl, putIt, pick, List.map_cons, List.map_nil, List.getElem?_cons_zero, List.getElem?_cons_succ, Option.getD_some, List.drop_succ_cons, List.drop_zero, List.drop_nil, List.append_nil, unB] at st); (try clear hc); have hc := st.facts; (try simp only [factsOf, blkI, blkFacts, rowI, byI, datI, nullI, oldI, penI, rdI, rdAnyI, rdOverI, Nat.zero_add, Nat.reduceAdd, and_true, true_and, and_self] at hc))
      (try rw [List.nil_append] at st)
      obtain ⟨fr', al', st', back⟩ := st.sub [2] (by decide) (by simp)
      (try simp only [Value.cells, List.cons_append, List.nil_append, List.set, spl, putIt, pick, List.map_cons, List.map_nil, List.getElem?_cons_zero, List.getElem?_cons_succ, Option.getD_some, List.drop_succ_cons, List.drop_zero, List.drop_nil, List.append_nil, unB] at st')
      refine (rolePut_yes st' (ho, hd) HH.out (by omega)).mono ?_
      clear st'
      rintro en w ⟨rfl, st'⟩
      replace st := back _ _ (by simp) st'
      clear back st'
      (try simp only [Value.cells, List.cons_append, List.nil_append, List.set, spl, putIt, pick, List.map_cons, List.map_nil, List.getElem?_cons_zero, List.getElem?_cons_succ, Option.getD_some, List.drop_succ_cons, List.drop_zero, List.drop_nil, List.append_nil, unB] at st)
      (try clear hc); have hc := st.facts; (try simp only [factsOf, blkI, blkFacts, rowI, byI, datI, nullI, oldI, penI, rdI, rdAnyI, rdOverI, Nat.zero_add, Nat.reduceAdd, and_true, true_and, and_self] at hc)
      go_wp2_with ((first
            | ((with_reducible refine wl_box ?_ (fun K hK => ?_)); rfl; refine owp_box (o := ⟨some 1, _, _, _, _, _⟩) rfl st ?_; apply Exists.intro; refine ⟨?_, ?_⟩; (focus (go_simp; try rfl)); (clear st; intro b1 w hb st; clear hb))
            | ((with_reducible refine wl_box ?_ (fun K hK => ?_)); rfl; refine owp_box (o := ⟨some 8, _, _, _, _, _⟩) rfl st ?_; apply Exists.intro; refine ⟨?_, ?_⟩; (focus (go_simp; try rfl)); (clear st; intro b8 w hb st; clear hb))); (try simp only [Value.cells, List.cons_append, List.nil_append, List.set, spl, putIt, pick, List.map_cons, List.map_nil, List.getElem?_cons_zero, List.getElem?_cons_succ, Option.getD_some, List.drop_succ_cons, List.drop_zero, List.drop_nil, List.append_nil, unB] at st); (try clear hc); have hc := st.facts; (try simp only [factsOf, blkI, blkFacts, rowI, byI, datI, nullI, oldI, penI, rdI, rdAnyI, rdOverI, Nat.zero_add, Nat.reduceAdd, and_true, true_and, and_self] at hc))
      obtain ⟨fr', al', st', back⟩ := st.sub [2] (by decide) (by simp)
      (try simp only [Value.cells, List.cons_append, List.nil_append, List.set, spl, putIt, pick, List.map_cons, List.map_nil, List.getElem?_cons_zero, List.getElem?_cons_succ, Option.getD_some, List.drop_succ_cons, List.drop_zero, List.drop_nil, List.append_nil, unB] at st')
      refine (namePut_yes st' nw HW.out (by simp; omega)).mono ?_
      clear st'
      rintro en w ⟨rfl, st'⟩
      replace st := back _ _ (by simp) st'
      clear back st'
      (try simp only [Value.cells, List.cons_append, List.nil_append, List.set, spl, putIt, pick, List.map_cons, List.map_nil, List.getElem?_cons_zero, List.getElem?_cons_succ, Option.getD_some, List.drop_succ_cons, List.drop_zero, List.drop_nil, List.append_nil, unB] at st)
      (try clear hc); have hc := st.facts; (try simp only [factsOf, blkI, blkFacts, rowI, byI, datI, nullI, oldI, penI, rdI, rdAnyI, rdOverI, Nat.zero_add, Nat.reduceAdd, and_true, true_and, and_self] at hc)
      obtain ⟨u, hu⟩ : ∃ u, (numB 1 ++ roleB (ho, hd) ++ (numB nw.length ++ nw)) = u := ⟨_, rfl⟩
      rw [hu] at st
      have HU : Hid (r = u) := Lib.hid (by rw [HE.out, if_pos H.out, ← hu]; simp [credB])
      have hul : u.length ≤ 300 := by rw [← hu]; simp; omega
      clear hu
      go_wp2_with ((first
            | ((with_reducible refine wl_box ?_ (fun K hK => ?_)); rfl; refine owp_box (o := ⟨some 1, _, _, _, _, _⟩) rfl st ?_; apply Exists.intro; refine ⟨?_, ?_⟩; (focus (go_simp; try rfl)); (clear st; intro b1 w hb st; clear hb))
            | ((with_reducible refine wl_box ?_ (fun K hK => ?_)); rfl; refine owp_box (o := ⟨some 8, _, _, _, _, _⟩) rfl st ?_; apply Exists.intro; refine ⟨?_, ?_⟩; (focus (go_simp; try rfl)); (clear st; intro b8 w hb st; clear hb))); (try simp only [Value.cells, List.cons_append, List.nil_append, List.set, spl, putIt, pick, List.map_cons, List.map_nil, List.getElem?_cons_zero, List.getElem?_cons_succ, Option.getD_some, List.drop_succ_cons, List.drop_zero, List.drop_nil, List.append_nil, unB] at st); (try clear hc); have hc := st.facts; (try simp only [factsOf, blkI, blkFacts, rowI, byI, datI, nullI, oldI, penI, rdI, rdAnyI, rdOverI, Nat.zero_add, Nat.reduceAdd, and_true, true_and, and_self] at hc))
      obtain ⟨fr', al', st', back⟩ := st.sub [2] (by decide) (by simp)
      (try simp only [Value.cells, List.cons_append, List.nil_append, List.set, spl, putIt, pick, List.map_cons, List.map_nil, List.getElem?_cons_zero, List.getElem?_cons_succ, Option.getD_some, List.drop_succ_cons, List.drop_zero, List.drop_nil, List.append_nil, unB] at st')
      refine (penBytes_c st' (by omega)).mono ?_
      clear st'
      rintro en w ⟨pa, pc, rfl, hpc, st'⟩
      replace st := back _ _ (by simp) st'
      clear back st'
      (try simp only [Value.cells, List.cons_append, List.nil_append, List.set, spl, putIt, pick, List.map_cons, List.map_nil, List.getElem?_cons_zero, List.getElem?_cons_succ, Option.getD_some, List.drop_succ_cons, List.drop_zero, List.drop_nil, List.append_nil, unB] at st)
      (try clear hc); have hc := st.facts; (try simp only [factsOf, blkI, blkFacts, rowI, byI, datI, nullI, oldI, penI, rdI, rdAnyI, rdOverI, Nat.zero_add, Nat.reduceAdd, and_true, true_and, and_self] at hc)
      go_wp2_with ((first
            | ((with_reducible refine wl_box ?_ (fun K hK => ?_)); rfl; refine owp_box (o := ⟨some 1, _, _, _, _, _⟩) rfl st ?_; apply Exists.intro; refine ⟨?_, ?_⟩; (focus (go_simp; try rfl)); (clear st; intro b1 w hb st; clear hb))
            | ((with_reducible refine wl_box ?_ (fun K hK => ?_)); rfl; refine owp_box (o := ⟨some 8, _, _, _, _, _⟩) rfl st ?_; apply Exists.intro; refine ⟨?_, ?_⟩; (focus (go_simp; try rfl)); (clear st; intro b8 w hb st; clear hb))); (try simp only [Value.cells, List.cons_append, List.nil_append, List.set, spl, putIt, pick, List.map_cons, List.map_nil, List.getElem?_cons_zero, List.getElem?_cons_succ, Option.getD_some, List.drop_succ_cons, List.drop_zero, List.drop_nil, List.append_nil, unB] at st); (try clear hc); have hc := st.facts; (try simp only [factsOf, blkI, blkFacts, rowI, byI, datI, nullI, oldI, penI, rdI, rdAnyI, rdOverI, Nat.zero_add, Nat.reduceAdd, and_true, true_and, and_self] at hc))
      go_ret
      exact ⟨_, _, _, rfl, hpc, by rw [HU.out]; exact st.by (i := 3) get3, st.ext0⟩
    · have hb2 := roleB_len hbr
      have HW := Lib.hid hbr
      have hnk : (numB 2).length = 1 := by decide +kernel
      clear hbr
      go_enter Try.func49, Try.ntmps49
      go_wp2_with ((first
            | ((with_reducible refine wl_box ?_ (fun K hK => ?_)); rfl; refine owp_box (o := ⟨some 1, _, _, _, _, _⟩) rfl st ?_; apply Exists.intro; refine ⟨?_, ?_⟩; (focus (go_simp; try rfl)); (clear st; intro b1 w hb st; clear hb))
            | ((with_reducible refine wl_box ?_ (fun K hK => ?_)); rfl; refine owp_box (o := ⟨some 8, _, _, _, _, _⟩) rfl st ?_; apply Exists.intro; refine ⟨?_, ?_⟩; (focus (go_simp; try rfl)); (clear st; intro b8 w hb st; clear hb))); (try simp only [Value.cells, List.cons_append, List.nil_append, List.set, spl, putIt, pick, List.map_cons, List.map_nil, List.getElem?_cons_zero, List.getElem?_cons_succ, Option.getD_some, List.drop_succ_cons, List.drop_zero, List.drop_nil, List.append_nil, unB] at st); (try clear hc); have hc := st.facts; (try simp only [factsOf, blkI, blkFacts, rowI, byI, datI, nullI, oldI, penI, rdI, rdAnyI, rdOverI, Nat.zero_add, Nat.reduceAdd, and_true, true_and, and_self] at hc))
      refine (HR.out _).mono ?_
      rintro en w ⟨rfl, hx⟩
      replace st := st.ext hx
      clear hx
      (try clear hc); have hc := st.facts; (try simp only [factsOf, blkI, blkFacts, rowI, byI, datI, nullI, oldI, penI, rdI, rdAnyI, rdOverI, Nat.zero_add, Nat.reduceAdd, and_true, true_and, and_self] at hc)
      rw [H.out]
      go_wp2_with ((first
            | ((with_reducible refine wl_box ?_ (fun K hK => ?_)); rfl; refine owp_box (o := ⟨some 1, _, _, _, _, _⟩) rfl st ?_; apply Exists.intro; refine ⟨?_, ?_⟩; (focus (go_simp; try rfl)); (clear st; intro b1 w hb st; clear hb))
            | ((with_reducible refine wl_box ?_ (fun K hK => ?_)); rfl; refine owp_box (o := ⟨some 8, _, _, _, _, _⟩) rfl st ?_; apply Exists.intro; refine ⟨?_, ?_⟩; (focus (go_simp; try rfl)); (clear st; intro b8 w hb st; clear hb))); (try simp only [Value.cells, List.cons_append, List.nil_append, List.set, spl, putIt, pick, List.map_cons, List.map_nil, List.getElem?_cons_zero, List.getElem?_cons_succ, Option.getD_some, List.drop_succ_cons, List.drop_zero, List.drop_nil, List.append_nil, unB] at st); (try clear hc); have hc := st.facts; (try simp only [factsOf, blkI, blkFacts, rowI, byI, datI, nullI, oldI, penI, rdI, rdAnyI, rdOverI, Nat.zero_add, Nat.reduceAdd, and_true, true_and, and_self] at hc))
      replace st := st.newPen (i := 2) get2
      (try simp only [Value.cells, List.cons_append, List.nil_append, List.set, spl, putIt, pick, List.map_cons, List.map_nil, List.getElem?_cons_zero, List.getElem?_cons_succ, Option.getD_some, List.drop_succ_cons, List.drop_zero, List.drop_nil, List.append_nil, unB] at st)
      (try clear hc); have hc := st.facts; (try simp only [factsOf, blkI, blkFacts, rowI, byI, datI, nullI, oldI, penI, rdI, rdAnyI, rdOverI, Nat.zero_add, Nat.reduceAdd, and_true, true_and, and_self] at hc)
      obtain ⟨fr', al', st', back⟩ := st.sub [2] (by decide) (by simp)
      (try simp only [Value.cells, List.cons_append, List.nil_append, List.set, spl, putIt, pick, List.map_cons, List.map_nil, List.getElem?_cons_zero, List.getElem?_cons_succ, Option.getD_some, List.drop_succ_cons, List.drop_zero, List.drop_nil, List.append_nil, unB] at st')
      refine (penNumber_c st' 2 (by decide) (by simp)).mono ?_
      clear st'
      rintro en w ⟨rfl, st'⟩
      replace st := back _ _ (by simp) st'
      clear back st'
      (try simp only [Value.cells, List.cons_append, List.nil_append, List.set, spl, putIt, pick, List.map_cons, List.map_nil, List.getElem?_cons_zero, List.getElem?_cons_succ, Option.getD_some, List.drop_succ_cons, List.drop_zero, List.drop_nil, List.append_nil, unB] at st)
      (try clear hc); have hc := st.facts; (try simp only [factsOf, blkI, blkFacts, rowI, byI, datI, nullI, oldI, penI, rdI, rdAnyI, rdOverI, Nat.zero_add, Nat.reduceAdd, and_true, true_and, and_self] at hc)
      go_wp2_with ((first
            | ((with_reducible refine wl_box ?_ (fun K hK => ?_)); rfl; refine owp_box (o := ⟨some 1, _, _, _, _, _⟩) rfl st ?_; apply Exists.intro; refine ⟨?_, ?_⟩; (focus (go_simp; try rfl)); (clear st; intro b1 w hb st; clear hb))
            | ((with_reducible refine wl_box ?_ (fun K hK => ?_)); rfl; refine owp_box (o := ⟨some 8, _, _, _, _, _⟩) rfl st ?_; apply Exists.intro; refine ⟨?_, ?_⟩; (focus (go_simp; try rfl)); (clear st; intro b8 w hb st; clear hb))); (try simp only [Value.cells, List.cons_append, List.nil_append, List.set, spl, putIt, pick, List.map_cons, List.map_nil, List.getElem?_cons_zero, List.getElem?_cons_succ, Option.getD_some, List.drop_succ_cons, List.drop_zero, List.drop_nil, List.append_nil, unB] at st); (try clear hc); have hc := st.facts; (try simp only [factsOf, blkI, blkFacts, rowI, byI, datI, nullI, oldI, penI, rdI, rdAnyI, rdOverI, Nat.zero_add, Nat.reduceAdd, and_true, true_and, and_self] at hc))
      (try rw [List.nil_append] at st)
      obtain ⟨fr', al', st', back⟩ := st.sub [2] (by decide) (by simp)
      (try simp only [Value.cells, List.cons_append, List.nil_append, List.set, spl, putIt, pick, List.map_cons, List.map_nil, List.getElem?_cons_zero, List.getElem?_cons_succ, Option.getD_some, List.drop_succ_cons, List.drop_zero, List.drop_nil, List.append_nil, unB] at st')
      refine (rolePut_yes st' (ho, hd) HH.out (by omega)).mono ?_
      clear st'
      rintro en w ⟨rfl, st'⟩
      replace st := back _ _ (by simp) st'
      clear back st'
      (try simp only [Value.cells, List.cons_append, List.nil_append, List.set, spl, putIt, pick, List.map_cons, List.map_nil, List.getElem?_cons_zero, List.getElem?_cons_succ, Option.getD_some, List.drop_succ_cons, List.drop_zero, List.drop_nil, List.append_nil, unB] at st)
      (try clear hc); have hc := st.facts; (try simp only [factsOf, blkI, blkFacts, rowI, byI, datI, nullI, oldI, penI, rdI, rdAnyI, rdOverI, Nat.zero_add, Nat.reduceAdd, and_true, true_and, and_self] at hc)
      go_wp2_with ((first
            | ((with_reducible refine wl_box ?_ (fun K hK => ?_)); rfl; refine owp_box (o := ⟨some 1, _, _, _, _, _⟩) rfl st ?_; apply Exists.intro; refine ⟨?_, ?_⟩; (focus (go_simp; try rfl)); (clear st; intro b1 w hb st; clear hb))
            | ((with_reducible refine wl_box ?_ (fun K hK => ?_)); rfl; refine owp_box (o := ⟨some 8, _, _, _, _, _⟩) rfl st ?_; apply Exists.intro; refine ⟨?_, ?_⟩; (focus (go_simp; try rfl)); (clear st; intro b8 w hb st; clear hb))); (try simp only [Value.cells, List.cons_append, List.nil_append, List.set, spl, putIt, pick, List.map_cons, List.map_nil, List.getElem?_cons_zero, List.getElem?_cons_succ, Option.getD_some, List.drop_succ_cons, List.drop_zero, List.drop_nil, List.append_nil, unB] at st); (try clear hc); have hc := st.facts; (try simp only [factsOf, blkI, blkFacts, rowI, byI, datI, nullI, oldI, penI, rdI, rdAnyI, rdOverI, Nat.zero_add, Nat.reduceAdd, and_true, true_and, and_self] at hc))
      obtain ⟨fr', al', st', back⟩ := st.sub [2] (by decide) (by simp)
      (try simp only [Value.cells, List.cons_append, List.nil_append, List.set, spl, putIt, pick, List.map_cons, List.map_nil, List.getElem?_cons_zero, List.getElem?_cons_succ, Option.getD_some, List.drop_succ_cons, List.drop_zero, List.drop_nil, List.append_nil, unB] at st')
      refine (rolePut_yes st' (bo, bd) HW.out (by simp; omega)).mono ?_
      clear st'
      rintro en w ⟨rfl, st'⟩
      replace st := back _ _ (by simp) st'
      clear back st'
      (try simp only [Value.cells, List.cons_append, List.nil_append, List.set, spl, putIt, pick, List.map_cons, List.map_nil, List.getElem?_cons_zero, List.getElem?_cons_succ, Option.getD_some, List.drop_succ_cons, List.drop_zero, List.drop_nil, List.append_nil, unB] at st)
      (try clear hc); have hc := st.facts; (try simp only [factsOf, blkI, blkFacts, rowI, byI, datI, nullI, oldI, penI, rdI, rdAnyI, rdOverI, Nat.zero_add, Nat.reduceAdd, and_true, true_and, and_self] at hc)
      obtain ⟨u, hu⟩ : ∃ u, (numB 2 ++ roleB (ho, hd) ++ roleB (bo, bd)) = u := ⟨_, rfl⟩
      rw [hu] at st
      have HU : Hid (r = u) := Lib.hid (by rw [HE.out, if_pos H.out, ← hu]; simp [credB])
      have hul : u.length ≤ 300 := by rw [← hu]; simp; omega
      clear hu
      go_wp2_with ((first
            | ((with_reducible refine wl_box ?_ (fun K hK => ?_)); rfl; refine owp_box (o := ⟨some 1, _, _, _, _, _⟩) rfl st ?_; apply Exists.intro; refine ⟨?_, ?_⟩; (focus (go_simp; try rfl)); (clear st; intro b1 w hb st; clear hb))
            | ((with_reducible refine wl_box ?_ (fun K hK => ?_)); rfl; refine owp_box (o := ⟨some 8, _, _, _, _, _⟩) rfl st ?_; apply Exists.intro; refine ⟨?_, ?_⟩; (focus (go_simp; try rfl)); (clear st; intro b8 w hb st; clear hb))); (try simp only [Value.cells, List.cons_append, List.nil_append, List.set, spl, putIt, pick, List.map_cons, List.map_nil, List.getElem?_cons_zero, List.getElem?_cons_succ, Option.getD_some, List.drop_succ_cons, List.drop_zero, List.drop_nil, List.append_nil, unB] at st); (try clear hc); have hc := st.facts; (try simp only [factsOf, blkI, blkFacts, rowI, byI, datI, nullI, oldI, penI, rdI, rdAnyI, rdOverI, Nat.zero_add, Nat.reduceAdd, and_true, true_and, and_self] at hc))
      obtain ⟨fr', al', st', back⟩ := st.sub [2] (by decide) (by simp)
      (try simp only [Value.cells, List.cons_append, List.nil_append, List.set, spl, putIt, pick, List.map_cons, List.map_nil, List.getElem?_cons_zero, List.getElem?_cons_succ, Option.getD_some, List.drop_succ_cons, List.drop_zero, List.drop_nil, List.append_nil, unB] at st')
      refine (penBytes_c st' (by omega)).mono ?_
      clear st'
      rintro en w ⟨pa, pc, rfl, hpc, st'⟩
      replace st := back _ _ (by simp) st'
      clear back st'
      (try simp only [Value.cells, List.cons_append, List.nil_append, List.set, spl, putIt, pick, List.map_cons, List.map_nil, List.getElem?_cons_zero, List.getElem?_cons_succ, Option.getD_some, List.drop_succ_cons, List.drop_zero, List.drop_nil, List.append_nil, unB] at st)
      (try clear hc); have hc := st.facts; (try simp only [factsOf, blkI, blkFacts, rowI, byI, datI, nullI, oldI, penI, rdI, rdAnyI, rdOverI, Nat.zero_add, Nat.reduceAdd, and_true, true_and, and_self] at hc)
      go_wp2_with ((first
            | ((with_reducible refine wl_box ?_ (fun K hK => ?_)); rfl; refine owp_box (o := ⟨some 1, _, _, _, _, _⟩) rfl st ?_; apply Exists.intro; refine ⟨?_, ?_⟩; (focus (go_simp; try rfl)); (clear st; intro b1 w hb st; clear hb))
            | ((with_reducible refine wl_box ?_ (fun K hK => ?_)); rfl; refine owp_box (o := ⟨some 8, _, _, _, _, _⟩) rfl st ?_; apply Exists.intro; refine ⟨?_, ?_⟩; (focus (go_simp; try rfl)); (clear st; intro b8 w hb st; clear hb))); (try simp only [Value.cells, List.cons_append, List.nil_append, List.set, spl, putIt, pick, List.map_cons, List.map_nil, List.getElem?_cons_zero, List.getElem?_cons_succ, Option.getD_some, List.drop_succ_cons, List.drop_zero, List.drop_nil, List.append_nil, unB] at st); (try clear hc); have hc := st.facts; (try simp only [factsOf, blkI, blkFacts, rowI, byI, datI, nullI, oldI, penI, rdI, rdAnyI, rdOverI, Nat.zero_add, Nat.reduceAdd, and_true, true_and, and_self] at hc))
      go_ret
      exact ⟨_, _, _, rfl, hpc, by rw [HU.out]; exact st.by (i := 3) get3, st.ext0⟩
    · have hb2 := roleB_len hbr
      have HW := Lib.hid hbr
      have HN := Lib.hid he
      have hl2 := (nameR_len he).2
      have hb3 : (numB we.length).length ≤ 10 := numF_len 10 we.length
      have hnk : (numB 3).length = 1 := by decide +kernel
      clear hbr he
      go_enter Try.func49, Try.ntmps49
      go_wp2_with ((first
            | ((with_reducible refine wl_box ?_ (fun K hK => ?_)); rfl; refine owp_box (o := ⟨some 1, _, _, _, _, _⟩) rfl st ?_; apply Exists.intro; refine ⟨?_, ?_⟩; (focus (go_simp; try rfl)); (clear st; intro b1 w hb st; clear hb))
            | ((with_reducible refine wl_box ?_ (fun K hK => ?_)); rfl; refine owp_box (o := ⟨some 8, _, _, _, _, _⟩) rfl st ?_; apply Exists.intro; refine ⟨?_, ?_⟩; (focus (go_simp; try rfl)); (clear st; intro b8 w hb st; clear hb))); (try simp only [Value.cells, List.cons_append, List.nil_append, List.set, spl, putIt, pick, List.map_cons, List.map_nil, List.getElem?_cons_zero, List.getElem?_cons_succ, Option.getD_some, List.drop_succ_cons, List.drop_zero, List.drop_nil, List.append_nil, unB] at st); (try clear hc); have hc := st.facts; (try simp only [factsOf, blkI, blkFacts, rowI, byI, datI, nullI, oldI, penI, rdI, rdAnyI, rdOverI, Nat.zero_add, Nat.reduceAdd, and_true, true_and, and_self] at hc))
      refine (HR.out _).mono ?_
      rintro en w ⟨rfl, hx⟩
      replace st := st.ext hx
      clear hx
      (try clear hc); have hc := st.facts; (try simp only [factsOf, blkI, blkFacts, rowI, byI, datI, nullI, oldI, penI, rdI, rdAnyI, rdOverI, Nat.zero_add, Nat.reduceAdd, and_true, true_and, and_self] at hc)
      rw [H.out]
      go_wp2_with ((first
            | ((with_reducible refine wl_box ?_ (fun K hK => ?_)); rfl; refine owp_box (o := ⟨some 1, _, _, _, _, _⟩) rfl st ?_; apply Exists.intro; refine ⟨?_, ?_⟩; (focus (go_simp; try rfl)); (clear st; intro b1 w hb st; clear hb))
            | ((with_reducible refine wl_box ?_ (fun K hK => ?_)); rfl; refine owp_box (o := ⟨some 8, _, _, _, _, _⟩) rfl st ?_; apply Exists.intro; refine ⟨?_, ?_⟩; (focus (go_simp; try rfl)); (clear st; intro b8 w hb st; clear hb))); (try simp only [Value.cells, List.cons_append, List.nil_append, List.set, spl, putIt, pick, List.map_cons, List.map_nil, List.getElem?_cons_zero, List.getElem?_cons_succ, Option.getD_some, List.drop_succ_cons, List.drop_zero, List.drop_nil, List.append_nil, unB] at st); (try clear hc); have hc := st.facts; (try simp only [factsOf, blkI, blkFacts, rowI, byI, datI, nullI, oldI, penI, rdI, rdAnyI, rdOverI, Nat.zero_add, Nat.reduceAdd, and_true, true_and, and_self] at hc))
      replace st := st.newPen (i := 2) get2
      (try simp only [Value.cells, List.cons_append, List.nil_append, List.set, spl, putIt, pick, List.map_cons, List.map_nil, List.getElem?_cons_zero, List.getElem?_cons_succ, Option.getD_some, List.drop_succ_cons, List.drop_zero, List.drop_nil, List.append_nil, unB] at st)
      (try clear hc); have hc := st.facts; (try simp only [factsOf, blkI, blkFacts, rowI, byI, datI, nullI, oldI, penI, rdI, rdAnyI, rdOverI, Nat.zero_add, Nat.reduceAdd, and_true, true_and, and_self] at hc)
      obtain ⟨fr', al', st', back⟩ := st.sub [2] (by decide) (by simp)
      (try simp only [Value.cells, List.cons_append, List.nil_append, List.set, spl, putIt, pick, List.map_cons, List.map_nil, List.getElem?_cons_zero, List.getElem?_cons_succ, Option.getD_some, List.drop_succ_cons, List.drop_zero, List.drop_nil, List.append_nil, unB] at st')
      refine (penNumber_c st' 3 (by decide) (by simp)).mono ?_
      clear st'
      rintro en w ⟨rfl, st'⟩
      replace st := back _ _ (by simp) st'
      clear back st'
      (try simp only [Value.cells, List.cons_append, List.nil_append, List.set, spl, putIt, pick, List.map_cons, List.map_nil, List.getElem?_cons_zero, List.getElem?_cons_succ, Option.getD_some, List.drop_succ_cons, List.drop_zero, List.drop_nil, List.append_nil, unB] at st)
      (try clear hc); have hc := st.facts; (try simp only [factsOf, blkI, blkFacts, rowI, byI, datI, nullI, oldI, penI, rdI, rdAnyI, rdOverI, Nat.zero_add, Nat.reduceAdd, and_true, true_and, and_self] at hc)
      go_wp2_with ((first
            | ((with_reducible refine wl_box ?_ (fun K hK => ?_)); rfl; refine owp_box (o := ⟨some 1, _, _, _, _, _⟩) rfl st ?_; apply Exists.intro; refine ⟨?_, ?_⟩; (focus (go_simp; try rfl)); (clear st; intro b1 w hb st; clear hb))
            | ((with_reducible refine wl_box ?_ (fun K hK => ?_)); rfl; refine owp_box (o := ⟨some 8, _, _, _, _, _⟩) rfl st ?_; apply Exists.intro; refine ⟨?_, ?_⟩; (focus (go_simp; try rfl)); (clear st; intro b8 w hb st; clear hb))); (try simp only [Value.cells, List.cons_append, List.nil_append, List.set, spl, putIt, pick, List.map_cons, List.map_nil, List.getElem?_cons_zero, List.getElem?_cons_succ, Option.getD_some, List.drop_succ_cons, List.drop_zero, List.drop_nil, List.append_nil, unB] at st); (try clear hc); have hc := st.facts; (try simp only [factsOf, blkI, blkFacts, rowI, byI, datI, nullI, oldI, penI, rdI, rdAnyI, rdOverI, Nat.zero_add, Nat.reduceAdd, and_true, true_and, and_self] at hc))
      (try rw [List.nil_append] at st)
      obtain ⟨fr', al', st', back⟩ := st.sub [2] (by decide) (by simp)
      (try simp only [Value.cells, List.cons_append, List.nil_append, List.set, spl, putIt, pick, List.map_cons, List.map_nil, List.getElem?_cons_zero, List.getElem?_cons_succ, Option.getD_some, List.drop_succ_cons, List.drop_zero, List.drop_nil, List.append_nil, unB] at st')
      refine (rolePut_yes st' (ho, hd) HH.out (by omega)).mono ?_
      clear st'
      rintro en w ⟨rfl, st'⟩
      replace st := back _ _ (by simp) st'
      clear back st'
      (try simp only [Value.cells, List.cons_append, List.nil_append, List.set, spl, putIt, pick, List.map_cons, List.map_nil, List.getElem?_cons_zero, List.getElem?_cons_succ, Option.getD_some, List.drop_succ_cons, List.drop_zero, List.drop_nil, List.append_nil, unB] at st)
      (try clear hc); have hc := st.facts; (try simp only [factsOf, blkI, blkFacts, rowI, byI, datI, nullI, oldI, penI, rdI, rdAnyI, rdOverI, Nat.zero_add, Nat.reduceAdd, and_true, true_and, and_self] at hc)
      go_wp2_with ((first
            | ((with_reducible refine wl_box ?_ (fun K hK => ?_)); rfl; refine owp_box (o := ⟨some 1, _, _, _, _, _⟩) rfl st ?_; apply Exists.intro; refine ⟨?_, ?_⟩; (focus (go_simp; try rfl)); (clear st; intro b1 w hb st; clear hb))
            | ((with_reducible refine wl_box ?_ (fun K hK => ?_)); rfl; refine owp_box (o := ⟨some 8, _, _, _, _, _⟩) rfl st ?_; apply Exists.intro; refine ⟨?_, ?_⟩; (focus (go_simp; try rfl)); (clear st; intro b8 w hb st; clear hb))); (try simp only [Value.cells, List.cons_append, List.nil_append, List.set, spl, putIt, pick, List.map_cons, List.map_nil, List.getElem?_cons_zero, List.getElem?_cons_succ, Option.getD_some, List.drop_succ_cons, List.drop_zero, List.drop_nil, List.append_nil, unB] at st); (try clear hc); have hc := st.facts; (try simp only [factsOf, blkI, blkFacts, rowI, byI, datI, nullI, oldI, penI, rdI, rdAnyI, rdOverI, Nat.zero_add, Nat.reduceAdd, and_true, true_and, and_self] at hc))
      obtain ⟨fr', al', st', back⟩ := st.sub [2] (by decide) (by simp)
      (try simp only [Value.cells, List.cons_append, List.nil_append, List.set, spl, putIt, pick, List.map_cons, List.map_nil, List.getElem?_cons_zero, List.getElem?_cons_succ, Option.getD_some, List.drop_succ_cons, List.drop_zero, List.drop_nil, List.append_nil, unB] at st')
      refine (rolePut_yes st' (bo, bd) HW.out (by simp; omega)).mono ?_
      clear st'
      rintro en w ⟨rfl, st'⟩
      replace st := back _ _ (by simp) st'
      clear back st'
      (try simp only [Value.cells, List.cons_append, List.nil_append, List.set, spl, putIt, pick, List.map_cons, List.map_nil, List.getElem?_cons_zero, List.getElem?_cons_succ, Option.getD_some, List.drop_succ_cons, List.drop_zero, List.drop_nil, List.append_nil, unB] at st)
      (try clear hc); have hc := st.facts; (try simp only [factsOf, blkI, blkFacts, rowI, byI, datI, nullI, oldI, penI, rdI, rdAnyI, rdOverI, Nat.zero_add, Nat.reduceAdd, and_true, true_and, and_self] at hc)
      go_wp2_with ((first
            | ((with_reducible refine wl_box ?_ (fun K hK => ?_)); rfl; refine owp_box (o := ⟨some 1, _, _, _, _, _⟩) rfl st ?_; apply Exists.intro; refine ⟨?_, ?_⟩; (focus (go_simp; try rfl)); (clear st; intro b1 w hb st; clear hb))
            | ((with_reducible refine wl_box ?_ (fun K hK => ?_)); rfl; refine owp_box (o := ⟨some 8, _, _, _, _, _⟩) rfl st ?_; apply Exists.intro; refine ⟨?_, ?_⟩; (focus (go_simp; try rfl)); (clear st; intro b8 w hb st; clear hb))); (try simp only [Value.cells, List.cons_append, List.nil_append, List.set, spl, putIt, pick, List.map_cons, List.map_nil, List.getElem?_cons_zero, List.getElem?_cons_succ, Option.getD_some, List.drop_succ_cons, List.drop_zero, List.drop_nil, List.append_nil, unB] at st); (try clear hc); have hc := st.facts; (try simp only [factsOf, blkI, blkFacts, rowI, byI, datI, nullI, oldI, penI, rdI, rdAnyI, rdOverI, Nat.zero_add, Nat.reduceAdd, and_true, true_and, and_self] at hc))
      obtain ⟨fr', al', st', back⟩ := st.sub [2] (by decide) (by simp)
      (try simp only [Value.cells, List.cons_append, List.nil_append, List.set, spl, putIt, pick, List.map_cons, List.map_nil, List.getElem?_cons_zero, List.getElem?_cons_succ, Option.getD_some, List.drop_succ_cons, List.drop_zero, List.drop_nil, List.append_nil, unB] at st')
      refine (namePut_yes st' we HN.out (by simp; omega)).mono ?_
      clear st'
      rintro en w ⟨rfl, st'⟩
      replace st := back _ _ (by simp) st'
      clear back st'
      (try simp only [Value.cells, List.cons_append, List.nil_append, List.set, spl, putIt, pick, List.map_cons, List.map_nil, List.getElem?_cons_zero, List.getElem?_cons_succ, Option.getD_some, List.drop_succ_cons, List.drop_zero, List.drop_nil, List.append_nil, unB] at st)
      (try clear hc); have hc := st.facts; (try simp only [factsOf, blkI, blkFacts, rowI, byI, datI, nullI, oldI, penI, rdI, rdAnyI, rdOverI, Nat.zero_add, Nat.reduceAdd, and_true, true_and, and_self] at hc)
      obtain ⟨u, hu⟩ : ∃ u, (numB 3 ++ roleB (ho, hd) ++ roleB (bo, bd) ++ (numB we.length ++ we)) = u := ⟨_, rfl⟩
      rw [hu] at st
      have HU : Hid (r = u) := Lib.hid (by rw [HE.out, if_pos H.out, ← hu]; simp [credB])
      have hul : u.length ≤ 300 := by rw [← hu]; simp; omega
      clear hu
      go_wp2_with ((first
            | ((with_reducible refine wl_box ?_ (fun K hK => ?_)); rfl; refine owp_box (o := ⟨some 1, _, _, _, _, _⟩) rfl st ?_; apply Exists.intro; refine ⟨?_, ?_⟩; (focus (go_simp; try rfl)); (clear st; intro b1 w hb st; clear hb))
            | ((with_reducible refine wl_box ?_ (fun K hK => ?_)); rfl; refine owp_box (o := ⟨some 8, _, _, _, _, _⟩) rfl st ?_; apply Exists.intro; refine ⟨?_, ?_⟩; (focus (go_simp; try rfl)); (clear st; intro b8 w hb st; clear hb))); (try simp only [Value.cells, List.cons_append, List.nil_append, List.set, spl, putIt, pick, List.map_cons, List.map_nil, List.getElem?_cons_zero, List.getElem?_cons_succ, Option.getD_some, List.drop_succ_cons, List.drop_zero, List.drop_nil, List.append_nil, unB] at st); (try clear hc); have hc := st.facts; (try simp only [factsOf, blkI, blkFacts, rowI, byI, datI, nullI, oldI, penI, rdI, rdAnyI, rdOverI, Nat.zero_add, Nat.reduceAdd, and_true, true_and, and_self] at hc))
      obtain ⟨fr', al', st', back⟩ := st.sub [2] (by decide) (by simp)
      (try simp only [Value.cells, List.cons_append, List.nil_append, List.set, spl, putIt, pick, List.map_cons, List.map_nil, List.getElem?_cons_zero, List.getElem?_cons_succ, Option.getD_some, List.drop_succ_cons, List.drop_zero, List.drop_nil, List.append_nil, unB] at st')
      refine (penBytes_c st' (by omega)).mono ?_
      clear st'
      rintro en w ⟨pa, pc, rfl, hpc, st'⟩
      replace st := back _ _ (by simp) st'
      clear back st'
      (try simp only [Value.cells, List.cons_append, List.nil_append, List.set, spl, putIt, pick, List.map_cons, List.map_nil, List.getElem?_cons_zero, List.getElem?_cons_succ, Option.getD_some, List.drop_succ_cons, List.drop_zero, List.drop_nil, List.append_nil, unB] at st)
      (try clear hc); have hc := st.facts; (try simp only [factsOf, blkI, blkFacts, rowI, byI, datI, nullI, oldI, penI, rdI, rdAnyI, rdOverI, Nat.zero_add, Nat.reduceAdd, and_true, true_and, and_self] at hc)
      go_wp2_with ((first
            | ((with_reducible refine wl_box ?_ (fun K hK => ?_)); rfl; refine owp_box (o := ⟨some 1, _, _, _, _, _⟩) rfl st ?_; apply Exists.intro; refine ⟨?_, ?_⟩; (focus (go_simp; try rfl)); (clear st; intro b1 w hb st; clear hb))
            | ((with_reducible refine wl_box ?_ (fun K hK => ?_)); rfl; refine owp_box (o := ⟨some 8, _, _, _, _, _⟩) rfl st ?_; apply Exists.intro; refine ⟨?_, ?_⟩; (focus (go_simp; try rfl)); (clear st; intro b8 w hb st; clear hb))); (try simp only [Value.cells, List.cons_append, List.nil_append, List.set, spl, putIt, pick, List.map_cons, List.map_nil, List.getElem?_cons_zero, List.getElem?_cons_succ, Option.getD_some, List.drop_succ_cons, List.drop_zero, List.drop_nil, List.append_nil, unB] at st); (try clear hc); have hc := st.facts; (try simp only [factsOf, blkI, blkFacts, rowI, byI, datI, nullI, oldI, penI, rdI, rdAnyI, rdOverI, Nat.zero_add, Nat.reduceAdd, and_true, true_and, and_self] at hc))
      go_ret
      exact ⟨_, _, _, rfl, hpc, by rw [HU.out]; exact st.by (i := 3) get3, st.ext0⟩
    · have hb2 := roleB_len hbr
      have hb3 := roleB_len hcr
      have HW := Lib.hid hbr
      have HN := Lib.hid hcr
      have hnk : (numB 4).length = 1 := by decide +kernel
      clear hbr hcr
      go_enter Try.func49, Try.ntmps49
      go_wp2_with ((first
            | ((with_reducible refine wl_box ?_ (fun K hK => ?_)); rfl; refine owp_box (o := ⟨some 1, _, _, _, _, _⟩) rfl st ?_; apply Exists.intro; refine ⟨?_, ?_⟩; (focus (go_simp; try rfl)); (clear st; intro b1 w hb st; clear hb))
            | ((with_reducible refine wl_box ?_ (fun K hK => ?_)); rfl; refine owp_box (o := ⟨some 8, _, _, _, _, _⟩) rfl st ?_; apply Exists.intro; refine ⟨?_, ?_⟩; (focus (go_simp; try rfl)); (clear st; intro b8 w hb st; clear hb))); (try simp only [Value.cells, List.cons_append, List.nil_append, List.set, spl, putIt, pick, List.map_cons, List.map_nil, List.getElem?_cons_zero, List.getElem?_cons_succ, Option.getD_some, List.drop_succ_cons, List.drop_zero, List.drop_nil, List.append_nil, unB] at st); (try clear hc); have hc := st.facts; (try simp only [factsOf, blkI, blkFacts, rowI, byI, datI, nullI, oldI, penI, rdI, rdAnyI, rdOverI, Nat.zero_add, Nat.reduceAdd, and_true, true_and, and_self] at hc))
      refine (HR.out _).mono ?_
      rintro en w ⟨rfl, hx⟩
      replace st := st.ext hx
      clear hx
      (try clear hc); have hc := st.facts; (try simp only [factsOf, blkI, blkFacts, rowI, byI, datI, nullI, oldI, penI, rdI, rdAnyI, rdOverI, Nat.zero_add, Nat.reduceAdd, and_true, true_and, and_self] at hc)
      rw [H.out]
      go_wp2_with ((first
            | ((with_reducible refine wl_box ?_ (fun K hK => ?_)); rfl; refine owp_box (o := ⟨some 1, _, _, _, _, _⟩) rfl st ?_; apply Exists.intro; refine ⟨?_, ?_⟩; (focus (go_simp; try rfl)); (clear st; intro b1 w hb st; clear hb))
            | ((with_reducible refine wl_box ?_ (fun K hK => ?_)); rfl; refine owp_box (o := ⟨some 8, _, _, _, _, _⟩) rfl st ?_; apply Exists.intro; refine ⟨?_, ?_⟩; (focus (go_simp; try rfl)); (clear st; intro b8 w hb st; clear hb))); (try simp only [Value.cells, List.cons_append, List.nil_append, List.set, spl, putIt, pick, List.map_cons, List.map_nil, List.getElem?_cons_zero, List.getElem?_cons_succ, Option.getD_some, List.drop_succ_cons, List.drop_zero, List.drop_nil, List.append_nil, unB] at st); (try clear hc); have hc := st.facts; (try simp only [factsOf, blkI, blkFacts, rowI, byI, datI, nullI, oldI, penI, rdI, rdAnyI, rdOverI, Nat.zero_add, Nat.reduceAdd, and_true, true_and, and_self] at hc))
      replace st := st.newPen (i := 2) get2
      (try simp only [Value.cells, List.cons_append, List.nil_append, List.set, spl, putIt, pick, List.map_cons, List.map_nil, List.getElem?_cons_zero, List.getElem?_cons_succ, Option.getD_some, List.drop_succ_cons, List.drop_zero, List.drop_nil, List.append_nil, unB] at st)
      (try clear hc); have hc := st.facts; (try simp only [factsOf, blkI, blkFacts, rowI, byI, datI, nullI, oldI, penI, rdI, rdAnyI, rdOverI, Nat.zero_add, Nat.reduceAdd, and_true, true_and, and_self] at hc)
      obtain ⟨fr', al', st', back⟩ := st.sub [2] (by decide) (by simp)
      (try simp only [Value.cells, List.cons_append, List.nil_append, List.set, spl, putIt, pick, List.map_cons, List.map_nil, List.getElem?_cons_zero, List.getElem?_cons_succ, Option.getD_some, List.drop_succ_cons, List.drop_zero, List.drop_nil, List.append_nil, unB] at st')
      refine (penNumber_c st' 4 (by decide) (by simp)).mono ?_
      clear st'
      rintro en w ⟨rfl, st'⟩
      replace st := back _ _ (by simp) st'
      clear back st'
      (try simp only [Value.cells, List.cons_append, List.nil_append, List.set, spl, putIt, pick, List.map_cons, List.map_nil, List.getElem?_cons_zero, List.getElem?_cons_succ, Option.getD_some, List.drop_succ_cons, List.drop_zero, List.drop_nil, List.append_nil, unB] at st)
      (try clear hc); have hc := st.facts; (try simp only [factsOf, blkI, blkFacts, rowI, byI, datI, nullI, oldI, penI, rdI, rdAnyI, rdOverI, Nat.zero_add, Nat.reduceAdd, and_true, true_and, and_self] at hc)
      go_wp2_with ((first
            | ((with_reducible refine wl_box ?_ (fun K hK => ?_)); rfl; refine owp_box (o := ⟨some 1, _, _, _, _, _⟩) rfl st ?_; apply Exists.intro; refine ⟨?_, ?_⟩; (focus (go_simp; try rfl)); (clear st; intro b1 w hb st; clear hb))
            | ((with_reducible refine wl_box ?_ (fun K hK => ?_)); rfl; refine owp_box (o := ⟨some 8, _, _, _, _, _⟩) rfl st ?_; apply Exists.intro; refine ⟨?_, ?_⟩; (focus (go_simp; try rfl)); (clear st; intro b8 w hb st; clear hb))); (try simp only [Value.cells, List.cons_append, List.nil_append, List.set, spl, putIt, pick, List.map_cons, List.map_nil, List.getElem?_cons_zero, List.getElem?_cons_succ, Option.getD_some, List.drop_succ_cons, List.drop_zero, List.drop_nil, List.append_nil, unB] at st); (try clear hc); have hc := st.facts; (try simp only [factsOf, blkI, blkFacts, rowI, byI, datI, nullI, oldI, penI, rdI, rdAnyI, rdOverI, Nat.zero_add, Nat.reduceAdd, and_true, true_and, and_self] at hc))
      (try rw [List.nil_append] at st)
      obtain ⟨fr', al', st', back⟩ := st.sub [2] (by decide) (by simp)
      (try simp only [Value.cells, List.cons_append, List.nil_append, List.set, spl, putIt, pick, List.map_cons, List.map_nil, List.getElem?_cons_zero, List.getElem?_cons_succ, Option.getD_some, List.drop_succ_cons, List.drop_zero, List.drop_nil, List.append_nil, unB] at st')
      refine (rolePut_yes st' (ho, hd) HH.out (by omega)).mono ?_
      clear st'
      rintro en w ⟨rfl, st'⟩
      replace st := back _ _ (by simp) st'
      clear back st'
      (try simp only [Value.cells, List.cons_append, List.nil_append, List.set, spl, putIt, pick, List.map_cons, List.map_nil, List.getElem?_cons_zero, List.getElem?_cons_succ, Option.getD_some, List.drop_succ_cons, List.drop_zero, List.drop_nil, List.append_nil, unB] at st)
      (try clear hc); have hc := st.facts; (try simp only [factsOf, blkI, blkFacts, rowI, byI, datI, nullI, oldI, penI, rdI, rdAnyI, rdOverI, Nat.zero_add, Nat.reduceAdd, and_true, true_and, and_self] at hc)
      go_wp2_with ((first
            | ((with_reducible refine wl_box ?_ (fun K hK => ?_)); rfl; refine owp_box (o := ⟨some 1, _, _, _, _, _⟩) rfl st ?_; apply Exists.intro; refine ⟨?_, ?_⟩; (focus (go_simp; try rfl)); (clear st; intro b1 w hb st; clear hb))
            | ((with_reducible refine wl_box ?_ (fun K hK => ?_)); rfl; refine owp_box (o := ⟨some 8, _, _, _, _, _⟩) rfl st ?_; apply Exists.intro; refine ⟨?_, ?_⟩; (focus (go_simp; try rfl)); (clear st; intro b8 w hb st; clear hb))); (try simp only [Value.cells, List.cons_append, List.nil_append, List.set, spl, putIt, pick, List.map_cons, List.map_nil, List.getElem?_cons_zero, List.getElem?_cons_succ, Option.getD_some, List.drop_succ_cons, List.drop_zero, List.drop_nil, List.append_nil, unB] at st); (try clear hc); have hc := st.facts; (try simp only [factsOf, blkI, blkFacts, rowI, byI, datI, nullI, oldI, penI, rdI, rdAnyI, rdOverI, Nat.zero_add, Nat.reduceAdd, and_true, true_and, and_self] at hc))
      obtain ⟨fr', al', st', back⟩ := st.sub [2] (by decide) (by simp)
      (try simp only [Value.cells, List.cons_append, List.nil_append, List.set, spl, putIt, pick, List.map_cons, List.map_nil, List.getElem?_cons_zero, List.getElem?_cons_succ, Option.getD_some, List.drop_succ_cons, List.drop_zero, List.drop_nil, List.append_nil, unB] at st')
      refine (rolePut_yes st' (bo, bd) HW.out (by simp; omega)).mono ?_
      clear st'
      rintro en w ⟨rfl, st'⟩
      replace st := back _ _ (by simp) st'
      clear back st'
      (try simp only [Value.cells, List.cons_append, List.nil_append, List.set, spl, putIt, pick, List.map_cons, List.map_nil, List.getElem?_cons_zero, List.getElem?_cons_succ, Option.getD_some, List.drop_succ_cons, List.drop_zero, List.drop_nil, List.append_nil, unB] at st)
      (try clear hc); have hc := st.facts; (try simp only [factsOf, blkI, blkFacts, rowI, byI, datI, nullI, oldI, penI, rdI, rdAnyI, rdOverI, Nat.zero_add, Nat.reduceAdd, and_true, true_and, and_self] at hc)
      go_wp2_with ((first
            | ((with_reducible refine wl_box ?_ (fun K hK => ?_)); rfl; refine owp_box (o := ⟨some 1, _, _, _, _, _⟩) rfl st ?_; apply Exists.intro; refine ⟨?_, ?_⟩; (focus (go_simp; try rfl)); (clear st; intro b1 w hb st; clear hb))
            | ((with_reducible refine wl_box ?_ (fun K hK => ?_)); rfl; refine owp_box (o := ⟨some 8, _, _, _, _, _⟩) rfl st ?_; apply Exists.intro; refine ⟨?_, ?_⟩; (focus (go_simp; try rfl)); (clear st; intro b8 w hb st; clear hb))); (try simp only [Value.cells, List.cons_append, List.nil_append, List.set, spl, putIt, pick, List.map_cons, List.map_nil, List.getElem?_cons_zero, List.getElem?_cons_succ, Option.getD_some, List.drop_succ_cons, List.drop_zero, List.drop_nil, List.append_nil, unB] at st); (try clear hc); have hc := st.facts; (try simp only [factsOf, blkI, blkFacts, rowI, byI, datI, nullI, oldI, penI, rdI, rdAnyI, rdOverI, Nat.zero_add, Nat.reduceAdd, and_true, true_and, and_self] at hc))
      obtain ⟨fr', al', st', back⟩ := st.sub [2] (by decide) (by simp)
      (try simp only [Value.cells, List.cons_append, List.nil_append, List.set, spl, putIt, pick, List.map_cons, List.map_nil, List.getElem?_cons_zero, List.getElem?_cons_succ, Option.getD_some, List.drop_succ_cons, List.drop_zero, List.drop_nil, List.append_nil, unB] at st')
      refine (rolePut_yes st' (co, cd) HN.out (by simp; omega)).mono ?_
      clear st'
      rintro en w ⟨rfl, st'⟩
      replace st := back _ _ (by simp) st'
      clear back st'
      (try simp only [Value.cells, List.cons_append, List.nil_append, List.set, spl, putIt, pick, List.map_cons, List.map_nil, List.getElem?_cons_zero, List.getElem?_cons_succ, Option.getD_some, List.drop_succ_cons, List.drop_zero, List.drop_nil, List.append_nil, unB] at st)
      (try clear hc); have hc := st.facts; (try simp only [factsOf, blkI, blkFacts, rowI, byI, datI, nullI, oldI, penI, rdI, rdAnyI, rdOverI, Nat.zero_add, Nat.reduceAdd, and_true, true_and, and_self] at hc)
      obtain ⟨u, hu⟩ : ∃ u, (numB 4 ++ roleB (ho, hd) ++ roleB (bo, bd) ++ roleB (co, cd)) = u := ⟨_, rfl⟩
      rw [hu] at st
      have HU : Hid (r = u) := Lib.hid (by rw [HE.out, if_pos H.out, ← hu]; simp [credB])
      have hul : u.length ≤ 300 := by rw [← hu]; simp; omega
      clear hu
      go_wp2_with ((first
            | ((with_reducible refine wl_box ?_ (fun K hK => ?_)); rfl; refine owp_box (o := ⟨some 1, _, _, _, _, _⟩) rfl st ?_; apply Exists.intro; refine ⟨?_, ?_⟩; (focus (go_simp; try rfl)); (clear st; intro b1 w hb st; clear hb))
            | ((with_reducible refine wl_box ?_ (fun K hK => ?_)); rfl; refine owp_box (o := ⟨some 8, _, _, _, _, _⟩) rfl st ?_; apply Exists.intro; refine ⟨?_, ?_⟩; (focus (go_simp; try rfl)); (clear st; intro b8 w hb st; clear hb))); (try simp only [Value.cells, List.cons_append, List.nil_append, List.set, spl, putIt, pick, List.map_cons, List.map_nil, List.getElem?_cons_zero, List.getElem?_cons_succ, Option.getD_some, List.drop_succ_cons, List.drop_zero, List.drop_nil, List.append_nil, unB] at st); (try clear hc); have hc := st.facts; (try simp only [factsOf, blkI, blkFacts, rowI, byI, datI, nullI, oldI, penI, rdI, rdAnyI, rdOverI, Nat.zero_add, Nat.reduceAdd, and_true, true_and, and_self] at hc))
      obtain ⟨fr', al', st', back⟩ := st.sub [2] (by decide) (by simp)
      (try simp only [Value.cells, List.cons_append, List.nil_append, List.set, spl, putIt, pick, List.map_cons, List.map_nil, List.getElem?_cons_zero, List.getElem?_cons_succ, Option.getD_some, List.drop_succ_cons, List.drop_zero, List.drop_nil, List.append_nil, unB] at st')
      refine (penBytes_c st' (by omega)).mono ?_
      clear st'
      rintro en w ⟨pa, pc, rfl, hpc, st'⟩
      replace st := back _ _ (by simp) st'
      clear back st'
      (try simp only [Value.cells, List.cons_append, List.nil_append, List.set, spl, putIt, pick, List.map_cons, List.map_nil, List.getElem?_cons_zero, List.getElem?_cons_succ, Option.getD_some, List.drop_succ_cons, List.drop_zero, List.drop_nil, List.append_nil, unB] at st)
      (try clear hc); have hc := st.facts; (try simp only [factsOf, blkI, blkFacts, rowI, byI, datI, nullI, oldI, penI, rdI, rdAnyI, rdOverI, Nat.zero_add, Nat.reduceAdd, and_true, true_and, and_self] at hc)
      go_wp2_with ((first
            | ((with_reducible refine wl_box ?_ (fun K hK => ?_)); rfl; refine owp_box (o := ⟨some 1, _, _, _, _, _⟩) rfl st ?_; apply Exists.intro; refine ⟨?_, ?_⟩; (focus (go_simp; try rfl)); (clear st; intro b1 w hb st; clear hb))
            | ((with_reducible refine wl_box ?_ (fun K hK => ?_)); rfl; refine owp_box (o := ⟨some 8, _, _, _, _, _⟩) rfl st ?_; apply Exists.intro; refine ⟨?_, ?_⟩; (focus (go_simp; try rfl)); (clear st; intro b8 w hb st; clear hb))); (try simp only [Value.cells, List.cons_append, List.nil_append, List.set, spl, putIt, pick, List.map_cons, List.map_nil, List.getElem?_cons_zero, List.getElem?_cons_succ, Option.getD_some, List.drop_succ_cons, List.drop_zero, List.drop_nil, List.append_nil, unB] at st); (try clear hc); have hc := st.facts; (try simp only [factsOf, blkI, blkFacts, rowI, byI, datI, nullI, oldI, penI, rdI, rdAnyI, rdOverI, Nat.zero_add, Nat.reduceAdd, and_true, true_and, and_self] at hc))
      go_ret
      exact ⟨_, _, _, rfl, hpc, by rw [HU.out]; exact st.by (i := 3) get3, st.ext0⟩
end Go.Proofs.Ytdkemfimhdjdiaa
