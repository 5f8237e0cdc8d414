/- What is written is read again; what is read whole is written so: the plain law, and the functions that read. -/
import Derived.Test.YtabadgpebhiigaaSepR
import Derived.Test.YtabadgpebhiigaaFirst
import Derived.Test.YtabadgpebhiigaaRegion4
import Derived.Test.YtabadgpebhiigaaOps
import Derived.Test.YtabadgpebhiigaaRefTapeB
import Derived.Deep.LoopGhost
namespace Go.Proofs.Ytabadgpebhiigaa
set_option linter.unusedSimpArgs false
set_option linter.unusedVariables false
open Go Go.RowKit
theorem B_toNat (c : UInt8) : UInt8.ofNat c.toNat = c := by simp
theorem rdNumF_canon (f : Nat) : ∀ (i acc : Nat) (xs : List UInt8) (n : Nat) (ys : List UInt8), f + i = 10 → rdNumF f i acc xs = .ok (n, ys) → ∃ m, n = acc + m * 128 ^ i ∧ xs = numF f m ++ ys ∧ (0 < i → 0 < m) := by
  induction f with
  | zero => intro i acc xs n ys _ h; simp [rdNumF] at h
  | succ f ih =>
    intro i acc xs n ys hf h
    unfold rdNumF rdNext at h
    by_cases h9 : i = 9
    · simp [h9] at h
    · rw [if_neg h9] at h
      cases xs with
      | nil => simp at h
      | cons c zs =>
        simp only at h
        by_cases h0 : c = 0 ∧ 0 < i
        · rw [if_pos h0] at h; simp at h
        · rw [if_neg h0] at h
          simp only at h
          by_cases hc : c.toNat < 128
          · rw [if_pos hc] at h
            simp at h
            obtain ⟨h1, rfl⟩ := h
            refine ⟨c.toNat, by rw [← h1, Nat.mod_eq_of_lt hc], by rw [numF_last _ _ (by omega)]; simp, fun hi => ?_⟩
            rcases Nat.eq_zero_or_pos c.toNat with q | q
            · exact absurd ⟨by apply UInt8.toNat_inj.1; simpa using q, hi⟩ h0
            · exact q
          · rw [if_neg hc] at h
            obtain ⟨m, h1, h2, h3⟩ := ih (i + 1) _ zs n ys (by omega) h
            have hm := h3 (by omega)
            have hlt := c.toNat_lt
            refine ⟨c.toNat % 128 + 128 * m, ?_, ?_, fun _ => by omega⟩
            · rw [h1, Nat.pow_succ, Nat.add_mul]
              rw [show 128 * m * 128 ^ i = m * (128 ^ i * 128) by rw [Nat.mul_comm 128 m, Nat.mul_assoc, Nat.mul_comm 128]]
              omega
            · rw [numF_more _ _ (by omega), h2, List.cons_append]
              have e1 : (128 + (c.toNat % 128 + 128 * m) % 128) = c.toNat := by omega
              have e2 : (c.toNat % 128 + 128 * m) / 128 = m := by omega
              rw [e1, e2, B_toNat]
theorem rdNum_canon {xs : List UInt8} {n : Nat} {ys : List UInt8} (h : rdNum xs = .ok (n, ys)) : xs = numB n ++ ys := by
  obtain ⟨m, h1, h2, _⟩ := rdNumF_canon 10 0 0 xs n ys rfl h
  simp at h1
  subst h1
  exact h2
theorem rdNumF_back (f : Nat) : ∀ (i acc m : Nat) (ys : List UInt8), f + i = 10 → m * 128 ^ i < 9223372036854775808 → (0 < i → 0 < m) → rdNumF f i acc (numF f m ++ ys) = .ok (acc + m * 128 ^ i, ys) := by
  induction f with
  | zero =>
    intro i acc m ys hf hm hi
    exfalso
    obtain rfl : i = 10 := by omega
    have := hi (by omega)
    have : (128 : Nat) ^ 10 ≤ m * 128 ^ 10 := Nat.le_mul_of_pos_left _ this
    have h3 : (128 : Nat) ^ 10 = 1180591620717411303424 := by decide
    omega
  | succ f ih =>
    intro i acc m ys hf hm hi
    have h9 : i ≠ 9 := by
      rintro rfl
      have := hi (by omega)
      have h1 : (128 : Nat) ^ 9 ≤ m * 128 ^ 9 := Nat.le_mul_of_pos_left _ this
      have h3 : (128 : Nat) ^ 9 = 9223372036854775808 := by decide
      omega
    by_cases hlt : 128 ≤ m
    · rw [numF_more _ _ hlt, List.cons_append]
      unfold rdNumF rdNext
      rw [if_neg h9]
      have hc : (UInt8.ofNat (128 + m % 128)).toNat = 128 + m % 128 := by simp; omega
      have hne : UInt8.ofNat (128 + m % 128) ≠ 0 := fun q => by have := congrArg UInt8.toNat q; rw [hc] at this; simp at this
      simp only [hne, false_and, if_false, hc]
      rw [if_neg (by omega), ih (i + 1) _ (m / 128) ys (by omega) ?_ (fun _ => by omega)]
      · congr 2
        have e1 : (128 + m % 128) % 128 = m % 128 := by omega
        rw [e1, Nat.pow_succ, Nat.add_assoc, ← Nat.mul_assoc, Nat.mul_right_comm, ← Nat.add_mul]
        congr 2
        omega
      · rw [Nat.pow_succ, Nat.mul_comm (128 ^ i), ← Nat.mul_assoc]
        exact Nat.lt_of_le_of_lt (Nat.mul_le_mul_right _ (Nat.div_mul_le_self m 128)) hm
    · rw [numF_last _ _ hlt, List.cons_append]
      unfold rdNumF rdNext
      rw [if_neg h9]
      have hc : (UInt8.ofNat m).toNat = m := by simp; omega
      have hne : ¬ (UInt8.ofNat m = 0 ∧ 0 < i) := fun ⟨q, q2⟩ => by have := congrArg UInt8.toNat q; rw [hc] at this; simp at this; have := hi q2; omega
      simp only [hne, if_false, hc]
      rw [if_pos (by omega), Nat.mod_eq_of_lt (by omega)]
      rfl
theorem rdNum_back (n : Nat) (ys : List UInt8) (hn : n < 9223372036854775808) : rdNum (numB n ++ ys) = .ok (n, ys) := by
  have := rdNumF_back 10 0 0 n ys rfl (by simpa using hn) (fun h => by omega)
  simpa [rdNum, numB] using this
theorem rdNumber_err {most : Int} {xs : List UInt8} {e : Int} (h : rdNumber most xs = .error e) : e ≠ 0 := by
  unfold rdNumber at h
  cases hr : rdNum xs with
  | error e' => rw [hr] at h; simp at h; subst h; exact rdNum_err hr
  | ok p =>
    obtain ⟨n, ys⟩ := p
    rw [hr] at h
    simp only at h
    split at h
    · simp at h; subst h; decide
    · simp at h

theorem rdNumber_ok {most : Int} {xs : List UInt8} {n : Nat} {ys : List UInt8} (h : rdNumber most xs = .ok (n, ys)) : rdNum xs = .ok (n, ys) := by
  unfold rdNumber at h
  cases hr : rdNum xs with
  | error e' => rw [hr] at h; simp at h
  | ok p =>
    obtain ⟨n', ys'⟩ := p
    rw [hr] at h
    simp only at h
    split at h
    · simp at h
    · exact h

set_option maxRecDepth 100000 in
set_option maxHeartbeats 1000000 in
theorem back2_c {fr al : Nat → Prop} {w : World} {r q bq : Nat} {xs : List UInt8} (st : Own fr al w [blkI bq [.pointer (some ⟨q, 0, none⟩)], penI q [], rdI r xs] w) (hl : xs.length ≤ 2000) :
    Calls Try.prog 61 #[.pointer (some ⟨r, 0, none⟩), .pointer (some ⟨bq, 0, none⟩)] w fun en w' =>
      (∃ v, en = .returned v ∧ Own fr al w [blkI bq [.pointer (some ⟨q, 0, none⟩)], penI q xs, rdI r []] w') ∨
      (∃ e ys, e ≠ 0 ∧ en = .panicked [{ v := failV r e, recovered := false }] ∧ Own fr al w [blkI bq [.pointer (some ⟨q, 0, none⟩)], penI q ys, rdAnyI r] w') := by
  go_enter Try.func61, Try.ntmps61
  (try simp only [Value.cells, List.cons_append, List.nil_append, List.set, spl, putIt, pick, List.map_cons, List.map_nil, List.getElem?_cons_zero, List.getElem?_cons_succ, Option.getD_some, List.drop_succ_cons, List.drop_zero, List.drop_nil, List.append_nil, unB] at st)
  (try clear hc); have hc := st.facts; (try simp only [factsOf, blkI, blkFacts, rowI, byI, datI, nullI, oldI, penI, rdI, rdAnyI, rdOverI, Nat.zero_add, Nat.reduceAdd, and_true, true_and, and_self] at hc)
  go_wp2_with fail
  go_loopg [] (xs.length) (fun k wr => ∃ done ys, xs = done ++ ys ∧ ys.length ≤ k ∧ Own fr al w [blkI bq [.pointer (some ⟨q, 0, none⟩)], penI q done, rdI r ys] wr)
  case atStart => exact ⟨[], xs, rfl, Nat.le_refl _, st⟩
  case round =>
    obtain ⟨done, ys, hxs, hk, st'⟩ := hrel
    clear st hc
    have st := st'
    clear st'
    (try simp only [Value.cells, List.cons_append, List.nil_append, List.set, spl, putIt, pick, List.map_cons, List.map_nil, List.getElem?_cons_zero, List.getElem?_cons_succ, Option.getD_some, List.drop_succ_cons, List.drop_zero, List.drop_nil, List.append_nil, unB] at st)
    (try clear hc); have hc := st.facts; (try simp only [factsOf, blkI, blkFacts, rowI, byI, datI, nullI, oldI, penI, rdI, rdAnyI, rdOverI, Nat.zero_add, Nat.reduceAdd, and_true, true_and, and_self] at hc)
    by_cases h0 : 0 < ys.length
    · go_wp2_with fail
      obtain ⟨fr', al', st', back⟩ := st.sub [2] (by decide) (by simp)
      (try simp only [Value.cells, List.cons_append, List.nil_append, List.set, spl, putIt, pick, List.map_cons, List.map_nil, List.getElem?_cons_zero, List.getElem?_cons_succ, Option.getD_some, List.drop_succ_cons, List.drop_zero, List.drop_nil, List.append_nil, unB] at st')
      refine (left_c st').mono ?_
      rintro en w' ⟨rfl, rfl⟩
      clear back st'
      go_wp2_with fail
      refine Rg4.wp_region4_eq #[0, 0, 2, 7] [2, 3] [] (fun W => Blk W bq [.pointer (some ⟨q, 0, none⟩)]) [0, 1, 2, 3] (by kernel_rfl) (by kernel_rfl) (by kernel_rfl) (by kernel_rfl) (show Rg4.PB _ by repeat (first | with_reducible exact Rg4.pb_body | with_reducible exact Rg4.pb_bodyD rfl | with_reducible refine Rg4.pb_then ?_ | with_reducible refine Rg4.pb_inBlock ?_ | with_reducible refine Rg4.pb_noGoto ?_)) (st.drew.blk (i := 0) rfl) ?_
      replace st := st.drew
      change Rg4.wp4 _ _ _ _ _ _ _ _ _ (World.drew _) _ _
      generalize World.drew _ = w at st ⊢
      (try clear hc); have hc := st.facts; (try simp only [factsOf, blkI, blkFacts, rowI, byI, datI, nullI, oldI, penI, rdI, rdAnyI, rdOverI, Nat.zero_add, Nat.reduceAdd, and_true, true_and, and_self] at hc)
      (refine Rg4.w4_cl (Rg4.want_none rfl) rfl ?_; apply Exists.intro; refine ⟨fun w' hcl => ?_, ?_⟩; (focus (have q0 := Blk.cell hcl 0; simp at q0; (focus (first | (go_simp; done) | (go_simp; first | rfl | (rw [if_neg] <;> first | rfl | omega)))))); (try simp only [Act.put, List.setIfInBounds_toArray, List.set]))
      (refine Rg4.w4_any (Rg4.want_none rfl) rfl ?_; apply Exists.intro; refine ⟨fun w' => ?_, ?_⟩; (focus (first | (go_simp; done) | (go_simp; first | rfl | (rw [if_neg] <;> first | rfl | omega)))); (try simp only [Act.put, List.setIfInBounds_toArray, List.set]))
      refine Rg4.w4_bar (Rg4.want_none rfl) rfl (fun w' hw' hcl _ K hK => ?_)
      subst hw'
      go_wp2_with fail
      obtain ⟨fr', al', st', back⟩ := st.sub [2] (by decide) (by simp)
      (try simp only [Value.cells, List.cons_append, List.nil_append, List.set, spl, putIt, pick, List.map_cons, List.map_nil, List.getElem?_cons_zero, List.getElem?_cons_succ, Option.getD_some, List.drop_succ_cons, List.drop_zero, List.drop_nil, List.append_nil, unB] at st')
      refine (number_c st' 9223372036854775807).mono ?_
      intro en w hen
      unfold RdC at hen
      cases hr : rdNumber 9223372036854775807 ys with
      | error e =>
        rw [hr] at hen
        obtain ⟨rfl, st'⟩ := hen
        replace st := back _ _ (by simp) st'
        clear back st'
        (try simp only [Value.cells, List.cons_append, List.nil_append, List.set, spl, putIt, pick, List.map_cons, List.map_nil, List.getElem?_cons_zero, List.getElem?_cons_succ, Option.getD_some, List.drop_succ_cons, List.drop_zero, List.drop_nil, List.append_nil, unB] at st)
        (try clear hc); have hc := st.facts; (try simp only [factsOf, blkI, blkFacts, rowI, byI, datI, nullI, oldI, penI, rdI, rdAnyI, rdOverI, Nat.zero_add, Nat.reduceAdd, and_true, true_and, and_self] at hc)
        go_wp2_with fail
        exact ⟨rfl, .inr ⟨e, done, rdNumber_err hr, rfl, st⟩⟩
      | ok p =>
        obtain ⟨n, zs⟩ := p
        rw [hr] at hen
        obtain ⟨v, M, rfl, ⟨rfl, rfl⟩, st'⟩ := hen
        replace st := back _ _ (by simp) st'
        clear back st'
        (try simp only [Value.cells, List.cons_append, List.nil_append, List.set, spl, putIt, pick, List.map_cons, List.map_nil, List.getElem?_cons_zero, List.getElem?_cons_succ, Option.getD_some, List.drop_succ_cons, List.drop_zero, List.drop_nil, List.append_nil, unB] at st)
        (try clear hc); have hc := st.facts; (try simp only [factsOf, blkI, blkFacts, rowI, byI, datI, nullI, oldI, penI, rdI, rdAnyI, rdOverI, Nat.zero_add, Nat.reduceAdd, and_true, true_and, and_self] at hc)
        refine hK _ _ ⟨st.blk (i := 0) rfl, ?_⟩
        clear hK
        (try simp only [Act.put, List.setIfInBounds_toArray, List.set])

        refine Rg4.w4_bar (Rg4.want_none rfl) rfl (fun w' hw' hcl _ K hK => ?_)
        subst hw'
        go_wp2_with fail
        have hok := rdNumber_ok hr
        have hsp := rdNum_spec hok
        have hcan := rdNum_canon hok
        have hl1 : done.length ≤ 2000 := by rw [hxs] at hl; simp at hl; omega
        obtain ⟨fr', al', st', back⟩ := st.sub [1] (by decide) (by simp)
        (try simp only [Value.cells, List.cons_append, List.nil_append, List.set, spl, putIt, pick, List.map_cons, List.map_nil, List.getElem?_cons_zero, List.getElem?_cons_succ, Option.getD_some, List.drop_succ_cons, List.drop_zero, List.drop_nil, List.append_nil, unB] at st')
        refine (penNumber_c st' n hsp.1 (by omega)).mono ?_
        clear st'
        rintro en w ⟨rfl, st'⟩
        replace st := back _ _ (by simp) st'
        clear back st'
        (try simp only [Value.cells, List.cons_append, List.nil_append, List.set, spl, putIt, pick, List.map_cons, List.map_nil, List.getElem?_cons_zero, List.getElem?_cons_succ, Option.getD_some, List.drop_succ_cons, List.drop_zero, List.drop_nil, List.append_nil, unB] at st)
        (try clear hc); have hc := st.facts; (try simp only [factsOf, blkI, blkFacts, rowI, byI, datI, nullI, oldI, penI, rdI, rdAnyI, rdOverI, Nat.zero_add, Nat.reduceAdd, and_true, true_and, and_self] at hc)
        refine hK _ _ ⟨st.blk (i := 0) rfl, ?_⟩
        clear hK
        (try simp only [Act.put, List.setIfInBounds_toArray, List.set])
        refine Rg4.w4_nil (fun w' hw' hcl' _ => ?_); subst hw'; clear hcl'
        go_wp2_with fail
        go_roundg zs.length
        case measure => have := hsp.2; omega
        case rel => exact ⟨done ++ numB n, zs, by rw [hxs, hcan]; simp, Nat.le_refl _, st⟩
    · obtain rfl : ys = [] := List.length_eq_zero_iff.1 (by omega)
      simp at hxs
      subst hxs
      go_wp2_with fail
      obtain ⟨fr', al', st', back⟩ := st.sub [2] (by decide) (by simp)
      (try simp only [Value.cells, List.cons_append, List.nil_append, List.set, spl, putIt, pick, List.map_cons, List.map_nil, List.getElem?_cons_zero, List.getElem?_cons_succ, Option.getD_some, List.drop_succ_cons, List.drop_zero, List.drop_nil, List.append_nil, unB] at st')
      refine (left_c st').mono ?_
      rintro en w' ⟨rfl, rfl⟩
      clear back st'
      go_wp2_with fail
      go_end0
      exact .inl ⟨_, rfl, st⟩
/-- An operation as it lies in memory. -/
structure OpV where
  k : Int
  n : Int
  b : List UInt8
  a : Option Addr
  m : Nat
  c : Nat
def OpV.cells (o : OpV) : List Value := [.int .i64 o.k, .int .i64 o.n, .slice o.a o.m o.c]
def OpV.Ok (W : World) (o : OpV) : Prop := By W o.a o.m o.b ∧ ((o.k.tmod 2 = 0 ∧ 0 ≤ o.n ∧ o.n < 9223372036854775808) ∨ (o.k.tmod 2 ≠ 0 ∧ o.b.length ≤ 300))
def OpV.out (o : OpV) : List UInt8 := if o.k.tmod 2 = 0 then numB o.n.toNat else numB o.b.length ++ o.b
def outV (l : List OpV) : List UInt8 := l.flatMap OpV.out
theorem cells_at {l : List OpV} {j : Nat} {o : OpV} (h : l[j]? = some o) (i : Nat) (hi : i < 3) : (l.flatMap OpV.cells)[j * 3 + i]? = o.cells[i]? := by
  induction l generalizing j with
  | nil => simp at h
  | cons a l ih =>
    have ha : a.cells.length = 3 := rfl
    cases j with
    | zero =>
      simp at h; subst h
      rw [List.flatMap_cons, List.getElem?_append_left (by rw [ha]; omega), Nat.zero_mul, Nat.zero_add]
    | succ j =>
      simp at h
      rw [List.flatMap_cons, List.getElem?_append_right (by rw [ha]; omega), ha, ← ih h]
      congr 1; omega
theorem rdText_back (b ys : List UInt8) (hb : b.length ≤ 300) : rdText 300 (numB b.length ++ b ++ ys) = .ok (b, ys) := by
  unfold rdText
  rw [List.append_assoc, rdNum_back _ _ (by omega)]
  simp only
  rw [if_neg (by omega), if_neg (by simp)]
  simp
theorem rdNumber_back (n : Nat) (ys : List UInt8) (hn : n < 9223372036854775808) : rdNumber (n : Int) (numB n ++ ys) = .ok (n, ys) := by
  unfold rdNumber
  rw [rdNum_back _ _ hn]
  simp
theorem out_len {W : World} {o : OpV} (h : o.Ok W) : o.out.length ≤ 310 := by
  unfold OpV.out
  split
  · have : (numB o.n.toNat).length ≤ 10 := numF_len 10 _
    omega
  · have : (numB o.b.length).length ≤ 10 := numF_len 10 _
    rcases h.2 with q | q
    · exact absurd q.1 (by assumption)
    · simp; omega
theorem outV_len (l : List OpV) (W : World) (h : ∀ o ∈ l, o.Ok W) (hl : l.length ≤ 60) : (outV l).length ≤ 100000 := by
  have : ∀ l : List OpV, (∀ o ∈ l, o.Ok W) → (outV l).length ≤ l.length * 310 := by
    intro l
    induction l with
    | nil => intro _; simp [outV]
    | cons a l ih =>
      intro h
      have h1 := out_len (h a (by simp))
      have h2 := ih fun o ho => h o (by simp [ho])
      unfold outV at *
      rw [List.flatMap_cons, List.length_append, List.length_cons]
      omega
  have := this l h
  omega
set_option maxRecDepth 100000 in
set_option maxHeartbeats 2000000 in
theorem back1_c {fr al : Nat → Prop} {w W0 : World} {r bd bg n : Nat} {v : Value} {l : List OpV} (st : Own fr al w [blkI bd [v], rowI 80 3 v n (l.flatMap OpV.cells), blkI bg [.bool true], oldI W0, rdI r (outV l)] w) (hn : n = l.length) (hn6 : n ≤ 60) (hok : ∀ o ∈ l, o.Ok W0) :
    Calls Try.prog 60 #[.pointer (some ⟨r, 0, none⟩), .pointer (some ⟨bd, 0, none⟩), .pointer (some ⟨bg, 0, none⟩)] w fun en w' =>
      ∃ v', en = .returned v' ∧ Own fr al w [blkI bd [v], rowI 80 3 v n (l.flatMap OpV.cells), blkI bg [.bool true], oldI W0, rdI r []] w' := by
  have HN := Lib.hid hn
  have HOK := Lib.hid hok
  clear hn hok
  obtain ⟨va, vc, rfl⟩ := own_slice (st.row (i := 1) rfl)
  go_enter Try.func60, Try.ntmps60
  (try simp only [Value.cells, List.cons_append, List.nil_append, List.set, spl, putIt, pick, List.map_cons, List.map_nil, List.getElem?_cons_zero, List.getElem?_cons_succ, Option.getD_some, List.drop_succ_cons, List.drop_zero, List.drop_nil, List.append_nil, unB] at st)
  (try clear hc); have hc := st.facts; (try simp only [factsOf, blkI, blkFacts, rowI, byI, datI, nullI, oldI, penI, rdI, rdAnyI, rdOverI, Nat.zero_add, Nat.reduceAdd, and_true, true_and, and_self] at hc)
  go_wp2_with fail
  go_loopw [8] (fun i wr => ∃ j, j ≤ n ∧ i = .int .i64 (j : Int) ∧ Own fr al w [blkI bd [.slice va n vc], rowI 80 3 (.slice va n vc) n (l.flatMap OpV.cells), blkI bg [.bool true], oldI W0, rdI r (outV (l.drop j))] wr) (fun i _ => n - (intOf i).toNat)
  case atStart => exact ⟨0, by omega, rfl, st⟩
  case round =>
    obtain ⟨j, hj, rfl, st'⟩ := hrel
    clear st hc
    have st := st'
    clear st'
    by_cases hjn : j < n
    · have hjl : j < l.length := by have := HN.out; omega
      obtain ⟨g, cap, hv, hcap, hcell⟩ := st.rowAt (i := 1) rfl (by omega)
      injection hv with hv1 hv2 hv3
      subst hv1 hv3
      have hd : outV (l.drop j) = l[j].out ++ outV (l.drop (j + 1)) := by unfold outV; rw [List.drop_eq_getElem_cons hjl]; rfl
      have e0 := cells_at (List.getElem?_eq_getElem hjl) 0 (by decide)
      have e1 := cells_at (List.getElem?_eq_getElem hjl) 1 (by decide)
      have e2 := cells_at (List.getElem?_eq_getElem hjl) 2 (by decide)
      have ho := HOK.out l[j] (List.getElem_mem hjl)
      rw [hd] at st
      have hjo : (l[j].out ++ outV (l.drop (j + 1))).length ≤ (outV l).length := by
        rw [← hd]
        have e : outV l = outV (l.take j) ++ outV (l.drop j) := by unfold outV; rw [← List.flatMap_append, List.take_append_drop]
        rw [e]; simp
      generalize l[j] = o at *
      obtain ⟨ok, on, ob, oa, om, oc⟩ := o
      have r0 := hcell _ _ e0
      have r1 := hcell _ _ e1
      have r2 := hcell _ _ e2
      clear hcell e0 e1 e2 hd hv2
      simp only [Nat.add_zero] at r0 r1 r2
      have HO := Lib.hid ho
      clear ho
      (try simp only [Value.cells, List.cons_append, List.nil_append, List.set, spl, putIt, pick, List.map_cons, List.map_nil, List.getElem?_cons_zero, List.getElem?_cons_succ, Option.getD_some, List.drop_succ_cons, List.drop_zero, List.drop_nil, List.append_nil, unB] at st)
      (try clear hc); have hc := st.facts; (try simp only [factsOf, blkI, blkFacts, rowI, byI, datI, nullI, oldI, penI, rdI, rdAnyI, rdOverI, Nat.zero_add, Nat.reduceAdd, and_true, true_and, and_self] at hc)
      go_wp2_with (first
          | ((with_reducible refine wl_alloc ?_ (fun K hK => ?_)); (rfl); ((refine owp_alloc (o := ⟨some 5, _, _, _, _, _⟩) rfl st ?_; apply Exists.intro; apply Exists.intro; refine ⟨?_, ?_⟩; (focus (first | (go_simp; done) | (go_simp; rfl))); (clear st; intro b5 w hb st; clear hb)); (try simp only [Value.cells, List.cons_append, List.nil_append, List.set, spl, putIt, pick, List.map_cons, List.map_nil, List.getElem?_cons_zero, List.getElem?_cons_succ, Option.getD_some, List.drop_succ_cons, List.drop_zero, List.drop_nil, List.append_nil, unB] at st); (try clear hc); have hc := st.facts; (try simp only [factsOf, blkI, blkFacts, rowI, byI, datI, nullI, oldI, penI, rdI, rdAnyI, rdOverI, Nat.zero_add, Nat.reduceAdd, and_true, true_and, and_self] at hc)))
          | ((with_reducible refine wl_store ?_ (fun K hK => ?_)); (rfl); ((refine owp_store rfl st ?_; apply Exists.intro; apply Exists.intro; refine ⟨?_, ?_, ?_⟩; (focus (go_simp; try rfl)); (focus (go_simp; try rfl)); (first | with_reducible refine ⟨0, _, _, _, _, get0, rfl, rfl, ?_, ?_, ?_, ?_⟩ | with_reducible refine ⟨1, _, _, _, _, get1, rfl, rfl, ?_, ?_, ?_, ?_⟩ | with_reducible refine ⟨2, _, _, _, _, get2, rfl, rfl, ?_, ?_, ?_, ?_⟩ | with_reducible refine ⟨3, _, _, _, _, get3, rfl, rfl, ?_, ?_, ?_, ?_⟩ | with_reducible refine ⟨4, _, _, _, _, get4, rfl, rfl, ?_, ?_, ?_, ?_⟩ | with_reducible refine ⟨5, _, _, _, _, get5, rfl, rfl, ?_, ?_, ?_, ?_⟩ | with_reducible refine ⟨6, _, _, _, _, get6, rfl, rfl, ?_, ?_, ?_, ?_⟩ | with_reducible refine ⟨7, _, _, _, _, get7, rfl, rfl, ?_, ?_, ?_, ?_⟩); (kernel_rfl); (simp [Value.cells]); (rfl); (clear st; intro w st)); (try simp only [Value.cells, List.cons_append, List.nil_append, List.set, spl, putIt, pick, List.map_cons, List.map_nil, List.getElem?_cons_zero, List.getElem?_cons_succ, Option.getD_some, List.drop_succ_cons, List.drop_zero, List.drop_nil, List.append_nil, unB] at st); (try clear hc); have hc := st.facts; (try simp only [factsOf, blkI, blkFacts, rowI, byI, datI, nullI, oldI, penI, rdI, rdAnyI, rdOverI, Nat.zero_add, Nat.reduceAdd, and_true, true_and, and_self] at hc)))
          | ((with_reducible refine wl_convert ?_ (fun K hK => ?_)); (rfl); ((first | refine owp_bs (o := ⟨some 36, _, _, _, _, _⟩) rfl st 0 get0 rfl Try.underlying22 Try.underlying5 Try.underlying9 ?_ | refine owp_bs (o := ⟨some 36, _, _, _, _, _⟩) rfl st 1 get1 rfl Try.underlying22 Try.underlying5 Try.underlying9 ?_ | refine owp_bs (o := ⟨some 36, _, _, _, _, _⟩) rfl st 2 get2 rfl Try.underlying22 Try.underlying5 Try.underlying9 ?_ | refine owp_bs (o := ⟨some 36, _, _, _, _, _⟩) rfl st 3 get3 rfl Try.underlying22 Try.underlying5 Try.underlying9 ?_ | refine owp_bs (o := ⟨some 36, _, _, _, _, _⟩) rfl st 4 get4 rfl Try.underlying22 Try.underlying5 Try.underlying9 ?_ | refine owp_bs (o := ⟨some 36, _, _, _, _, _⟩) rfl st 5 get5 rfl Try.underlying22 Try.underlying5 Try.underlying9 ?_ | refine owp_bs (o := ⟨some 36, _, _, _, _, _⟩) rfl st 6 get6 rfl Try.underlying22 Try.underlying5 Try.underlying9 ?_ | refine owp_bs (o := ⟨some 36, _, _, _, _, _⟩) rfl st 7 get7 rfl Try.underlying22 Try.underlying5 Try.underlying9 ?_); (try simp only [Value.cells, List.cons_append, List.nil_append, List.set, spl, putIt, pick, List.map_cons, List.map_nil, List.getElem?_cons_zero, List.getElem?_cons_succ, Option.getD_some, List.drop_succ_cons, List.drop_zero, List.drop_nil, List.append_nil, unB] at st); (try clear hc); have hc := st.facts; (try simp only [factsOf, blkI, blkFacts, rowI, byI, datI, nullI, oldI, penI, rdI, rdAnyI, rdOverI, Nat.zero_add, Nat.reduceAdd, and_true, true_and, and_self] at hc)))
          | ((with_reducible refine wl_convert ?_ (fun K hK => ?_)); (rfl); ((first | refine owp_bs (o := ⟨some 39, _, _, _, _, _⟩) rfl st 0 get0 rfl Try.underlying22 Try.underlying5 Try.underlying9 ?_ | refine owp_bs (o := ⟨some 39, _, _, _, _, _⟩) rfl st 1 get1 rfl Try.underlying22 Try.underlying5 Try.underlying9 ?_ | refine owp_bs (o := ⟨some 39, _, _, _, _, _⟩) rfl st 2 get2 rfl Try.underlying22 Try.underlying5 Try.underlying9 ?_ | refine owp_bs (o := ⟨some 39, _, _, _, _, _⟩) rfl st 3 get3 rfl Try.underlying22 Try.underlying5 Try.underlying9 ?_ | refine owp_bs (o := ⟨some 39, _, _, _, _, _⟩) rfl st 4 get4 rfl Try.underlying22 Try.underlying5 Try.underlying9 ?_ | refine owp_bs (o := ⟨some 39, _, _, _, _, _⟩) rfl st 5 get5 rfl Try.underlying22 Try.underlying5 Try.underlying9 ?_ | refine owp_bs (o := ⟨some 39, _, _, _, _, _⟩) rfl st 6 get6 rfl Try.underlying22 Try.underlying5 Try.underlying9 ?_ | refine owp_bs (o := ⟨some 39, _, _, _, _, _⟩) rfl st 7 get7 rfl Try.underlying22 Try.underlying5 Try.underlying9 ?_); (try simp only [Value.cells, List.cons_append, List.nil_append, List.set, spl, putIt, pick, List.map_cons, List.map_nil, List.getElem?_cons_zero, List.getElem?_cons_succ, Option.getD_some, List.drop_succ_cons, List.drop_zero, List.drop_nil, List.append_nil, unB] at st); (try clear hc); have hc := st.facts; (try simp only [factsOf, blkI, blkFacts, rowI, byI, datI, nullI, oldI, penI, rdI, rdAnyI, rdOverI, Nat.zero_add, Nat.reduceAdd, and_true, true_and, and_self] at hc))))
      by_cases hk : ok.tmod 2 = 0
      · obtain ⟨N, rfl⟩ : ∃ N : Nat, on = (N : Int) := ⟨on.toNat, by have := HO.out.2; simp only at this; omega⟩
        have hN : N < 9223372036854775808 := by have := HO.out.2; simp only at this; omega
        have hout : ({ k := ok, n := (N : Int), b := ob, a := oa, m := om, c := oc } : OpV).out = numB N := by unfold OpV.out; simp only [hk, if_true]; simp
        rw [hout] at st
        have hrd := rdNumber_back N (outV (l.drop (j + 1))) hN
        have HR := Lib.hid hrd
        clear hout hrd
        refine Rg4.wp_region4_eq #[0, 1, 3, 7, 15, 31, 63, 127, 127, 383, 1023, 127, 2175, 8191, 16383, 32767, 65535, 131071, 262143, 524287, 1048575, 2097151, 4194303, 8388607, 16777215, 4194303, 37748735, 104857599, 268435455, 536870911, 1073741823, 2147483647] [10, 23, 31] [0, 24] (fun W => Blk W b5 [.int .i64 ok, .int .i64 (N : Int), .slice oa om oc] ∧ By W oa om ob) [0, 1, 2, 3, 4, 5, 6, 7, 8, 9, 11, 12, 10, 13, 14, 15, 16, 17, 18, 19, 20, 21, 22, 25, 26, 27, 23, 24, 28, 29, 30, 31] (by kernel_rfl) (by kernel_rfl) (by kernel_rfl) (by kernel_rfl) (show Rg4.PB _ by repeat (first | with_reducible exact Rg4.pb_body | with_reducible exact Rg4.pb_bodyD rfl | with_reducible refine Rg4.pb_then ?_ | with_reducible refine Rg4.pb_inBlock ?_ | with_reducible refine Rg4.pb_noGoto ?_)) (⟨st.drew.blk (i := 5) rfl, st.drew.oldBy (i := 3) rfl HO.out.1⟩) ?_
        replace st := st.drew
        change Rg4.wp4 _ _ _ _ _ _ _ _ _ (World.drew _) _ _
        generalize World.drew _ = w at st ⊢
        (try clear hc); have hc := st.facts; (try simp only [factsOf, blkI, blkFacts, rowI, byI, datI, nullI, oldI, penI, rdI, rdAnyI, rdOverI, Nat.zero_add, Nat.reduceAdd, and_true, true_and, and_self] at hc)
        (refine Rg4.w4_read (Rg4.want_none rfl) rfl rfl ?_; apply Exists.intro; refine ⟨fun w' hw' hcl' => ?_, ?_⟩; focus (subst hw'; (focus (first | (go_simp; done) | (go_simp; first | rfl | (rw [if_neg] <;> first | rfl | omega))))); (try simp only [Act.put, List.setIfInBounds_toArray, List.set]))
        (refine Rg4.w4_any (Rg4.want_none rfl) rfl ?_; apply Exists.intro; refine ⟨fun w' => ?_, ?_⟩; (focus (first | (go_simp; done) | (go_simp; first | rfl | (rw [if_neg] <;> first | rfl | omega)))); (try simp only [Act.put, List.setIfInBounds_toArray, List.set]))
        (first | (refine Rg4.w4_any (Rg4.want_of 1 13 true rfl rfl rfl) rfl ?_; apply Exists.intro; refine ⟨fun w' => ?_, ?_⟩; (focus (first | (go_simp; done) | (go_simp; first | rfl | (rw [if_neg] <;> first | rfl | omega)))); (try simp only [Act.put, List.setIfInBounds_toArray, List.set])) | (refine Rg4.w4_skip (Rg4.unwant_of 1 13 true rfl rfl rfl) ?_; (try simp only [Act.put, List.setIfInBounds_toArray, List.set])))
        (first | (refine Rg4.w4_cl (Rg4.want_of 1 13 true rfl rfl rfl) rfl ?_; apply Exists.intro; refine ⟨fun w' hcl => ?_, ?_⟩; (focus (have q0 := Blk.cell hcl.1 0; have q1 := Blk.cell hcl.1 1; have q2 := Blk.cell hcl.1 2; have q3 := conv_bs (P := Try.prog) (src := 22) (dst := 9) (c := oc) Try.underlying22 Try.underlying5 Try.underlying9 hcl.2; unfold S at q3; simp at q0 q1 q2; (focus (first | (go_simp; done) | (go_simp; first | rfl | (rw [if_neg] <;> first | rfl | omega)))))); (try simp only [Act.put, List.setIfInBounds_toArray, List.set])) | (refine Rg4.w4_skip (Rg4.unwant_of 1 13 true rfl rfl rfl) ?_; (try simp only [Act.put, List.setIfInBounds_toArray, List.set])))
        (first | (refine Rg4.w4_any (Rg4.want_of 1 13 true rfl rfl rfl) rfl ?_; apply Exists.intro; refine ⟨fun w' => ?_, ?_⟩; (focus (first | (go_simp; done) | (go_simp; first | rfl | (rw [if_neg] <;> first | rfl | omega)))); (try simp only [Act.put, List.setIfInBounds_toArray, List.set])) | (refine Rg4.w4_skip (Rg4.unwant_of 1 13 true rfl rfl rfl) ?_; (try simp only [Act.put, List.setIfInBounds_toArray, List.set])))
        (first | (refine Rg4.w4_any (Rg4.want_of 1 13 true rfl rfl rfl) rfl ?_; apply Exists.intro; refine ⟨fun w' => ?_, ?_⟩; (focus (first | (go_simp; done) | (go_simp; first | rfl | (rw [if_neg] <;> first | rfl | omega)))); (try simp only [Act.put, List.setIfInBounds_toArray, List.set])) | (refine Rg4.w4_skip (Rg4.unwant_of 1 13 true rfl rfl rfl) ?_; (try simp only [Act.put, List.setIfInBounds_toArray, List.set])))
        (first | (refine Rg4.w4_any (Rg4.want_of 1 13 true rfl rfl rfl) rfl ?_; apply Exists.intro; refine ⟨fun w' => ?_, ?_⟩; (focus (first | (go_simp; done) | (go_simp; first | rfl | (rw [if_neg] <;> first | rfl | omega)))); (try simp only [Act.put, List.setIfInBounds_toArray, List.set])) | (refine Rg4.w4_skip (Rg4.unwant_of 1 13 true rfl rfl rfl) ?_; (try simp only [Act.put, List.setIfInBounds_toArray, List.set])))
        (first | (refine Rg4.w4_any (Rg4.want_of 6 18 false rfl rfl rfl) rfl ?_; apply Exists.intro; refine ⟨fun w' => ?_, ?_⟩; (focus (first | (go_simp; done) | (go_simp; first | rfl | (rw [if_neg] <;> first | rfl | omega)))); (try simp only [Act.put, List.setIfInBounds_toArray, List.set])) | (refine Rg4.w4_skip (Rg4.unwant_of 6 18 false rfl rfl rfl) ?_; (try simp only [Act.put, List.setIfInBounds_toArray, List.set])))
        (first | (refine Rg4.w4_any (Rg4.want_of 6 18 false rfl rfl rfl) rfl ?_; apply Exists.intro; refine ⟨fun w' => ?_, ?_⟩; (focus (first | (go_simp; done) | (go_simp; first | rfl | (rw [if_neg] <;> first | rfl | omega)))); (try simp only [Act.put, List.setIfInBounds_toArray, List.set])) | (refine Rg4.w4_skip (Rg4.unwant_of 6 18 false rfl rfl rfl) ?_; (try simp only [Act.put, List.setIfInBounds_toArray, List.set])))
        (first | (refine Rg4.w4_cl (Rg4.want_of 6 18 false rfl rfl rfl) rfl ?_; apply Exists.intro; refine ⟨fun w' hcl => ?_, ?_⟩; (focus (have q0 := Blk.cell hcl.1 0; have q1 := Blk.cell hcl.1 1; have q2 := Blk.cell hcl.1 2; have q3 := conv_bs (P := Try.prog) (src := 22) (dst := 9) (c := oc) Try.underlying22 Try.underlying5 Try.underlying9 hcl.2; unfold S at q3; simp at q0 q1 q2; (focus (first | (go_simp; done) | (go_simp; first | rfl | (rw [if_neg] <;> first | rfl | omega)))))); (try simp only [Act.put, List.setIfInBounds_toArray, List.set])) | (refine Rg4.w4_skip (Rg4.unwant_of 6 18 false rfl rfl rfl) ?_; (try simp only [Act.put, List.setIfInBounds_toArray, List.set])))
        (first | (refine Rg4.w4_any (Rg4.want_of 6 18 false rfl rfl rfl) rfl ?_; apply Exists.intro; refine ⟨fun w' => ?_, ?_⟩; (focus (first | (go_simp; done) | (go_simp; first | rfl | (rw [if_neg] <;> first | rfl | omega)))); (try simp only [Act.put, List.setIfInBounds_toArray, List.set])) | (refine Rg4.w4_skip (Rg4.unwant_of 6 18 false rfl rfl rfl) ?_; (try simp only [Act.put, List.setIfInBounds_toArray, List.set])))
        (first | (refine Rg4.w4_cl (Rg4.want_of 6 18 false rfl rfl rfl) rfl ?_; apply Exists.intro; refine ⟨fun w' hcl => ?_, ?_⟩; (focus (have q0 := Blk.cell hcl.1 0; have q1 := Blk.cell hcl.1 1; have q2 := Blk.cell hcl.1 2; have q3 := conv_bs (P := Try.prog) (src := 22) (dst := 9) (c := oc) Try.underlying22 Try.underlying5 Try.underlying9 hcl.2; unfold S at q3; simp at q0 q1 q2; (focus (first | (go_simp; done) | (go_simp; first | rfl | (rw [if_neg] <;> first | rfl | omega)))))); (try simp only [Act.put, List.setIfInBounds_toArray, List.set])) | (refine Rg4.w4_skip (Rg4.unwant_of 6 18 false rfl rfl rfl) ?_; (try simp only [Act.put, List.setIfInBounds_toArray, List.set])))
        refine Rg4.w4_bar (Rg4.want_of 6 18 false rfl rfl rfl) rfl (fun w' hw' hcl _ K hK => ?_)
        subst hw'
        go_wp2_with fail
        obtain ⟨fr', al', st', back⟩ := st.sub [4] (by decide) (by simp)
        (try simp only [Value.cells, List.cons_append, List.nil_append, List.set, spl, putIt, pick, List.map_cons, List.map_nil, List.getElem?_cons_zero, List.getElem?_cons_succ, Option.getD_some, List.drop_succ_cons, List.drop_zero, List.drop_nil, List.append_nil, unB] at st')
        refine (number_c st' (N : Int)).mono ?_
        clear st'
        intro en w hen
        unfold RdC at hen
        rw [HR.out] at hen
        obtain ⟨v, M, rfl, ⟨rfl, rfl⟩, st'⟩ := hen
        replace st := back _ _ (by simp) st'
        clear back st'
        (try simp only [Value.cells, List.cons_append, List.nil_append, List.set, spl, putIt, pick, List.map_cons, List.map_nil, List.getElem?_cons_zero, List.getElem?_cons_succ, Option.getD_some, List.drop_succ_cons, List.drop_zero, List.drop_nil, List.append_nil, unB] at st)
        (try clear hc); have hc := st.facts; (try simp only [factsOf, blkI, blkFacts, rowI, byI, datI, nullI, oldI, penI, rdI, rdAnyI, rdOverI, Nat.zero_add, Nat.reduceAdd, and_true, true_and, and_self] at hc)
        refine hK _ _ ⟨⟨st.blk (i := 5) rfl, st.oldBy (i := 3) rfl HO.out.1⟩, ?_⟩
        clear hK
        (try simp only [Act.put, List.setIfInBounds_toArray, List.set])
        (first | (refine Rg4.w4_any (Rg4.want_of 6 18 false rfl rfl rfl) rfl ?_; apply Exists.intro; refine ⟨fun w' => ?_, ?_⟩; (focus (first | (go_simp; done) | (go_simp; first | rfl | (rw [if_neg] <;> first | rfl | omega)))); (try simp only [Act.put, List.setIfInBounds_toArray, List.set])) | (refine Rg4.w4_skip (Rg4.unwant_of 6 18 false rfl rfl rfl) ?_; (try simp only [Act.put, List.setIfInBounds_toArray, List.set])))
        (first | (refine Rg4.w4_any (Rg4.want_of 1 13 true rfl rfl rfl) rfl ?_; apply Exists.intro; refine ⟨fun w' => ?_, ?_⟩; (focus (first | (go_simp; done) | (go_simp; first | rfl | (rw [if_neg] <;> first | rfl | omega)))); (try simp only [Act.put, List.setIfInBounds_toArray, List.set])) | (refine Rg4.w4_skip (Rg4.unwant_of 1 13 true rfl rfl rfl) ?_; (try simp only [Act.put, List.setIfInBounds_toArray, List.set])))
        (refine Rg4.w4_any (Rg4.want_none rfl) rfl ?_; apply Exists.intro; refine ⟨fun w' => ?_, ?_⟩; (focus (first | (go_simp; done) | (go_simp; first | rfl | (rw [if_neg] <;> first | rfl | omega)))); (try simp only [Act.put, List.setIfInBounds_toArray, List.set]))
        (refine Rg4.w4_any (Rg4.want_none rfl) rfl ?_; apply Exists.intro; refine ⟨fun w' => ?_, ?_⟩; (focus (first | (go_simp; done) | (go_simp; first | rfl | (rw [if_neg] <;> first | rfl | omega)))); (try simp only [Act.put, List.setIfInBounds_toArray, List.set]))
        (first | (refine Rg4.w4_any (Rg4.want_of 16 28 true rfl rfl rfl) rfl ?_; apply Exists.intro; refine ⟨fun w' => ?_, ?_⟩; (focus (first | (go_simp; done) | (go_simp; first | rfl | (rw [if_neg] <;> first | rfl | omega)))); (try simp only [Act.put, List.setIfInBounds_toArray, List.set])) | (refine Rg4.w4_skip (Rg4.unwant_of 16 28 true rfl rfl rfl) ?_; (try simp only [Act.put, List.setIfInBounds_toArray, List.set])))
        (first | (refine Rg4.w4_cl (Rg4.want_of 16 28 true rfl rfl rfl) rfl ?_; apply Exists.intro; refine ⟨fun w' hcl => ?_, ?_⟩; (focus (have q0 := Blk.cell hcl.1 0; have q1 := Blk.cell hcl.1 1; have q2 := Blk.cell hcl.1 2; have q3 := conv_bs (P := Try.prog) (src := 22) (dst := 9) (c := oc) Try.underlying22 Try.underlying5 Try.underlying9 hcl.2; unfold S at q3; simp at q0 q1 q2; (focus (first | (go_simp; done) | (go_simp; first | rfl | (rw [if_neg] <;> first | rfl | omega)))))); (try simp only [Act.put, List.setIfInBounds_toArray, List.set])) | (refine Rg4.w4_skip (Rg4.unwant_of 16 28 true rfl rfl rfl) ?_; (try simp only [Act.put, List.setIfInBounds_toArray, List.set])))
        (first | (refine Rg4.w4_any (Rg4.want_of 16 28 true rfl rfl rfl) rfl ?_; apply Exists.intro; refine ⟨fun w' => ?_, ?_⟩; (focus (first | (go_simp; done) | (go_simp; first | rfl | (rw [if_neg] <;> first | rfl | omega)))); (try simp only [Act.put, List.setIfInBounds_toArray, List.set])) | (refine Rg4.w4_skip (Rg4.unwant_of 16 28 true rfl rfl rfl) ?_; (try simp only [Act.put, List.setIfInBounds_toArray, List.set])))
        (first | (refine Rg4.w4_any (Rg4.want_of 16 28 true rfl rfl rfl) rfl ?_; apply Exists.intro; refine ⟨fun w' => ?_, ?_⟩; (focus (first | (go_simp; done) | (go_simp; first | rfl | (rw [if_neg] <;> first | rfl | omega)))); (try simp only [Act.put, List.setIfInBounds_toArray, List.set])) | (refine Rg4.w4_skip (Rg4.unwant_of 16 28 true rfl rfl rfl) ?_; (try simp only [Act.put, List.setIfInBounds_toArray, List.set])))
        (first | (refine Rg4.w4_any (Rg4.want_of 16 28 true rfl rfl rfl) rfl ?_; apply Exists.intro; refine ⟨fun w' => ?_, ?_⟩; (focus (first | (go_simp; done) | (go_simp; first | rfl | (rw [if_neg] <;> first | rfl | omega)))); (try simp only [Act.put, List.setIfInBounds_toArray, List.set])) | (refine Rg4.w4_skip (Rg4.unwant_of 16 28 true rfl rfl rfl) ?_; (try simp only [Act.put, List.setIfInBounds_toArray, List.set])))
        (first | (refine Rg4.w4_any (Rg4.want_of 21 33 false rfl rfl rfl) rfl ?_; apply Exists.intro; refine ⟨fun w' => ?_, ?_⟩; (focus (first | (go_simp; done) | (go_simp; first | rfl | (rw [if_neg] <;> first | rfl | omega)))); (try simp only [Act.put, List.setIfInBounds_toArray, List.set])) | (refine Rg4.w4_skip (Rg4.unwant_of 21 33 false rfl rfl rfl) ?_; (try simp only [Act.put, List.setIfInBounds_toArray, List.set])))
        (first | (refine Rg4.w4_any (Rg4.want_of 21 33 false rfl rfl rfl) rfl ?_; apply Exists.intro; refine ⟨fun w' => ?_, ?_⟩; (focus (first | (go_simp; done) | (go_simp; first | rfl | (rw [if_neg] <;> first | rfl | omega)))); (try simp only [Act.put, List.setIfInBounds_toArray, List.set])) | (refine Rg4.w4_skip (Rg4.unwant_of 21 33 false rfl rfl rfl) ?_; (try simp only [Act.put, List.setIfInBounds_toArray, List.set])))
        (first | (refine Rg4.w4_cl (Rg4.want_of 21 33 false rfl rfl rfl) rfl ?_; apply Exists.intro; refine ⟨fun w' hcl => ?_, ?_⟩; (focus (have q0 := Blk.cell hcl.1 0; have q1 := Blk.cell hcl.1 1; have q2 := Blk.cell hcl.1 2; have q3 := conv_bs (P := Try.prog) (src := 22) (dst := 9) (c := oc) Try.underlying22 Try.underlying5 Try.underlying9 hcl.2; unfold S at q3; simp at q0 q1 q2; (focus (first | (go_simp; done) | (go_simp; first | rfl | (rw [if_neg] <;> first | rfl | omega)))))); (try simp only [Act.put, List.setIfInBounds_toArray, List.set])) | (refine Rg4.w4_skip (Rg4.unwant_of 21 33 false rfl rfl rfl) ?_; (try simp only [Act.put, List.setIfInBounds_toArray, List.set])))
        (first | (refine Rg4.w4_cl (Rg4.want_of 21 33 false rfl rfl rfl) rfl ?_; apply Exists.intro; refine ⟨fun w' hcl => ?_, ?_⟩; (focus (have q0 := Blk.cell hcl.1 0; have q1 := Blk.cell hcl.1 1; have q2 := Blk.cell hcl.1 2; have q3 := conv_bs (P := Try.prog) (src := 22) (dst := 9) (c := oc) Try.underlying22 Try.underlying5 Try.underlying9 hcl.2; unfold S at q3; simp at q0 q1 q2; (focus (first | (go_simp; done) | (go_simp; first | rfl | (rw [if_neg] <;> first | rfl | omega)))))); (try simp only [Act.put, List.setIfInBounds_toArray, List.set])) | (refine Rg4.w4_skip (Rg4.unwant_of 21 33 false rfl rfl rfl) ?_; (try simp only [Act.put, List.setIfInBounds_toArray, List.set])))
        refine Rg4.w4_skip (Rg4.unwant_of 21 33 false rfl rfl rfl) ?_
        (try simp only [Act.put, List.setIfInBounds_toArray, List.set])
        (first | (refine Rg4.w4_read (Rg4.want_of 21 33 false rfl rfl rfl) rfl rfl ?_; apply Exists.intro; refine ⟨fun w' hw' hcl' => ?_, ?_⟩; focus (subst hw'; (focus (first | (go_simp; done) | (go_simp; first | rfl | (rw [if_neg] <;> first | rfl | omega))))); (try simp only [Act.put, List.setIfInBounds_toArray, List.set])) | (refine Rg4.w4_skip (Rg4.unwant_of 21 33 false rfl rfl rfl) ?_; (try simp only [Act.put, List.setIfInBounds_toArray, List.set])))
        (first | (refine Rg4.w4_any (Rg4.want_of 21 33 false rfl rfl rfl) rfl ?_; apply Exists.intro; refine ⟨fun w' => ?_, ?_⟩; (focus (first | (go_simp; done) | (go_simp; first | rfl | (rw [if_neg] <;> first | rfl | omega)))); (try simp only [Act.put, List.setIfInBounds_toArray, List.set])) | (refine Rg4.w4_skip (Rg4.unwant_of 21 33 false rfl rfl rfl) ?_; (try simp only [Act.put, List.setIfInBounds_toArray, List.set])))
        (first | (refine Rg4.w4_any (Rg4.want_of 16 28 true rfl rfl rfl) rfl ?_; apply Exists.intro; refine ⟨fun w' => ?_, ?_⟩; (focus (first | (go_simp; done) | (go_simp; first | rfl | (rw [if_neg] <;> first | rfl | omega)))); (try simp only [Act.put, List.setIfInBounds_toArray, List.set])) | (refine Rg4.w4_skip (Rg4.unwant_of 16 28 true rfl rfl rfl) ?_; (try simp only [Act.put, List.setIfInBounds_toArray, List.set])))
        (refine Rg4.w4_any (Rg4.want_none rfl) rfl ?_; apply Exists.intro; refine ⟨fun w' => ?_, ?_⟩; (focus (first | (go_simp; done) | (go_simp; first | rfl | (rw [if_neg] <;> first | rfl | omega)))); (try simp only [Act.put, List.setIfInBounds_toArray, List.set]))
        (refine Rg4.w4_bar (Rg4.want_none rfl) rfl (fun w' hw' hcl' _ K hK => ?_); subst hw'; ((refine owp_store rfl st ?_; apply Exists.intro; apply Exists.intro; refine ⟨?_, ?_, ?_⟩; (focus (go_simp; try rfl)); (focus (go_simp; try rfl)); (first | with_reducible refine ⟨0, _, _, _, _, get0, rfl, rfl, ?_, ?_, ?_, ?_⟩ | with_reducible refine ⟨1, _, _, _, _, get1, rfl, rfl, ?_, ?_, ?_, ?_⟩ | with_reducible refine ⟨2, _, _, _, _, get2, rfl, rfl, ?_, ?_, ?_, ?_⟩ | with_reducible refine ⟨3, _, _, _, _, get3, rfl, rfl, ?_, ?_, ?_, ?_⟩ | with_reducible refine ⟨4, _, _, _, _, get4, rfl, rfl, ?_, ?_, ?_, ?_⟩ | with_reducible refine ⟨5, _, _, _, _, get5, rfl, rfl, ?_, ?_, ?_, ?_⟩ | with_reducible refine ⟨6, _, _, _, _, get6, rfl, rfl, ?_, ?_, ?_, ?_⟩ | with_reducible refine ⟨7, _, _, _, _, get7, rfl, rfl, ?_, ?_, ?_, ?_⟩); (kernel_rfl); (simp [Value.cells]); (rfl); (clear st; intro w st)); (try simp only [Value.cells, List.cons_append, List.nil_append, List.set, spl, putIt, pick, List.map_cons, List.map_nil, List.getElem?_cons_zero, List.getElem?_cons_succ, Option.getD_some, List.drop_succ_cons, List.drop_zero, List.drop_nil, List.append_nil, unB] at st); (try clear hc); have hc := st.facts; (try simp only [factsOf, blkI, blkFacts, rowI, byI, datI, nullI, oldI, penI, rdI, rdAnyI, rdOverI, Nat.zero_add, Nat.reduceAdd, and_true, true_and, and_self] at hc)); refine hK _ _ ⟨⟨st.blk (i := 5) rfl, st.oldBy (i := 3) rfl HO.out.1⟩, ?_⟩; (try simp only [Act.put, List.setIfInBounds_toArray, List.set]))
        refine Rg4.w4_nil (fun w' hw' hcl' _ => ?_); subst hw'; clear hcl'
        go_wp2_with fail
        have st' := st.keep [0, 1, 2, 3, 4] (by decide) (by simp)
        exact ⟨⟨j + 1, by omega, by go_num, st'⟩, by simp [intOf]; omega⟩
      · have hlb : ob.length ≤ 300 := by have := HO.out.2; simp only at this; omega
        have hrem : ((ok.tmod 2 : Int) == 0) = false := by simp [hk]
        have hrem2 : ((ok.tmod 2 : Int) != 0) = true := by simp [hk]
        have hout : ({ k := ok, n := on, b := ob, a := oa, m := om, c := oc } : OpV).out = numB ob.length ++ ob := by unfold OpV.out; simp only [hk, if_false]
        rw [hout] at st
        have hrd := rdText_back ob (outV (l.drop (j + 1))) hlb
        have HR := Lib.hid hrd
        have hlen : (outV l).length ≤ 100000 := outV_len l W0 HOK.out (by have := HN.out; omega)
        have hlen2 : (numB ob.length ++ ob ++ outV (l.drop (j + 1))).length ≤ 100000 := Nat.le_trans (by rw [← hout]; exact hjo) hlen
        clear hout hrd hlen
        refine Rg4.wp_region4_eq #[0, 1, 3, 7, 15, 31, 63, 127, 127, 383, 1023, 127, 2175, 8191, 16383, 32767, 65535, 131071, 262143, 524287, 1048575, 2097151, 4194303, 8388607, 16777215, 4194303, 37748735, 104857599, 268435455, 536870911, 1073741823, 2147483647] [10, 23, 31] [0, 24] (fun W => Blk W b5 [.int .i64 ok, .int .i64 on, .slice oa om oc] ∧ By W oa om ob) [0, 1, 2, 3, 4, 5, 6, 7, 8, 9, 11, 12, 10, 13, 14, 15, 16, 17, 18, 19, 20, 21, 22, 25, 26, 27, 23, 24, 28, 29, 30, 31] (by kernel_rfl) (by kernel_rfl) (by kernel_rfl) (by kernel_rfl) (show Rg4.PB _ by repeat (first | with_reducible exact Rg4.pb_body | with_reducible exact Rg4.pb_bodyD rfl | with_reducible refine Rg4.pb_then ?_ | with_reducible refine Rg4.pb_inBlock ?_ | with_reducible refine Rg4.pb_noGoto ?_)) (⟨st.drew.blk (i := 5) rfl, st.drew.oldBy (i := 3) rfl HO.out.1⟩) ?_
        replace st := st.drew
        change Rg4.wp4 _ _ _ _ _ _ _ _ _ (World.drew _) _ _
        generalize World.drew _ = w at st ⊢
        (try clear hc); have hc := st.facts; (try simp only [factsOf, blkI, blkFacts, rowI, byI, datI, nullI, oldI, penI, rdI, rdAnyI, rdOverI, Nat.zero_add, Nat.reduceAdd, and_true, true_and, and_self] at hc)
        (refine Rg4.w4_read (Rg4.want_none rfl) rfl rfl ?_; apply Exists.intro; refine ⟨fun w' hw' hcl' => ?_, ?_⟩; focus (subst hw'; (try (have q4 := conv_bs (P := Try.prog) (src := 22) (dst := 9) (c := c') Try.underlying22 Try.underlying5 Try.underlying9 (st.by (i := 6) rfl); unfold S at q4)); (focus (first | (go_simp; done) | (go_simp; first | rfl | (rw [if_neg] <;> first | rfl | omega))))); (try simp only [Act.put, List.setIfInBounds_toArray, List.set]))
        (refine Rg4.w4_any (Rg4.want_none rfl) rfl ?_; apply Exists.intro; refine ⟨fun w' => ?_, ?_⟩; (focus (first | (go_simp; done) | (go_simp; first | rfl | (rw [if_neg] <;> first | rfl | omega)))); (try simp only [Act.put, List.setIfInBounds_toArray, List.set]))
        (first | (refine Rg4.w4_any (Rg4.want_of 1 13 true rfl rfl rfl) rfl ?_; apply Exists.intro; refine ⟨fun w' => ?_, ?_⟩; (focus (first | (go_simp; done) | (go_simp; first | rfl | (rw [if_neg] <;> first | rfl | omega)))); (try simp only [Act.put, List.setIfInBounds_toArray, List.set])) | (refine Rg4.w4_skip (Rg4.unwant_of 1 13 true rfl rfl rfl) ?_; (try simp only [Act.put, List.setIfInBounds_toArray, List.set])))
        (first | (refine Rg4.w4_cl (Rg4.want_of 1 13 true rfl rfl rfl) rfl ?_; apply Exists.intro; refine ⟨fun w' hcl => ?_, ?_⟩; (focus (have q0 := Blk.cell hcl.1 0; have q1 := Blk.cell hcl.1 1; have q2 := Blk.cell hcl.1 2; have q3 := conv_bs (P := Try.prog) (src := 22) (dst := 9) (c := oc) Try.underlying22 Try.underlying5 Try.underlying9 hcl.2; unfold S at q3; simp at q0 q1 q2; (focus (first | (go_simp; done) | (go_simp; first | rfl | (rw [if_neg] <;> first | rfl | omega)))))); (try simp only [Act.put, List.setIfInBounds_toArray, List.set])) | (refine Rg4.w4_skip (Rg4.unwant_of 1 13 true rfl rfl rfl) ?_; (try simp only [Act.put, List.setIfInBounds_toArray, List.set])))
        (first | (refine Rg4.w4_any (Rg4.want_of 1 13 true rfl rfl rfl) rfl ?_; apply Exists.intro; refine ⟨fun w' => ?_, ?_⟩; (focus (first | (go_simp; done) | (go_simp; first | rfl | (rw [if_neg] <;> first | rfl | omega)))); (try simp only [Act.put, List.setIfInBounds_toArray, List.set])) | (refine Rg4.w4_skip (Rg4.unwant_of 1 13 true rfl rfl rfl) ?_; (try simp only [Act.put, List.setIfInBounds_toArray, List.set])))
        (first | (refine Rg4.w4_any (Rg4.want_of 1 13 true rfl rfl rfl) rfl ?_; apply Exists.intro; refine ⟨fun w' => ?_, ?_⟩; (focus (first | (go_simp; done) | (go_simp; first | rfl | (rw [if_neg] <;> first | rfl | omega)))); (try simp only [Act.put, List.setIfInBounds_toArray, List.set])) | (refine Rg4.w4_skip (Rg4.unwant_of 1 13 true rfl rfl rfl) ?_; (try simp only [Act.put, List.setIfInBounds_toArray, List.set])))
        (first | (refine Rg4.w4_any (Rg4.want_of 1 13 true rfl rfl rfl) rfl ?_; apply Exists.intro; refine ⟨fun w' => ?_, ?_⟩; (focus (first | (go_simp; done) | (go_simp; first | rfl | (rw [if_neg] <;> first | rfl | omega)))); (try simp only [Act.put, List.setIfInBounds_toArray, List.set])) | (refine Rg4.w4_skip (Rg4.unwant_of 1 13 true rfl rfl rfl) ?_; (try simp only [Act.put, List.setIfInBounds_toArray, List.set])))
        (first | (refine Rg4.w4_any (Rg4.want_of 6 18 false rfl rfl rfl) rfl ?_; apply Exists.intro; refine ⟨fun w' => ?_, ?_⟩; (focus (first | (go_simp; done) | (go_simp; first | rfl | (rw [if_neg] <;> first | rfl | omega)))); (try simp only [Act.put, List.setIfInBounds_toArray, List.set])) | (refine Rg4.w4_skip (Rg4.unwant_of 6 18 false rfl rfl rfl) ?_; (try simp only [Act.put, List.setIfInBounds_toArray, List.set])))
        (first | (refine Rg4.w4_any (Rg4.want_of 6 18 false rfl rfl rfl) rfl ?_; apply Exists.intro; refine ⟨fun w' => ?_, ?_⟩; (focus (first | (go_simp; done) | (go_simp; first | rfl | (rw [if_neg] <;> first | rfl | omega)))); (try simp only [Act.put, List.setIfInBounds_toArray, List.set])) | (refine Rg4.w4_skip (Rg4.unwant_of 6 18 false rfl rfl rfl) ?_; (try simp only [Act.put, List.setIfInBounds_toArray, List.set])))
        (first | (refine Rg4.w4_cl (Rg4.want_of 6 18 false rfl rfl rfl) rfl ?_; apply Exists.intro; refine ⟨fun w' hcl => ?_, ?_⟩; (focus (have q0 := Blk.cell hcl.1 0; have q1 := Blk.cell hcl.1 1; have q2 := Blk.cell hcl.1 2; have q3 := conv_bs (P := Try.prog) (src := 22) (dst := 9) (c := oc) Try.underlying22 Try.underlying5 Try.underlying9 hcl.2; unfold S at q3; simp at q0 q1 q2; (focus (first | (go_simp; done) | (go_simp; first | rfl | (rw [if_neg] <;> first | rfl | omega)))))); (try simp only [Act.put, List.setIfInBounds_toArray, List.set])) | (refine Rg4.w4_skip (Rg4.unwant_of 6 18 false rfl rfl rfl) ?_; (try simp only [Act.put, List.setIfInBounds_toArray, List.set])))
        (first | (refine Rg4.w4_any (Rg4.want_of 6 18 false rfl rfl rfl) rfl ?_; apply Exists.intro; refine ⟨fun w' => ?_, ?_⟩; (focus (first | (go_simp; done) | (go_simp; first | rfl | (rw [if_neg] <;> first | rfl | omega)))); (try simp only [Act.put, List.setIfInBounds_toArray, List.set])) | (refine Rg4.w4_skip (Rg4.unwant_of 6 18 false rfl rfl rfl) ?_; (try simp only [Act.put, List.setIfInBounds_toArray, List.set])))
        (first | (refine Rg4.w4_cl (Rg4.want_of 6 18 false rfl rfl rfl) rfl ?_; apply Exists.intro; refine ⟨fun w' hcl => ?_, ?_⟩; (focus (have q0 := Blk.cell hcl.1 0; have q1 := Blk.cell hcl.1 1; have q2 := Blk.cell hcl.1 2; have q3 := conv_bs (P := Try.prog) (src := 22) (dst := 9) (c := oc) Try.underlying22 Try.underlying5 Try.underlying9 hcl.2; unfold S at q3; simp at q0 q1 q2; (focus (first | (go_simp; done) | (go_simp; first | rfl | (rw [if_neg] <;> first | rfl | omega)))))); (try simp only [Act.put, List.setIfInBounds_toArray, List.set])) | (refine Rg4.w4_skip (Rg4.unwant_of 6 18 false rfl rfl rfl) ?_; (try simp only [Act.put, List.setIfInBounds_toArray, List.set])))
        refine Rg4.w4_skip (Rg4.unwant_of 6 18 false rfl rfl rfl) ?_
        (try simp only [Act.put, List.setIfInBounds_toArray, List.set])
        (first | (refine Rg4.w4_any (Rg4.want_of 6 18 false rfl rfl rfl) rfl ?_; apply Exists.intro; refine ⟨fun w' => ?_, ?_⟩; (focus (first | (go_simp; done) | (go_simp; first | rfl | (rw [if_neg] <;> first | rfl | omega)))); (try simp only [Act.put, List.setIfInBounds_toArray, List.set])) | (refine Rg4.w4_skip (Rg4.unwant_of 6 18 false rfl rfl rfl) ?_; (try simp only [Act.put, List.setIfInBounds_toArray, List.set])))
        (first | (refine Rg4.w4_any (Rg4.want_of 1 13 true rfl rfl rfl) rfl ?_; apply Exists.intro; refine ⟨fun w' => ?_, ?_⟩; (focus (first | (go_simp; done) | (go_simp; first | rfl | (rw [if_neg] <;> first | rfl | omega)))); (try simp only [Act.put, List.setIfInBounds_toArray, List.set])) | (refine Rg4.w4_skip (Rg4.unwant_of 1 13 true rfl rfl rfl) ?_; (try simp only [Act.put, List.setIfInBounds_toArray, List.set])))
        (refine Rg4.w4_any (Rg4.want_none rfl) rfl ?_; apply Exists.intro; refine ⟨fun w' => ?_, ?_⟩; (focus (first | (go_simp; done) | (go_simp; first | rfl | (rw [if_neg] <;> first | rfl | omega)))); (try simp only [Act.put, List.setIfInBounds_toArray, List.set]))
        (refine Rg4.w4_any (Rg4.want_none rfl) rfl ?_; apply Exists.intro; refine ⟨fun w' => ?_, ?_⟩; (focus (first | (go_simp; done) | (go_simp; first | rfl | (rw [if_neg] <;> first | rfl | omega)))); (try simp only [Act.put, List.setIfInBounds_toArray, List.set]))
        (first | (refine Rg4.w4_any (Rg4.want_of 16 28 true rfl rfl rfl) rfl ?_; apply Exists.intro; refine ⟨fun w' => ?_, ?_⟩; (focus (first | (go_simp; done) | (go_simp; first | rfl | (rw [if_neg] <;> first | rfl | omega)))); (try simp only [Act.put, List.setIfInBounds_toArray, List.set])) | (refine Rg4.w4_skip (Rg4.unwant_of 16 28 true rfl rfl rfl) ?_; (try simp only [Act.put, List.setIfInBounds_toArray, List.set])))
        (first | (refine Rg4.w4_cl (Rg4.want_of 16 28 true rfl rfl rfl) rfl ?_; apply Exists.intro; refine ⟨fun w' hcl => ?_, ?_⟩; (focus (have q0 := Blk.cell hcl.1 0; have q1 := Blk.cell hcl.1 1; have q2 := Blk.cell hcl.1 2; have q3 := conv_bs (P := Try.prog) (src := 22) (dst := 9) (c := oc) Try.underlying22 Try.underlying5 Try.underlying9 hcl.2; unfold S at q3; simp at q0 q1 q2; (focus (first | (go_simp; done) | (go_simp; first | rfl | (rw [if_neg] <;> first | rfl | omega)))))); (try simp only [Act.put, List.setIfInBounds_toArray, List.set])) | (refine Rg4.w4_skip (Rg4.unwant_of 16 28 true rfl rfl rfl) ?_; (try simp only [Act.put, List.setIfInBounds_toArray, List.set])))
        (first | (refine Rg4.w4_any (Rg4.want_of 16 28 true rfl rfl rfl) rfl ?_; apply Exists.intro; refine ⟨fun w' => ?_, ?_⟩; (focus (first | (go_simp; done) | (go_simp; first | rfl | (rw [if_neg] <;> first | rfl | omega)))); (try simp only [Act.put, List.setIfInBounds_toArray, List.set])) | (refine Rg4.w4_skip (Rg4.unwant_of 16 28 true rfl rfl rfl) ?_; (try simp only [Act.put, List.setIfInBounds_toArray, List.set])))
        (first | (refine Rg4.w4_any (Rg4.want_of 16 28 true rfl rfl rfl) rfl ?_; apply Exists.intro; refine ⟨fun w' => ?_, ?_⟩; (focus (first | (go_simp; done) | (go_simp; first | rfl | (rw [if_neg] <;> first | rfl | omega)))); (try simp only [Act.put, List.setIfInBounds_toArray, List.set])) | (refine Rg4.w4_skip (Rg4.unwant_of 16 28 true rfl rfl rfl) ?_; (try simp only [Act.put, List.setIfInBounds_toArray, List.set])))
        (first | (refine Rg4.w4_any (Rg4.want_of 16 28 true rfl rfl rfl) rfl ?_; apply Exists.intro; refine ⟨fun w' => ?_, ?_⟩; (focus (first | (go_simp; done) | (go_simp; first | rfl | (rw [if_neg] <;> first | rfl | omega)))); (try simp only [Act.put, List.setIfInBounds_toArray, List.set])) | (refine Rg4.w4_skip (Rg4.unwant_of 16 28 true rfl rfl rfl) ?_; (try simp only [Act.put, List.setIfInBounds_toArray, List.set])))
        (first | (refine Rg4.w4_any (Rg4.want_of 21 33 false rfl rfl rfl) rfl ?_; apply Exists.intro; refine ⟨fun w' => ?_, ?_⟩; (focus (first | (go_simp; done) | (go_simp; first | rfl | (rw [if_neg] <;> first | rfl | omega)))); (try simp only [Act.put, List.setIfInBounds_toArray, List.set])) | (refine Rg4.w4_skip (Rg4.unwant_of 21 33 false rfl rfl rfl) ?_; (try simp only [Act.put, List.setIfInBounds_toArray, List.set])))
        (first | (refine Rg4.w4_any (Rg4.want_of 21 33 false rfl rfl rfl) rfl ?_; apply Exists.intro; refine ⟨fun w' => ?_, ?_⟩; (focus (first | (go_simp; done) | (go_simp; first | rfl | (rw [if_neg] <;> first | rfl | omega)))); (try simp only [Act.put, List.setIfInBounds_toArray, List.set])) | (refine Rg4.w4_skip (Rg4.unwant_of 21 33 false rfl rfl rfl) ?_; (try simp only [Act.put, List.setIfInBounds_toArray, List.set])))
        (first | (refine Rg4.w4_cl (Rg4.want_of 21 33 false rfl rfl rfl) rfl ?_; apply Exists.intro; refine ⟨fun w' hcl => ?_, ?_⟩; (focus (have q0 := Blk.cell hcl.1 0; have q1 := Blk.cell hcl.1 1; have q2 := Blk.cell hcl.1 2; have q3 := conv_bs (P := Try.prog) (src := 22) (dst := 9) (c := oc) Try.underlying22 Try.underlying5 Try.underlying9 hcl.2; unfold S at q3; simp at q0 q1 q2; (focus (first | (go_simp; done) | (go_simp; first | rfl | (rw [if_neg] <;> first | rfl | omega)))))); (try simp only [Act.put, List.setIfInBounds_toArray, List.set])) | (refine Rg4.w4_skip (Rg4.unwant_of 21 33 false rfl rfl rfl) ?_; (try simp only [Act.put, List.setIfInBounds_toArray, List.set])))
        (first | (refine Rg4.w4_cl (Rg4.want_of 21 33 false rfl rfl rfl) rfl ?_; apply Exists.intro; refine ⟨fun w' hcl => ?_, ?_⟩; (focus (have q0 := Blk.cell hcl.1 0; have q1 := Blk.cell hcl.1 1; have q2 := Blk.cell hcl.1 2; have q3 := conv_bs (P := Try.prog) (src := 22) (dst := 9) (c := oc) Try.underlying22 Try.underlying5 Try.underlying9 hcl.2; unfold S at q3; simp at q0 q1 q2; (focus (first | (go_simp; done) | (go_simp; first | rfl | (rw [if_neg] <;> first | rfl | omega)))))); (try simp only [Act.put, List.setIfInBounds_toArray, List.set])) | (refine Rg4.w4_skip (Rg4.unwant_of 21 33 false rfl rfl rfl) ?_; (try simp only [Act.put, List.setIfInBounds_toArray, List.set])))
        refine Rg4.w4_bar (Rg4.want_of 21 33 false rfl rfl rfl) rfl (fun w' hw' hcl _ K hK => ?_)
        subst hw'
        go_wp2_with fail
        obtain ⟨fr', al', st', back⟩ := st.sub [4] (by decide) (by simp)
        (try simp only [Value.cells, List.cons_append, List.nil_append, List.set, spl, putIt, pick, List.map_cons, List.map_nil, List.getElem?_cons_zero, List.getElem?_cons_succ, Option.getD_some, List.drop_succ_cons, List.drop_zero, List.drop_nil, List.append_nil, unB] at st')
        refine (text_c st' 300 (by omega)).mono ?_
        clear st'
        intro en w hen
        unfold RdC at hen
        rw [HR.out] at hen
        obtain ⟨v, M, rfl, ⟨a', c', rfl, hc1, rfl⟩, st'⟩ := hen
        replace st := back _ _ (by simp) st'
        clear back st'
        (try simp only [Value.cells, List.cons_append, List.nil_append, List.set, spl, putIt, pick, List.map_cons, List.map_nil, List.getElem?_cons_zero, List.getElem?_cons_succ, Option.getD_some, List.drop_succ_cons, List.drop_zero, List.drop_nil, List.append_nil, unB] at st)
        (try clear hc); have hc := st.facts; (try simp only [factsOf, blkI, blkFacts, rowI, byI, datI, nullI, oldI, penI, rdI, rdAnyI, rdOverI, Nat.zero_add, Nat.reduceAdd, and_true, true_and, and_self] at hc)
        refine hK _ _ ⟨⟨st.blk (i := 5) rfl, st.oldBy (i := 3) rfl HO.out.1⟩, ?_⟩
        clear hK
        (try simp only [Act.put, List.setIfInBounds_toArray, List.set])
        (first | (refine Rg4.w4_read (Rg4.want_of 21 33 false rfl rfl rfl) rfl rfl ?_; apply Exists.intro; refine ⟨fun w' hw' hcl' => ?_, ?_⟩; focus (subst hw'; (try (have q4 := conv_bs (P := Try.prog) (src := 22) (dst := 9) (c := c') Try.underlying22 Try.underlying5 Try.underlying9 (st.by (i := 6) rfl); unfold S at q4)); (focus (first | (go_simp; done) | (go_simp; first | rfl | (rw [if_neg] <;> first | rfl | omega))))); (try simp only [Act.put, List.setIfInBounds_toArray, List.set])) | (refine Rg4.w4_skip (Rg4.unwant_of 21 33 false rfl rfl rfl) ?_; (try simp only [Act.put, List.setIfInBounds_toArray, List.set])))
        (first | (refine Rg4.w4_any (Rg4.want_of 21 33 false rfl rfl rfl) rfl ?_; apply Exists.intro; refine ⟨fun w' => ?_, ?_⟩; (focus (first | (go_simp; done) | (go_simp; first | rfl | (rw [if_neg] <;> first | rfl | omega)))); (try simp only [Act.put, List.setIfInBounds_toArray, List.set])) | (refine Rg4.w4_skip (Rg4.unwant_of 21 33 false rfl rfl rfl) ?_; (try simp only [Act.put, List.setIfInBounds_toArray, List.set])))
        (first | (refine Rg4.w4_any (Rg4.want_of 16 28 true rfl rfl rfl) rfl ?_; apply Exists.intro; refine ⟨fun w' => ?_, ?_⟩; (focus (first | (go_simp; done) | (go_simp; first | rfl | (rw [if_neg] <;> first | rfl | omega)))); (try simp only [Act.put, List.setIfInBounds_toArray, List.set])) | (refine Rg4.w4_skip (Rg4.unwant_of 16 28 true rfl rfl rfl) ?_; (try simp only [Act.put, List.setIfInBounds_toArray, List.set])))
        (refine Rg4.w4_any (Rg4.want_none rfl) rfl ?_; apply Exists.intro; refine ⟨fun w' => ?_, ?_⟩; (focus (first | (go_simp; done) | (go_simp; first | rfl | (rw [if_neg] <;> first | rfl | omega)))); (try simp only [Act.put, List.setIfInBounds_toArray, List.set]))
        (refine Rg4.w4_bar (Rg4.want_none rfl) rfl (fun w' hw' hcl' _ K hK => ?_); subst hw'; ((refine owp_store rfl st ?_; apply Exists.intro; apply Exists.intro; refine ⟨?_, ?_, ?_⟩; (focus (go_simp; try rfl)); (focus (go_simp; try rfl)); (first | with_reducible refine ⟨0, _, _, _, _, get0, rfl, rfl, ?_, ?_, ?_, ?_⟩ | with_reducible refine ⟨1, _, _, _, _, get1, rfl, rfl, ?_, ?_, ?_, ?_⟩ | with_reducible refine ⟨2, _, _, _, _, get2, rfl, rfl, ?_, ?_, ?_, ?_⟩ | with_reducible refine ⟨3, _, _, _, _, get3, rfl, rfl, ?_, ?_, ?_, ?_⟩ | with_reducible refine ⟨4, _, _, _, _, get4, rfl, rfl, ?_, ?_, ?_, ?_⟩ | with_reducible refine ⟨5, _, _, _, _, get5, rfl, rfl, ?_, ?_, ?_, ?_⟩ | with_reducible refine ⟨6, _, _, _, _, get6, rfl, rfl, ?_, ?_, ?_, ?_⟩ | with_reducible refine ⟨7, _, _, _, _, get7, rfl, rfl, ?_, ?_, ?_, ?_⟩); (kernel_rfl); (simp [Value.cells]); (rfl); (clear st; intro w st)); (try simp only [Value.cells, List.cons_append, List.nil_append, List.set, spl, putIt, pick, List.map_cons, List.map_nil, List.getElem?_cons_zero, List.getElem?_cons_succ, Option.getD_some, List.drop_succ_cons, List.drop_zero, List.drop_nil, List.append_nil, unB] at st); (try clear hc); have hc := st.facts; (try simp only [factsOf, blkI, blkFacts, rowI, byI, datI, nullI, oldI, penI, rdI, rdAnyI, rdOverI, Nat.zero_add, Nat.reduceAdd, and_true, true_and, and_self] at hc)); refine hK _ _ ⟨⟨st.blk (i := 5) rfl, st.oldBy (i := 3) rfl HO.out.1⟩, ?_⟩; (try simp only [Act.put, List.setIfInBounds_toArray, List.set]))
        refine Rg4.w4_nil (fun w' hw' hcl' _ => ?_); subst hw'; clear hcl'
        go_wp2_with fail
        have st' := st.keep [0, 1, 2, 3, 4] (by decide) (by simp)
        exact ⟨⟨j + 1, by omega, by go_num, st'⟩, by simp [intOf]; omega⟩
    · obtain rfl : j = n := by omega
      go_wp2_with fail
      go_end0
      have e : outV (l.drop j) = [] := by rw [List.drop_of_length_le (by have := HN.out; omega)]; rfl
      rw [e] at st
      exact ⟨_, rfl, st⟩
end Go.Proofs.Ytabadgpebhiigaa
