/- Credentials got: cred.Get. -/
import Derived.Test.YtekngjkjgmplpaaChkL
import Derived.Test.YtekngjkjgmplpaaCredA
import Derived.Deep.Onto
import Derived.Test.YtekngjkjgmplpaaChkG
namespace Go.Proofs.Ytekngjkjgmplpaa
set_option linter.unusedSimpArgs false
set_option linter.unusedVariables false
open Go Go.RowKit
/-- One behind another. -/
def bd {α β : Type} (r : Except Int (α × List UInt8)) (f : α → List UInt8 → Except Int β) : Except Int β := match r with | .error e => .error e | .ok p => f p.1 p.2
theorem bd_er {α β : Type} (e : Int) (f : α → List UInt8 → Except Int β) : bd (.error e) f = .error e := rfl
theorem bd_ok {α β : Type} (x : α) (ys : List UInt8) (f : α → List UInt8 → Except Int β) : bd (.ok (x, ys)) f = f x ys := rfl
def okCr (c : CredT) (ys : List UInt8) : Except Int (CredT × List UInt8) := if credR c = true then .ok (c, ys) else .error 11
/-- The next credential. -/
def rdCred (xs : List UInt8) : Except Int (CredT × List UInt8) :=
  bd (rdNumber 9223372036854775807 xs) fun n ys => if n < 1 ∨ 4 < n then .error 11 else
  bd (rdRole ys) fun h zs => if n = 1 then bd (rdName zs) fun w us => okCr ⟨1, h, w, nR, nR, []⟩ us
    else bd (rdRole zs) fun b us => if n = 2 then okCr ⟨2, h, [], b, nR, []⟩ us else if n = 3 then bd (rdName us) fun e vs => okCr ⟨3, h, [], b, nR, e⟩ vs else bd (rdRole us) fun c vs => okCr ⟨4, h, [], b, c, []⟩ vs
theorem rdRole_le {xs ys : List UInt8} {h : Role} (hr : rdRole xs = .ok (h, ys)) : ys.length ≤ xs.length ∧ roleR h = true := by
  unfold rdRole at hr
  cases h1 : rdName xs with
  | error e => rw [h1] at hr; simp at hr
  | ok p =>
    obtain ⟨o, zs⟩ := p
    rw [h1] at hr
    simp only at hr
    cases h2 : rdName zs with
    | error e => rw [h2] at hr; simp at hr
    | ok q =>
      obtain ⟨d, us⟩ := q
      rw [h2] at hr
      simp at hr
      obtain ⟨rfl, rfl⟩ := hr
      have a1 := rdName_le h1
      have a2 := rdName_le h2
      exact ⟨by omega, by simp [roleR, a1.2, a2.2]⟩
theorem rdNumber_le {most : Int} {xs ys : List UInt8} {n : Nat} (hr : rdNumber most xs = .ok (n, ys)) : ys.length ≤ xs.length := by
  unfold rdNumber at hr
  cases h : rdNum xs with
  | error e => rw [h] at hr; simp at hr
  | ok p =>
    obtain ⟨m, zs⟩ := p
    rw [h] at hr
    simp only at hr
    have := rdNum_lt h
    split at hr
    · simp at hr
    · simp at hr; obtain ⟨rfl, rfl⟩ := hr; omega
set_option maxRecDepth 100000 in
set_option maxHeartbeats 2000000 in
theorem credGet_c {fr al : Nat → Prop} {w : World} {r : Nat} {xs : List UInt8} (st : Own fr al w [rdI r xs] w) (hl : xs.length ≤ 100000) :
    Calls Try.prog 124 #[.pointer (some ⟨r, 0, none⟩)] w (RdC fr al w r (rdCred xs) fun s v M => v = cV s ∧ M = []) := by
  go_enter Try.func124, Try.ntmps124
  go_wp2_with ((((with_reducible refine wl_alloc ?_ (fun K hK => ?_)); rfl; refine owp_alloc (o := ⟨some 2, _, _, _, _, _⟩) rfl st ?_; apply Exists.intro; apply Exists.intro; refine ⟨?_, ?_⟩; (focus (first | (go_simp; done) | (go_simp; rfl))); (clear st; intro b2 w hb st; clear hb))); (try simp only [Value.cells, List.cons_append, List.nil_append, List.set, spl, putIt, pick, List.map_cons, List.map_nil, List.getElem?_cons_zero, List.getElem?_cons_succ, Option.getD_some, List.drop_succ_cons, List.drop_zero, List.drop_nil, List.append_nil, unB] at st); (try clear hc); have hc := st.facts; (try simp only [factsOf, blkI, blkFacts, rowI, byI, datI, nullI, oldI, penI, rdI, rdAnyI, rdOverI, Nat.zero_add, Nat.reduceAdd, and_true, true_and, and_self] at hc))
  obtain ⟨fr', al', st', back⟩ := st.sub [0] (by decide) (by simp)
  (try simp only [Value.cells, List.cons_append, List.nil_append, List.set, spl, putIt, pick, List.map_cons, List.map_nil, List.getElem?_cons_zero, List.getElem?_cons_succ, Option.getD_some, List.drop_succ_cons, List.drop_zero, List.drop_nil, List.append_nil, unB] at st')
  refine (number_c st' 9223372036854775807).mono ?_
  clear st'
  intro en w hen
  unfold RdC at hen
  cases hr : rdNumber 9223372036854775807 xs with
  | error e =>
    rw [hr] at hen
    obtain ⟨rfl, st'⟩ := hen
    replace st := back _ _ (by simp) st'
    clear back st'
    (try simp only [Value.cells, List.cons_append, List.nil_append, List.set, spl, putIt, pick, List.map_cons, List.map_nil, List.getElem?_cons_zero, List.getElem?_cons_succ, Option.getD_some, List.drop_succ_cons, List.drop_zero, List.drop_nil, List.append_nil, unB] at st)
    (try clear hc); have hc := st.facts; (try simp only [factsOf, blkI, blkFacts, rowI, byI, datI, nullI, oldI, penI, rdI, rdAnyI, rdOverI, Nat.zero_add, Nat.reduceAdd, and_true, true_and, and_self] at hc)
    have H1 : Hid (rdCred xs = .error e) := Lib.hid (by simp [rdCred,  hr, bd])
    clear hr
    go_wp2_with fail
    refine ⟨rfl, ?_⟩
    unfold RdC
    rw [H1.out]
    have st' := st.keep [0] (by decide) (by simp)
    exact ⟨rfl, by simpa [pick] using st'⟩
  | ok p =>
    obtain ⟨n, ys⟩ := p
    rw [hr] at hen
    obtain ⟨v, M, rfl, ⟨rfl, rfl⟩, st'⟩ := hen
    replace st := back _ _ (by simp) st'
    clear back st'
    (try simp only [Value.cells, List.cons_append, List.nil_append, List.set, spl, putIt, pick, List.map_cons, List.map_nil, List.getElem?_cons_zero, List.getElem?_cons_succ, Option.getD_some, List.drop_succ_cons, List.drop_zero, List.drop_nil, List.append_nil, unB] at st)
    (try clear hc); have hc := st.facts; (try simp only [factsOf, blkI, blkFacts, rowI, byI, datI, nullI, oldI, penI, rdI, rdAnyI, rdOverI, Nat.zero_add, Nat.reduceAdd, and_true, true_and, and_self] at hc)
    have hl0 := rdNumber_le hr
    have HR0 := Lib.hid hr
    clear hr
    match n, HR0 with
    | 0, HR0 =>
      have H1 : Hid (rdCred xs = .error 11) := Lib.hid (by simp [rdCred, HR0.out, bd])
      go_wp2_with ((first
            | ((with_reducible refine wl_alloc ?_ (fun K hK => ?_)); rfl; refine owp_alloc (o := ⟨some 3, _, _, _, _, _⟩) rfl st ?_; apply Exists.intro; apply Exists.intro; refine ⟨?_, ?_⟩; (focus (first | (go_simp; done) | (go_simp; rfl))); (clear st; intro b3 w hb st; clear hb))
            | ((with_reducible refine wl_store ?_ (fun K hK => ?_)); rfl; refine owp_store rfl st ?_; apply Exists.intro; apply Exists.intro; refine ⟨?_, ?_, ?_⟩; (focus (go_simp; try rfl)); (focus (go_simp; try rfl)); (with_reducible refine ⟨2, _, _, _, _, get2, rfl, rfl, ?_, ?_, ?_, ?_⟩); (kernel_rfl); (simp [Value.cells]); (rfl); (clear st; intro w st))); (try simp only [Value.cells, List.cons_append, List.nil_append, List.set, spl, putIt, pick, List.map_cons, List.map_nil, List.getElem?_cons_zero, List.getElem?_cons_succ, Option.getD_some, List.drop_succ_cons, List.drop_zero, List.drop_nil, List.append_nil, unB] at st); (try clear hc); have hc := st.facts; (try simp only [factsOf, blkI, blkFacts, rowI, byI, datI, nullI, oldI, penI, rdI, rdAnyI, rdOverI, Nat.zero_add, Nat.reduceAdd, and_true, true_and, and_self] at hc))
      obtain ⟨_, sq, ⟨_, hrd⟩, _⟩ := st.get (i := 0) (I := rdI r ys) get0
      have HRD := Lib.hid hrd.any
      clear hrd
      go_wp2_with fail
      refine (fail_any _ r 11 HRD.out (by decide)).mono ?_
      rintro en w' ⟨rfl, rfl⟩
      go_wp2_with fail
      refine ⟨rfl, ?_⟩
      unfold RdC
      rw [H1.out]
      have st' := (st.rdAny (i := 0) get0).keep [0] (by decide) (by simp)
      exact ⟨rfl, by simpa [pick] using st'⟩
    | 1, HR0 =>
      go_wp2_with ((first
            | ((with_reducible refine wl_alloc ?_ (fun K hK => ?_)); rfl; refine owp_alloc (o := ⟨some 3, _, _, _, _, _⟩) rfl st ?_; apply Exists.intro; apply Exists.intro; refine ⟨?_, ?_⟩; (focus (first | (go_simp; done) | (go_simp; rfl))); (clear st; intro b3 w hb st; clear hb))
            | ((with_reducible refine wl_store ?_ (fun K hK => ?_)); rfl; refine owp_store rfl st ?_; apply Exists.intro; apply Exists.intro; refine ⟨?_, ?_, ?_⟩; (focus (go_simp; try rfl)); (focus (go_simp; try rfl)); (with_reducible refine ⟨2, _, _, _, _, get2, rfl, rfl, ?_, ?_, ?_, ?_⟩); (kernel_rfl); (simp [Value.cells]); (rfl); (clear st; intro w st))); (try simp only [Value.cells, List.cons_append, List.nil_append, List.set, spl, putIt, pick, List.map_cons, List.map_nil, List.getElem?_cons_zero, List.getElem?_cons_succ, Option.getD_some, List.drop_succ_cons, List.drop_zero, List.drop_nil, List.append_nil, unB] at st); (try clear hc); have hc := st.facts; (try simp only [factsOf, blkI, blkFacts, rowI, byI, datI, nullI, oldI, penI, rdI, rdAnyI, rdOverI, Nat.zero_add, Nat.reduceAdd, and_true, true_and, and_self] at hc))
      obtain ⟨fr', al', st', back⟩ := st.sub [0] (by decide) (by simp)
      (try simp only [Value.cells, List.cons_append, List.nil_append, List.set, spl, putIt, pick, List.map_cons, List.map_nil, List.getElem?_cons_zero, List.getElem?_cons_succ, Option.getD_some, List.drop_succ_cons, List.drop_zero, List.drop_nil, List.append_nil, unB] at st')
      refine (roleGet_c st' (by omega)).mono ?_
      clear st'
      intro en w hen
      unfold RdC at hen
      cases hr : rdRole ys with
      | error e =>
        rw [hr] at hen
        obtain ⟨rfl, st'⟩ := hen
        replace st := back _ _ (by simp) st'
        clear back st'
        (try simp only [Value.cells, List.cons_append, List.nil_append, List.set, spl, putIt, pick, List.map_cons, List.map_nil, List.getElem?_cons_zero, List.getElem?_cons_succ, Option.getD_some, List.drop_succ_cons, List.drop_zero, List.drop_nil, List.append_nil, unB] at st)
        (try clear hc); have hc := st.facts; (try simp only [factsOf, blkI, blkFacts, rowI, byI, datI, nullI, oldI, penI, rdI, rdAnyI, rdOverI, Nat.zero_add, Nat.reduceAdd, and_true, true_and, and_self] at hc)
        have H1 : Hid (rdCred xs = .error e) := Lib.hid (by simp [rdCred, HR0.out, hr, bd])
        clear hr
        go_wp2_with fail
        refine ⟨rfl, ?_⟩
        unfold RdC
        rw [H1.out]
        have st' := st.keep [0] (by decide) (by simp)
        exact ⟨rfl, by simpa [pick] using st'⟩
      | ok p =>
        obtain ⟨⟨ho, hd⟩, zs⟩ := p
        rw [hr] at hen
        obtain ⟨v, M, rfl, ⟨rfl, rfl⟩, st'⟩ := hen
        replace st := back _ _ (by simp) st'
        clear back st'
        (try simp only [Value.cells, List.cons_append, List.nil_append, List.set, spl, putIt, pick, List.map_cons, List.map_nil, List.getElem?_cons_zero, List.getElem?_cons_succ, Option.getD_some, List.drop_succ_cons, List.drop_zero, List.drop_nil, List.append_nil, unB] at st)
        (try clear hc); have hc := st.facts; (try simp only [factsOf, blkI, blkFacts, rowI, byI, datI, nullI, oldI, penI, rdI, rdAnyI, rdOverI, Nat.zero_add, Nat.reduceAdd, and_true, true_and, and_self] at hc)
        have hl1 := rdRole_le hr
        have hl1b := roleR_len hl1.2
        have HR1 := Lib.hid hr
        clear hr
        simp only at hl1b
        unfold rV S
        go_wp2_with ((((with_reducible refine wl_store ?_ (fun K hK => ?_)); rfl; refine owp_store rfl st ?_; apply Exists.intro; apply Exists.intro; refine ⟨?_, ?_, ?_⟩; (focus (go_simp; try rfl)); (focus (go_simp; try rfl)); (with_reducible refine ⟨2, _, _, _, _, get2, rfl, rfl, ?_, ?_, ?_, ?_⟩); (kernel_rfl); (simp [Value.cells]); (rfl); (clear st; intro w st))); (try simp only [Value.cells, List.cons_append, List.nil_append, List.set, spl, putIt, pick, List.map_cons, List.map_nil, List.getElem?_cons_zero, List.getElem?_cons_succ, Option.getD_some, List.drop_succ_cons, List.drop_zero, List.drop_nil, List.append_nil, unB] at st); (try clear hc); have hc := st.facts; (try simp only [factsOf, blkI, blkFacts, rowI, byI, datI, nullI, oldI, penI, rdI, rdAnyI, rdOverI, Nat.zero_add, Nat.reduceAdd, and_true, true_and, and_self] at hc))
        obtain ⟨fr', al', st', back⟩ := st.sub [0] (by decide) (by simp)
        (try simp only [Value.cells, List.cons_append, List.nil_append, List.set, spl, putIt, pick, List.map_cons, List.map_nil, List.getElem?_cons_zero, List.getElem?_cons_succ, Option.getD_some, List.drop_succ_cons, List.drop_zero, List.drop_nil, List.append_nil, unB] at st')
        refine (nameGet_c st' (by omega)).mono ?_
        clear st'
        intro en w hen
        unfold RdC at hen
        cases hr : rdName zs with
        | error e =>
          rw [hr] at hen
          obtain ⟨rfl, st'⟩ := hen
          replace st := back _ _ (by simp) st'
          clear back st'
          (try simp only [Value.cells, List.cons_append, List.nil_append, List.set, spl, putIt, pick, List.map_cons, List.map_nil, List.getElem?_cons_zero, List.getElem?_cons_succ, Option.getD_some, List.drop_succ_cons, List.drop_zero, List.drop_nil, List.append_nil, unB] at st)
          (try clear hc); have hc := st.facts; (try simp only [factsOf, blkI, blkFacts, rowI, byI, datI, nullI, oldI, penI, rdI, rdAnyI, rdOverI, Nat.zero_add, Nat.reduceAdd, and_true, true_and, and_self] at hc)
          have H1 : Hid (rdCred xs = .error e) := Lib.hid (by simp [rdCred, HR0.out, HR1.out, hr, bd])
          clear hr
          go_wp2_with fail
          refine ⟨rfl, ?_⟩
          unfold RdC
          rw [H1.out]
          have st' := st.keep [0] (by decide) (by simp)
          exact ⟨rfl, by simpa [pick] using st'⟩
        | ok p =>
          obtain ⟨nw, us⟩ := p
          rw [hr] at hen
          obtain ⟨v, M, rfl, ⟨rfl, rfl⟩, st'⟩ := hen
          replace st := back _ _ (by simp) st'
          clear back st'
          (try simp only [Value.cells, List.cons_append, List.nil_append, List.set, spl, putIt, pick, List.map_cons, List.map_nil, List.getElem?_cons_zero, List.getElem?_cons_succ, Option.getD_some, List.drop_succ_cons, List.drop_zero, List.drop_nil, List.append_nil, unB] at st)
          (try clear hc); have hc := st.facts; (try simp only [factsOf, blkI, blkFacts, rowI, byI, datI, nullI, oldI, penI, rdI, rdAnyI, rdOverI, Nat.zero_add, Nat.reduceAdd, and_true, true_and, and_self] at hc)
          have hl2 := rdName_le hr
          have hl2b := (nameR_len hl2.2).2
          have HR2 := Lib.hid hr
          clear hr
          unfold S
          have HQ := Lib.hid (fun W => credRight_any ⟨1, (ho, hd), nw, ([], []), ([], []), []⟩ W (by simp only [List.length_nil]; omega))
          unfold cV S at HQ
          simp only [nR] at HQ
          go_wp2_with ((((with_reducible refine wl_store ?_ (fun K hK => ?_)); rfl; refine owp_store rfl st ?_; apply Exists.intro; apply Exists.intro; refine ⟨?_, ?_, ?_⟩; (focus (go_simp; try rfl)); (focus (go_simp; try rfl)); (with_reducible refine ⟨2, _, _, _, _, get2, rfl, rfl, ?_, ?_, ?_, ?_⟩); (kernel_rfl); (simp [Value.cells]); (rfl); (clear st; intro w st))); (try simp only [Value.cells, List.cons_append, List.nil_append, List.set, spl, putIt, pick, List.map_cons, List.map_nil, List.getElem?_cons_zero, List.getElem?_cons_succ, Option.getD_some, List.drop_succ_cons, List.drop_zero, List.drop_nil, List.append_nil, unB] at st); (try clear hc); have hc := st.facts; (try simp only [factsOf, blkI, blkFacts, rowI, byI, datI, nullI, oldI, penI, rdI, rdAnyI, rdOverI, Nat.zero_add, Nat.reduceAdd, and_true, true_and, and_self] at hc))
          refine (HQ.out _).mono ?_
          rintro en w ⟨rfl, hx⟩
          replace st := st.ext hx
          clear hx
          (try clear hc); have hc := st.facts; (try simp only [factsOf, blkI, blkFacts, rowI, byI, datI, nullI, oldI, penI, rdI, rdAnyI, rdOverI, Nat.zero_add, Nat.reduceAdd, and_true, true_and, and_self] at hc)
          cases hcr : credR ⟨1, (ho, hd), nw, ([], []), ([], []), []⟩ with
          | true =>
            have H1 : Hid (rdCred xs = .ok (⟨1, (ho, hd), nw, ([], []), ([], []), []⟩, us)) := Lib.hid (by simp [rdCred, HR0.out, HR1.out, HR2.out, bd, okCr, nR, hcr])
            clear hcr HQ
            go_wp2_with ((((with_reducible refine wl_store ?_ (fun K hK => ?_)); rfl; refine owp_store rfl st ?_; apply Exists.intro; apply Exists.intro; refine ⟨?_, ?_, ?_⟩; (focus (go_simp; try rfl)); (focus (go_simp; try rfl)); (with_reducible refine ⟨1, _, _, _, _, get1, rfl, rfl, ?_, ?_, ?_, ?_⟩); (kernel_rfl); (simp [Value.cells]); (rfl); (clear st; intro w st))); (try simp only [Value.cells, List.cons_append, List.nil_append, List.set, spl, putIt, pick, List.map_cons, List.map_nil, List.getElem?_cons_zero, List.getElem?_cons_succ, Option.getD_some, List.drop_succ_cons, List.drop_zero, List.drop_nil, List.append_nil, unB] at st); (try clear hc); have hc := st.facts; (try simp only [factsOf, blkI, blkFacts, rowI, byI, datI, nullI, oldI, penI, rdI, rdAnyI, rdOverI, Nat.zero_add, Nat.reduceAdd, and_true, true_and, and_self] at hc))
            (try simp only [Exit.inBlock, Exit.then])
            refine bodyPost_cell rfl rfl (st.blk (i := 1) get1) Try.underlying32 rfl (by kernel_rfl) rfl ?_
            unfold RdC
            rw [H1.out]
            have st' := st.keep [0] (by decide) (by simp)
            exact ⟨_, [], rfl, ⟨rfl, rfl⟩, by simpa [pick] using st'⟩
          | false =>
            have H1 : Hid (rdCred xs = .error 11) := Lib.hid (by simp [rdCred, HR0.out, HR1.out, HR2.out, bd, okCr, nR, hcr])
            clear hcr HQ
            obtain ⟨_, sq, ⟨_, hrd⟩, _⟩ := st.get (i := 0) (I := rdI r us) get0
            have HRD := Lib.hid hrd.any
            clear hrd
            go_wp2_with fail
            refine (fail_any _ r 11 HRD.out (by decide)).mono ?_
            rintro en w' ⟨rfl, rfl⟩
            go_wp2_with fail
            refine ⟨rfl, ?_⟩
            unfold RdC
            rw [H1.out]
            have st' := (st.rdAny (i := 0) get0).keep [0] (by decide) (by simp)
            exact ⟨rfl, by simpa [pick] using st'⟩
    | 2, HR0 =>
      go_wp2_with ((first
            | ((with_reducible refine wl_alloc ?_ (fun K hK => ?_)); rfl; refine owp_alloc (o := ⟨some 3, _, _, _, _, _⟩) rfl st ?_; apply Exists.intro; apply Exists.intro; refine ⟨?_, ?_⟩; (focus (first | (go_simp; done) | (go_simp; rfl))); (clear st; intro b3 w hb st; clear hb))
            | ((with_reducible refine wl_store ?_ (fun K hK => ?_)); rfl; refine owp_store rfl st ?_; apply Exists.intro; apply Exists.intro; refine ⟨?_, ?_, ?_⟩; (focus (go_simp; try rfl)); (focus (go_simp; try rfl)); (with_reducible refine ⟨2, _, _, _, _, get2, rfl, rfl, ?_, ?_, ?_, ?_⟩); (kernel_rfl); (simp [Value.cells]); (rfl); (clear st; intro w st))); (try simp only [Value.cells, List.cons_append, List.nil_append, List.set, spl, putIt, pick, List.map_cons, List.map_nil, List.getElem?_cons_zero, List.getElem?_cons_succ, Option.getD_some, List.drop_succ_cons, List.drop_zero, List.drop_nil, List.append_nil, unB] at st); (try clear hc); have hc := st.facts; (try simp only [factsOf, blkI, blkFacts, rowI, byI, datI, nullI, oldI, penI, rdI, rdAnyI, rdOverI, Nat.zero_add, Nat.reduceAdd, and_true, true_and, and_self] at hc))
      obtain ⟨fr', al', st', back⟩ := st.sub [0] (by decide) (by simp)
      (try simp only [Value.cells, List.cons_append, List.nil_append, List.set, spl, putIt, pick, List.map_cons, List.map_nil, List.getElem?_cons_zero, List.getElem?_cons_succ, Option.getD_some, List.drop_succ_cons, List.drop_zero, List.drop_nil, List.append_nil, unB] at st')
      refine (roleGet_c st' (by omega)).mono ?_
      clear st'
      intro en w hen
      unfold RdC at hen
      cases hr : rdRole ys with
      | error e =>
        rw [hr] at hen
        obtain ⟨rfl, st'⟩ := hen
        replace st := back _ _ (by simp) st'
        clear back st'
        (try simp only [Value.cells, List.cons_append, List.nil_append, List.set, spl, putIt, pick, List.map_cons, List.map_nil, List.getElem?_cons_zero, List.getElem?_cons_succ, Option.getD_some, List.drop_succ_cons, List.drop_zero, List.drop_nil, List.append_nil, unB] at st)
        (try clear hc); have hc := st.facts; (try simp only [factsOf, blkI, blkFacts, rowI, byI, datI, nullI, oldI, penI, rdI, rdAnyI, rdOverI, Nat.zero_add, Nat.reduceAdd, and_true, true_and, and_self] at hc)
        have H1 : Hid (rdCred xs = .error e) := Lib.hid (by simp [rdCred, HR0.out, hr, bd])
        clear hr
        go_wp2_with fail
        refine ⟨rfl, ?_⟩
        unfold RdC
        rw [H1.out]
        have st' := st.keep [0] (by decide) (by simp)
        exact ⟨rfl, by simpa [pick] using st'⟩
      | ok p =>
        obtain ⟨⟨ho, hd⟩, zs⟩ := p
        rw [hr] at hen
        obtain ⟨v, M, rfl, ⟨rfl, rfl⟩, st'⟩ := hen
        replace st := back _ _ (by simp) st'
        clear back st'
        (try simp only [Value.cells, List.cons_append, List.nil_append, List.set, spl, putIt, pick, List.map_cons, List.map_nil, List.getElem?_cons_zero, List.getElem?_cons_succ, Option.getD_some, List.drop_succ_cons, List.drop_zero, List.drop_nil, List.append_nil, unB] at st)
        (try clear hc); have hc := st.facts; (try simp only [factsOf, blkI, blkFacts, rowI, byI, datI, nullI, oldI, penI, rdI, rdAnyI, rdOverI, Nat.zero_add, Nat.reduceAdd, and_true, true_and, and_self] at hc)
        have hl1 := rdRole_le hr
        have hl1b := roleR_len hl1.2
        have HR1 := Lib.hid hr
        clear hr
        simp only at hl1b
        unfold rV S
        go_wp2_with ((((with_reducible refine wl_store ?_ (fun K hK => ?_)); rfl; refine owp_store rfl st ?_; apply Exists.intro; apply Exists.intro; refine ⟨?_, ?_, ?_⟩; (focus (go_simp; try rfl)); (focus (go_simp; try rfl)); (with_reducible refine ⟨2, _, _, _, _, get2, rfl, rfl, ?_, ?_, ?_, ?_⟩); (kernel_rfl); (simp [Value.cells]); (rfl); (clear st; intro w st))); (try simp only [Value.cells, List.cons_append, List.nil_append, List.set, spl, putIt, pick, List.map_cons, List.map_nil, List.getElem?_cons_zero, List.getElem?_cons_succ, Option.getD_some, List.drop_succ_cons, List.drop_zero, List.drop_nil, List.append_nil, unB] at st); (try clear hc); have hc := st.facts; (try simp only [factsOf, blkI, blkFacts, rowI, byI, datI, nullI, oldI, penI, rdI, rdAnyI, rdOverI, Nat.zero_add, Nat.reduceAdd, and_true, true_and, and_self] at hc))
        obtain ⟨fr', al', st', back⟩ := st.sub [0] (by decide) (by simp)
        (try simp only [Value.cells, List.cons_append, List.nil_append, List.set, spl, putIt, pick, List.map_cons, List.map_nil, List.getElem?_cons_zero, List.getElem?_cons_succ, Option.getD_some, List.drop_succ_cons, List.drop_zero, List.drop_nil, List.append_nil, unB] at st')
        refine (roleGet_c st' (by omega)).mono ?_
        clear st'
        intro en w hen
        unfold RdC at hen
        cases hr : rdRole zs with
        | error e =>
          rw [hr] at hen
          obtain ⟨rfl, st'⟩ := hen
          replace st := back _ _ (by simp) st'
          clear back st'
          (try simp only [Value.cells, List.cons_append, List.nil_append, List.set, spl, putIt, pick, List.map_cons, List.map_nil, List.getElem?_cons_zero, List.getElem?_cons_succ, Option.getD_some, List.drop_succ_cons, List.drop_zero, List.drop_nil, List.append_nil, unB] at st)
          (try clear hc); have hc := st.facts; (try simp only [factsOf, blkI, blkFacts, rowI, byI, datI, nullI, oldI, penI, rdI, rdAnyI, rdOverI, Nat.zero_add, Nat.reduceAdd, and_true, true_and, and_self] at hc)
          have H1 : Hid (rdCred xs = .error e) := Lib.hid (by simp [rdCred, HR0.out, HR1.out, hr, bd])
          clear hr
          go_wp2_with fail
          refine ⟨rfl, ?_⟩
          unfold RdC
          rw [H1.out]
          have st' := st.keep [0] (by decide) (by simp)
          exact ⟨rfl, by simpa [pick] using st'⟩
        | ok p =>
          obtain ⟨⟨bo, bd'⟩, us⟩ := p
          rw [hr] at hen
          obtain ⟨v, M, rfl, ⟨rfl, rfl⟩, st'⟩ := hen
          replace st := back _ _ (by simp) st'
          clear back st'
          (try simp only [Value.cells, List.cons_append, List.nil_append, List.set, spl, putIt, pick, List.map_cons, List.map_nil, List.getElem?_cons_zero, List.getElem?_cons_succ, Option.getD_some, List.drop_succ_cons, List.drop_zero, List.drop_nil, List.append_nil, unB] at st)
          (try clear hc); have hc := st.facts; (try simp only [factsOf, blkI, blkFacts, rowI, byI, datI, nullI, oldI, penI, rdI, rdAnyI, rdOverI, Nat.zero_add, Nat.reduceAdd, and_true, true_and, and_self] at hc)
          have hl2 := rdRole_le hr
          have hl2b := roleR_len hl2.2
          have HR2 := Lib.hid hr
          clear hr
          simp only at hl2b
          unfold rV S
          have HQ := Lib.hid (fun W => credRight_any ⟨2, (ho, hd), [], (bo, bd'), ([], []), []⟩ W (by simp only [List.length_nil]; omega))
          unfold cV S at HQ
          simp only [nR] at HQ
          go_wp2_with ((((with_reducible refine wl_store ?_ (fun K hK => ?_)); rfl; refine owp_store rfl st ?_; apply Exists.intro; apply Exists.intro; refine ⟨?_, ?_, ?_⟩; (focus (go_simp; try rfl)); (focus (go_simp; try rfl)); (with_reducible refine ⟨2, _, _, _, _, get2, rfl, rfl, ?_, ?_, ?_, ?_⟩); (kernel_rfl); (simp [Value.cells]); (rfl); (clear st; intro w st))); (try simp only [Value.cells, List.cons_append, List.nil_append, List.set, spl, putIt, pick, List.map_cons, List.map_nil, List.getElem?_cons_zero, List.getElem?_cons_succ, Option.getD_some, List.drop_succ_cons, List.drop_zero, List.drop_nil, List.append_nil, unB] at st); (try clear hc); have hc := st.facts; (try simp only [factsOf, blkI, blkFacts, rowI, byI, datI, nullI, oldI, penI, rdI, rdAnyI, rdOverI, Nat.zero_add, Nat.reduceAdd, and_true, true_and, and_self] at hc))
          refine (HQ.out _).mono ?_
          rintro en w ⟨rfl, hx⟩
          replace st := st.ext hx
          clear hx
          (try clear hc); have hc := st.facts; (try simp only [factsOf, blkI, blkFacts, rowI, byI, datI, nullI, oldI, penI, rdI, rdAnyI, rdOverI, Nat.zero_add, Nat.reduceAdd, and_true, true_and, and_self] at hc)
          cases hcr : credR ⟨2, (ho, hd), [], (bo, bd'), ([], []), []⟩ with
          | true =>
            have H1 : Hid (rdCred xs = .ok (⟨2, (ho, hd), [], (bo, bd'), ([], []), []⟩, us)) := Lib.hid (by simp [rdCred, HR0.out, HR1.out, HR2.out, bd, okCr, nR, hcr])
            clear hcr HQ
            go_wp2_with ((((with_reducible refine wl_store ?_ (fun K hK => ?_)); rfl; refine owp_store rfl st ?_; apply Exists.intro; apply Exists.intro; refine ⟨?_, ?_, ?_⟩; (focus (go_simp; try rfl)); (focus (go_simp; try rfl)); (with_reducible refine ⟨1, _, _, _, _, get1, rfl, rfl, ?_, ?_, ?_, ?_⟩); (kernel_rfl); (simp [Value.cells]); (rfl); (clear st; intro w st))); (try simp only [Value.cells, List.cons_append, List.nil_append, List.set, spl, putIt, pick, List.map_cons, List.map_nil, List.getElem?_cons_zero, List.getElem?_cons_succ, Option.getD_some, List.drop_succ_cons, List.drop_zero, List.drop_nil, List.append_nil, unB] at st); (try clear hc); have hc := st.facts; (try simp only [factsOf, blkI, blkFacts, rowI, byI, datI, nullI, oldI, penI, rdI, rdAnyI, rdOverI, Nat.zero_add, Nat.reduceAdd, and_true, true_and, and_self] at hc))
            (try simp only [Exit.inBlock, Exit.then])
            refine bodyPost_cell rfl rfl (st.blk (i := 1) get1) Try.underlying32 rfl (by kernel_rfl) rfl ?_
            unfold RdC
            rw [H1.out]
            have st' := st.keep [0] (by decide) (by simp)
            exact ⟨_, [], rfl, ⟨rfl, rfl⟩, by simpa [pick] using st'⟩
          | false =>
            have H1 : Hid (rdCred xs = .error 11) := Lib.hid (by simp [rdCred, HR0.out, HR1.out, HR2.out, bd, okCr, nR, hcr])
            clear hcr HQ
            obtain ⟨_, sq, ⟨_, hrd⟩, _⟩ := st.get (i := 0) (I := rdI r us) get0
            have HRD := Lib.hid hrd.any
            clear hrd
            go_wp2_with fail
            refine (fail_any _ r 11 HRD.out (by decide)).mono ?_
            rintro en w' ⟨rfl, rfl⟩
            go_wp2_with fail
            refine ⟨rfl, ?_⟩
            unfold RdC
            rw [H1.out]
            have st' := (st.rdAny (i := 0) get0).keep [0] (by decide) (by simp)
            exact ⟨rfl, by simpa [pick] using st'⟩
    | 3, HR0 =>
      go_wp2_with ((first
            | ((with_reducible refine wl_alloc ?_ (fun K hK => ?_)); rfl; refine owp_alloc (o := ⟨some 3, _, _, _, _, _⟩) rfl st ?_; apply Exists.intro; apply Exists.intro; refine ⟨?_, ?_⟩; (focus (first | (go_simp; done) | (go_simp; rfl))); (clear st; intro b3 w hb st; clear hb))
            | ((with_reducible refine wl_store ?_ (fun K hK => ?_)); rfl; refine owp_store rfl st ?_; apply Exists.intro; apply Exists.intro; refine ⟨?_, ?_, ?_⟩; (focus (go_simp; try rfl)); (focus (go_simp; try rfl)); (with_reducible refine ⟨2, _, _, _, _, get2, rfl, rfl, ?_, ?_, ?_, ?_⟩); (kernel_rfl); (simp [Value.cells]); (rfl); (clear st; intro w st))); (try simp only [Value.cells, List.cons_append, List.nil_append, List.set, spl, putIt, pick, List.map_cons, List.map_nil, List.getElem?_cons_zero, List.getElem?_cons_succ, Option.getD_some, List.drop_succ_cons, List.drop_zero, List.drop_nil, List.append_nil, unB] at st); (try clear hc); have hc := st.facts; (try simp only [factsOf, blkI, blkFacts, rowI, byI, datI, nullI, oldI, penI, rdI, rdAnyI, rdOverI, Nat.zero_add, Nat.reduceAdd, and_true, true_and, and_self] at hc))
      obtain ⟨fr', al', st', back⟩ := st.sub [0] (by decide) (by simp)
      (try simp only [Value.cells, List.cons_append, List.nil_append, List.set, spl, putIt, pick, List.map_cons, List.map_nil, List.getElem?_cons_zero, List.getElem?_cons_succ, Option.getD_some, List.drop_succ_cons, List.drop_zero, List.drop_nil, List.append_nil, unB] at st')
      refine (roleGet_c st' (by omega)).mono ?_
      clear st'
      intro en w hen
      unfold RdC at hen
      cases hr : rdRole ys with
      | error e =>
        rw [hr] at hen
        obtain ⟨rfl, st'⟩ := hen
        replace st := back _ _ (by simp) st'
        clear back st'
        (try simp only [Value.cells, List.cons_append, List.nil_append, List.set, spl, putIt, pick, List.map_cons, List.map_nil, List.getElem?_cons_zero, List.getElem?_cons_succ, Option.getD_some, List.drop_succ_cons, List.drop_zero, List.drop_nil, List.append_nil, unB] at st)
        (try clear hc); have hc := st.facts; (try simp only [factsOf, blkI, blkFacts, rowI, byI, datI, nullI, oldI, penI, rdI, rdAnyI, rdOverI, Nat.zero_add, Nat.reduceAdd, and_true, true_and, and_self] at hc)
        have H1 : Hid (rdCred xs = .error e) := Lib.hid (by simp [rdCred, HR0.out, hr, bd])
        clear hr
        go_wp2_with fail
        refine ⟨rfl, ?_⟩
        unfold RdC
        rw [H1.out]
        have st' := st.keep [0] (by decide) (by simp)
        exact ⟨rfl, by simpa [pick] using st'⟩
      | ok p =>
        obtain ⟨⟨ho, hd⟩, zs⟩ := p
        rw [hr] at hen
        obtain ⟨v, M, rfl, ⟨rfl, rfl⟩, st'⟩ := hen
        replace st := back _ _ (by simp) st'
        clear back st'
        (try simp only [Value.cells, List.cons_append, List.nil_append, List.set, spl, putIt, pick, List.map_cons, List.map_nil, List.getElem?_cons_zero, List.getElem?_cons_succ, Option.getD_some, List.drop_succ_cons, List.drop_zero, List.drop_nil, List.append_nil, unB] at st)
        (try clear hc); have hc := st.facts; (try simp only [factsOf, blkI, blkFacts, rowI, byI, datI, nullI, oldI, penI, rdI, rdAnyI, rdOverI, Nat.zero_add, Nat.reduceAdd, and_true, true_and, and_self] at hc)
        have hl1 := rdRole_le hr
        have hl1b := roleR_len hl1.2
        have HR1 := Lib.hid hr
        clear hr
        simp only at hl1b
        unfold rV S
        go_wp2_with ((((with_reducible refine wl_store ?_ (fun K hK => ?_)); rfl; refine owp_store rfl st ?_; apply Exists.intro; apply Exists.intro; refine ⟨?_, ?_, ?_⟩; (focus (go_simp; try rfl)); (focus (go_simp; try rfl)); (with_reducible refine ⟨2, _, _, _, _, get2, rfl, rfl, ?_, ?_, ?_, ?_⟩); (kernel_rfl); (simp [Value.cells]); (rfl); (clear st; intro w st))); (try simp only [Value.cells, List.cons_append, List.nil_append, List.set, spl, putIt, pick, List.map_cons, List.map_nil, List.getElem?_cons_zero, List.getElem?_cons_succ, Option.getD_some, List.drop_succ_cons, List.drop_zero, List.drop_nil, List.append_nil, unB] at st); (try clear hc); have hc := st.facts; (try simp only [factsOf, blkI, blkFacts, rowI, byI, datI, nullI, oldI, penI, rdI, rdAnyI, rdOverI, Nat.zero_add, Nat.reduceAdd, and_true, true_and, and_self] at hc))
        obtain ⟨fr', al', st', back⟩ := st.sub [0] (by decide) (by simp)
        (try simp only [Value.cells, List.cons_append, List.nil_append, List.set, spl, putIt, pick, List.map_cons, List.map_nil, List.getElem?_cons_zero, List.getElem?_cons_succ, Option.getD_some, List.drop_succ_cons, List.drop_zero, List.drop_nil, List.append_nil, unB] at st')
        refine (roleGet_c st' (by omega)).mono ?_
        clear st'
        intro en w hen
        unfold RdC at hen
        cases hr : rdRole zs with
        | error e =>
          rw [hr] at hen
          obtain ⟨rfl, st'⟩ := hen
          replace st := back _ _ (by simp) st'
          clear back st'
          (try simp only [Value.cells, List.cons_append, List.nil_append, List.set, spl, putIt, pick, List.map_cons, List.map_nil, List.getElem?_cons_zero, List.getElem?_cons_succ, Option.getD_some, List.drop_succ_cons, List.drop_zero, List.drop_nil, List.append_nil, unB] at st)
          (try clear hc); have hc := st.facts; (try simp only [factsOf, blkI, blkFacts, rowI, byI, datI, nullI, oldI, penI, rdI, rdAnyI, rdOverI, Nat.zero_add, Nat.reduceAdd, and_true, true_and, and_self] at hc)
          have H1 : Hid (rdCred xs = .error e) := Lib.hid (by simp [rdCred, HR0.out, HR1.out, hr, bd])
          clear hr
          go_wp2_with fail
          refine ⟨rfl, ?_⟩
          unfold RdC
          rw [H1.out]
          have st' := st.keep [0] (by decide) (by simp)
          exact ⟨rfl, by simpa [pick] using st'⟩
        | ok p =>
          obtain ⟨⟨bo, bd'⟩, us⟩ := p
          rw [hr] at hen
          obtain ⟨v, M, rfl, ⟨rfl, rfl⟩, st'⟩ := hen
          replace st := back _ _ (by simp) st'
          clear back st'
          (try simp only [Value.cells, List.cons_append, List.nil_append, List.set, spl, putIt, pick, List.map_cons, List.map_nil, List.getElem?_cons_zero, List.getElem?_cons_succ, Option.getD_some, List.drop_succ_cons, List.drop_zero, List.drop_nil, List.append_nil, unB] at st)
          (try clear hc); have hc := st.facts; (try simp only [factsOf, blkI, blkFacts, rowI, byI, datI, nullI, oldI, penI, rdI, rdAnyI, rdOverI, Nat.zero_add, Nat.reduceAdd, and_true, true_and, and_self] at hc)
          have hl2 := rdRole_le hr
          have hl2b := roleR_len hl2.2
          have HR2 := Lib.hid hr
          clear hr
          simp only at hl2b
          unfold rV S
          go_wp2_with ((((with_reducible refine wl_store ?_ (fun K hK => ?_)); rfl; refine owp_store rfl st ?_; apply Exists.intro; apply Exists.intro; refine ⟨?_, ?_, ?_⟩; (focus (go_simp; try rfl)); (focus (go_simp; try rfl)); (with_reducible refine ⟨2, _, _, _, _, get2, rfl, rfl, ?_, ?_, ?_, ?_⟩); (kernel_rfl); (simp [Value.cells]); (rfl); (clear st; intro w st))); (try simp only [Value.cells, List.cons_append, List.nil_append, List.set, spl, putIt, pick, List.map_cons, List.map_nil, List.getElem?_cons_zero, List.getElem?_cons_succ, Option.getD_some, List.drop_succ_cons, List.drop_zero, List.drop_nil, List.append_nil, unB] at st); (try clear hc); have hc := st.facts; (try simp only [factsOf, blkI, blkFacts, rowI, byI, datI, nullI, oldI, penI, rdI, rdAnyI, rdOverI, Nat.zero_add, Nat.reduceAdd, and_true, true_and, and_self] at hc))
          obtain ⟨fr', al', st', back⟩ := st.sub [0] (by decide) (by simp)
          (try simp only [Value.cells, List.cons_append, List.nil_append, List.set, spl, putIt, pick, List.map_cons, List.map_nil, List.getElem?_cons_zero, List.getElem?_cons_succ, Option.getD_some, List.drop_succ_cons, List.drop_zero, List.drop_nil, List.append_nil, unB] at st')
          refine (nameGet_c st' (by omega)).mono ?_
          clear st'
          intro en w hen
          unfold RdC at hen
          cases hr : rdName us with
          | error e =>
            rw [hr] at hen
            obtain ⟨rfl, st'⟩ := hen
            replace st := back _ _ (by simp) st'
            clear back st'
            (try simp only [Value.cells, List.cons_append, List.nil_append, List.set, spl, putIt, pick, List.map_cons, List.map_nil, List.getElem?_cons_zero, List.getElem?_cons_succ, Option.getD_some, List.drop_succ_cons, List.drop_zero, List.drop_nil, List.append_nil, unB] at st)
            (try clear hc); have hc := st.facts; (try simp only [factsOf, blkI, blkFacts, rowI, byI, datI, nullI, oldI, penI, rdI, rdAnyI, rdOverI, Nat.zero_add, Nat.reduceAdd, and_true, true_and, and_self] at hc)
            have H1 : Hid (rdCred xs = .error e) := Lib.hid (by simp [rdCred, HR0.out, HR1.out, HR2.out, hr, bd])
            clear hr
            go_wp2_with fail
            refine ⟨rfl, ?_⟩
            unfold RdC
            rw [H1.out]
            have st' := st.keep [0] (by decide) (by simp)
            exact ⟨rfl, by simpa [pick] using st'⟩
          | ok p =>
            obtain ⟨we, vs⟩ := p
            rw [hr] at hen
            obtain ⟨v, M, rfl, ⟨rfl, rfl⟩, st'⟩ := hen
            replace st := back _ _ (by simp) st'
            clear back st'
            (try simp only [Value.cells, List.cons_append, List.nil_append, List.set, spl, putIt, pick, List.map_cons, List.map_nil, List.getElem?_cons_zero, List.getElem?_cons_succ, Option.getD_some, List.drop_succ_cons, List.drop_zero, List.drop_nil, List.append_nil, unB] at st)
            (try clear hc); have hc := st.facts; (try simp only [factsOf, blkI, blkFacts, rowI, byI, datI, nullI, oldI, penI, rdI, rdAnyI, rdOverI, Nat.zero_add, Nat.reduceAdd, and_true, true_and, and_self] at hc)
            have hl3 := rdName_le hr
            have hl3b := (nameR_len hl3.2).2
            have HR3 := Lib.hid hr
            clear hr
            unfold S
            have HQ := Lib.hid (fun W => credRight_any ⟨3, (ho, hd), [], (bo, bd'), ([], []), we⟩ W (by simp only [List.length_nil]; omega))
            unfold cV S at HQ
            simp only [nR] at HQ
            go_wp2_with ((((with_reducible refine wl_store ?_ (fun K hK => ?_)); rfl; refine owp_store rfl st ?_; apply Exists.intro; apply Exists.intro; refine ⟨?_, ?_, ?_⟩; (focus (go_simp; try rfl)); (focus (go_simp; try rfl)); (with_reducible refine ⟨2, _, _, _, _, get2, rfl, rfl, ?_, ?_, ?_, ?_⟩); (kernel_rfl); (simp [Value.cells]); (rfl); (clear st; intro w st))); (try simp only [Value.cells, List.cons_append, List.nil_append, List.set, spl, putIt, pick, List.map_cons, List.map_nil, List.getElem?_cons_zero, List.getElem?_cons_succ, Option.getD_some, List.drop_succ_cons, List.drop_zero, List.drop_nil, List.append_nil, unB] at st); (try clear hc); have hc := st.facts; (try simp only [factsOf, blkI, blkFacts, rowI, byI, datI, nullI, oldI, penI, rdI, rdAnyI, rdOverI, Nat.zero_add, Nat.reduceAdd, and_true, true_and, and_self] at hc))
            refine (HQ.out _).mono ?_
            rintro en w ⟨rfl, hx⟩
            replace st := st.ext hx
            clear hx
            (try clear hc); have hc := st.facts; (try simp only [factsOf, blkI, blkFacts, rowI, byI, datI, nullI, oldI, penI, rdI, rdAnyI, rdOverI, Nat.zero_add, Nat.reduceAdd, and_true, true_and, and_self] at hc)
            cases hcr : credR ⟨3, (ho, hd), [], (bo, bd'), ([], []), we⟩ with
            | true =>
              have H1 : Hid (rdCred xs = .ok (⟨3, (ho, hd), [], (bo, bd'), ([], []), we⟩, vs)) := Lib.hid (by simp [rdCred, HR0.out, HR1.out, HR2.out, HR3.out, bd, okCr, nR, hcr])
              clear hcr HQ
              go_wp2_with ((((with_reducible refine wl_store ?_ (fun K hK => ?_)); rfl; refine owp_store rfl st ?_; apply Exists.intro; apply Exists.intro; refine ⟨?_, ?_, ?_⟩; (focus (go_simp; try rfl)); (focus (go_simp; try rfl)); (with_reducible refine ⟨1, _, _, _, _, get1, rfl, rfl, ?_, ?_, ?_, ?_⟩); (kernel_rfl); (simp [Value.cells]); (rfl); (clear st; intro w st))); (try simp only [Value.cells, List.cons_append, List.nil_append, List.set, spl, putIt, pick, List.map_cons, List.map_nil, List.getElem?_cons_zero, List.getElem?_cons_succ, Option.getD_some, List.drop_succ_cons, List.drop_zero, List.drop_nil, List.append_nil, unB] at st); (try clear hc); have hc := st.facts; (try simp only [factsOf, blkI, blkFacts, rowI, byI, datI, nullI, oldI, penI, rdI, rdAnyI, rdOverI, Nat.zero_add, Nat.reduceAdd, and_true, true_and, and_self] at hc))
              (try simp only [Exit.inBlock, Exit.then])
              refine bodyPost_cell rfl rfl (st.blk (i := 1) get1) Try.underlying32 rfl (by kernel_rfl) rfl ?_
              unfold RdC
              rw [H1.out]
              have st' := st.keep [0] (by decide) (by simp)
              exact ⟨_, [], rfl, ⟨rfl, rfl⟩, by simpa [pick] using st'⟩
            | false =>
              have H1 : Hid (rdCred xs = .error 11) := Lib.hid (by simp [rdCred, HR0.out, HR1.out, HR2.out, HR3.out, bd, okCr, nR, hcr])
              clear hcr HQ
              obtain ⟨_, sq, ⟨_, hrd⟩, _⟩ := st.get (i := 0) (I := rdI r vs) get0
              have HRD := Lib.hid hrd.any
              clear hrd
              go_wp2_with fail
              refine (fail_any _ r 11 HRD.out (by decide)).mono ?_
              rintro en w' ⟨rfl, rfl⟩
              go_wp2_with fail
              refine ⟨rfl, ?_⟩
              unfold RdC
              rw [H1.out]
              have st' := (st.rdAny (i := 0) get0).keep [0] (by decide) (by simp)
              exact ⟨rfl, by simpa [pick] using st'⟩
    | 4, HR0 =>
      go_wp2_with ((first
            | ((with_reducible refine wl_alloc ?_ (fun K hK => ?_)); rfl; refine owp_alloc (o := ⟨some 3, _, _, _, _, _⟩) rfl st ?_; apply Exists.intro; apply Exists.intro; refine ⟨?_, ?_⟩; (focus (first | (go_simp; done) | (go_simp; rfl))); (clear st; intro b3 w hb st; clear hb))
            | ((with_reducible refine wl_store ?_ (fun K hK => ?_)); rfl; refine owp_store rfl st ?_; apply Exists.intro; apply Exists.intro; refine ⟨?_, ?_, ?_⟩; (focus (go_simp; try rfl)); (focus (go_simp; try rfl)); (with_reducible refine ⟨2, _, _, _, _, get2, rfl, rfl, ?_, ?_, ?_, ?_⟩); (kernel_rfl); (simp [Value.cells]); (rfl); (clear st; intro w st))); (try simp only [Value.cells, List.cons_append, List.nil_append, List.set, spl, putIt, pick, List.map_cons, List.map_nil, List.getElem?_cons_zero, List.getElem?_cons_succ, Option.getD_some, List.drop_succ_cons, List.drop_zero, List.drop_nil, List.append_nil, unB] at st); (try clear hc); have hc := st.facts; (try simp only [factsOf, blkI, blkFacts, rowI, byI, datI, nullI, oldI, penI, rdI, rdAnyI, rdOverI, Nat.zero_add, Nat.reduceAdd, and_true, true_and, and_self] at hc))
      obtain ⟨fr', al', st', back⟩ := st.sub [0] (by decide) (by simp)
      (try simp only [Value.cells, List.cons_append, List.nil_append, List.set, spl, putIt, pick, List.map_cons, List.map_nil, List.getElem?_cons_zero, List.getElem?_cons_succ, Option.getD_some, List.drop_succ_cons, List.drop_zero, List.drop_nil, List.append_nil, unB] at st')
      refine (roleGet_c st' (by omega)).mono ?_
      clear st'
      intro en w hen
      unfold RdC at hen
      cases hr : rdRole ys with
      | error e =>
        rw [hr] at hen
        obtain ⟨rfl, st'⟩ := hen
        replace st := back _ _ (by simp) st'
        clear back st'
        (try simp only [Value.cells, List.cons_append, List.nil_append, List.set, spl, putIt, pick, List.map_cons, List.map_nil, List.getElem?_cons_zero, List.getElem?_cons_succ, Option.getD_some, List.drop_succ_cons, List.drop_zero, List.drop_nil, List.append_nil, unB] at st)
        (try clear hc); have hc := st.facts; (try simp only [factsOf, blkI, blkFacts, rowI, byI, datI, nullI, oldI, penI, rdI, rdAnyI, rdOverI, Nat.zero_add, Nat.reduceAdd, and_true, true_and, and_self] at hc)
        have H1 : Hid (rdCred xs = .error e) := Lib.hid (by simp [rdCred, HR0.out, hr, bd])
        clear hr
        go_wp2_with fail
        refine ⟨rfl, ?_⟩
        unfold RdC
        rw [H1.out]
        have st' := st.keep [0] (by decide) (by simp)
        exact ⟨rfl, by simpa [pick] using st'⟩
      | ok p =>
        obtain ⟨⟨ho, hd⟩, zs⟩ := p
        rw [hr] at hen
        obtain ⟨v, M, rfl, ⟨rfl, rfl⟩, st'⟩ := hen
        replace st := back _ _ (by simp) st'
        clear back st'
        (try simp only [Value.cells, List.cons_append, List.nil_append, List.set, spl, putIt, pick, List.map_cons, List.map_nil, List.getElem?_cons_zero, List.getElem?_cons_succ, Option.getD_some, List.drop_succ_cons, List.drop_zero, List.drop_nil, List.append_nil, unB] at st)
        (try clear hc); have hc := st.facts; (try simp only [factsOf, blkI, blkFacts, rowI, byI, datI, nullI, oldI, penI, rdI, rdAnyI, rdOverI, Nat.zero_add, Nat.reduceAdd, and_true, true_and, and_self] at hc)
        have hl1 := rdRole_le hr
        have hl1b := roleR_len hl1.2
        have HR1 := Lib.hid hr
        clear hr
        simp only at hl1b
        unfold rV S
        go_wp2_with ((((with_reducible refine wl_store ?_ (fun K hK => ?_)); rfl; refine owp_store rfl st ?_; apply Exists.intro; apply Exists.intro; refine ⟨?_, ?_, ?_⟩; (focus (go_simp; try rfl)); (focus (go_simp; try rfl)); (with_reducible refine ⟨2, _, _, _, _, get2, rfl, rfl, ?_, ?_, ?_, ?_⟩); (kernel_rfl); (simp [Value.cells]); (rfl); (clear st; intro w st))); (try simp only [Value.cells, List.cons_append, List.nil_append, List.set, spl, putIt, pick, List.map_cons, List.map_nil, List.getElem?_cons_zero, List.getElem?_cons_succ, Option.getD_some, List.drop_succ_cons, List.drop_zero, List.drop_nil, List.append_nil, unB] at st); (try clear hc); have hc := st.facts; (try simp only [factsOf, blkI, blkFacts, rowI, byI, datI, nullI, oldI, penI, rdI, rdAnyI, rdOverI, Nat.zero_add, Nat.reduceAdd, and_true, true_and, and_self] at hc))
        obtain ⟨fr', al', st', back⟩ := st.sub [0] (by decide) (by simp)
        (try simp only [Value.cells, List.cons_append, List.nil_append, List.set, spl, putIt, pick, List.map_cons, List.map_nil, List.getElem?_cons_zero, List.getElem?_cons_succ, Option.getD_some, List.drop_succ_cons, List.drop_zero, List.drop_nil, List.append_nil, unB] at st')
        refine (roleGet_c st' (by omega)).mono ?_
        clear st'
        intro en w hen
        unfold RdC at hen
        cases hr : rdRole zs with
        | error e =>
          rw [hr] at hen
          obtain ⟨rfl, st'⟩ := hen
          replace st := back _ _ (by simp) st'
          clear back st'
          (try simp only [Value.cells, List.cons_append, List.nil_append, List.set, spl, putIt, pick, List.map_cons, List.map_nil, List.getElem?_cons_zero, List.getElem?_cons_succ, Option.getD_some, List.drop_succ_cons, List.drop_zero, List.drop_nil, List.append_nil, unB] at st)
          (try clear hc); have hc := st.facts; (try simp only [factsOf, blkI, blkFacts, rowI, byI, datI, nullI, oldI, penI, rdI, rdAnyI, rdOverI, Nat.zero_add, Nat.reduceAdd, and_true, true_and, and_self] at hc)
          have H1 : Hid (rdCred xs = .error e) := Lib.hid (by simp [rdCred, HR0.out, HR1.out, hr, bd])
          clear hr
          go_wp2_with fail
          refine ⟨rfl, ?_⟩
          unfold RdC
          rw [H1.out]
          have st' := st.keep [0] (by decide) (by simp)
          exact ⟨rfl, by simpa [pick] using st'⟩
        | ok p =>
          obtain ⟨⟨bo, bd'⟩, us⟩ := p
          rw [hr] at hen
          obtain ⟨v, M, rfl, ⟨rfl, rfl⟩, st'⟩ := hen
          replace st := back _ _ (by simp) st'
          clear back st'
          (try simp only [Value.cells, List.cons_append, List.nil_append, List.set, spl, putIt, pick, List.map_cons, List.map_nil, List.getElem?_cons_zero, List.getElem?_cons_succ, Option.getD_some, List.drop_succ_cons, List.drop_zero, List.drop_nil, List.append_nil, unB] at st)
          (try clear hc); have hc := st.facts; (try simp only [factsOf, blkI, blkFacts, rowI, byI, datI, nullI, oldI, penI, rdI, rdAnyI, rdOverI, Nat.zero_add, Nat.reduceAdd, and_true, true_and, and_self] at hc)
          have hl2 := rdRole_le hr
          have hl2b := roleR_len hl2.2
          have HR2 := Lib.hid hr
          clear hr
          simp only at hl2b
          unfold rV S
          go_wp2_with ((((with_reducible refine wl_store ?_ (fun K hK => ?_)); rfl; refine owp_store rfl st ?_; apply Exists.intro; apply Exists.intro; refine ⟨?_, ?_, ?_⟩; (focus (go_simp; try rfl)); (focus (go_simp; try rfl)); (with_reducible refine ⟨2, _, _, _, _, get2, rfl, rfl, ?_, ?_, ?_, ?_⟩); (kernel_rfl); (simp [Value.cells]); (rfl); (clear st; intro w st))); (try simp only [Value.cells, List.cons_append, List.nil_append, List.set, spl, putIt, pick, List.map_cons, List.map_nil, List.getElem?_cons_zero, List.getElem?_cons_succ, Option.getD_some, List.drop_succ_cons, List.drop_zero, List.drop_nil, List.append_nil, unB] at st); (try clear hc); have hc := st.facts; (try simp only [factsOf, blkI, blkFacts, rowI, byI, datI, nullI, oldI, penI, rdI, rdAnyI, rdOverI, Nat.zero_add, Nat.reduceAdd, and_true, true_and, and_self] at hc))
          obtain ⟨fr', al', st', back⟩ := st.sub [0] (by decide) (by simp)
          (try simp only [Value.cells, List.cons_append, List.nil_append, List.set, spl, putIt, pick, List.map_cons, List.map_nil, List.getElem?_cons_zero, List.getElem?_cons_succ, Option.getD_some, List.drop_succ_cons, List.drop_zero, List.drop_nil, List.append_nil, unB] at st')
          refine (roleGet_c st' (by omega)).mono ?_
          clear st'
          intro en w hen
          unfold RdC at hen
          cases hr : rdRole us with
          | error e =>
            rw [hr] at hen
            obtain ⟨rfl, st'⟩ := hen
            replace st := back _ _ (by simp) st'
            clear back st'
            (try simp only [Value.cells, List.cons_append, List.nil_append, List.set, spl, putIt, pick, List.map_cons, List.map_nil, List.getElem?_cons_zero, List.getElem?_cons_succ, Option.getD_some, List.drop_succ_cons, List.drop_zero, List.drop_nil, List.append_nil, unB] at st)
            (try clear hc); have hc := st.facts; (try simp only [factsOf, blkI, blkFacts, rowI, byI, datI, nullI, oldI, penI, rdI, rdAnyI, rdOverI, Nat.zero_add, Nat.reduceAdd, and_true, true_and, and_self] at hc)
            have H1 : Hid (rdCred xs = .error e) := Lib.hid (by simp [rdCred, HR0.out, HR1.out, HR2.out, hr, bd])
            clear hr
            go_wp2_with fail
            refine ⟨rfl, ?_⟩
            unfold RdC
            rw [H1.out]
            have st' := st.keep [0] (by decide) (by simp)
            exact ⟨rfl, by simpa [pick] using st'⟩
          | ok p =>
            obtain ⟨⟨co, cd⟩, vs⟩ := p
            rw [hr] at hen
            obtain ⟨v, M, rfl, ⟨rfl, rfl⟩, st'⟩ := hen
            replace st := back _ _ (by simp) st'
            clear back st'
            (try simp only [Value.cells, List.cons_append, List.nil_append, List.set, spl, putIt, pick, List.map_cons, List.map_nil, List.getElem?_cons_zero, List.getElem?_cons_succ, Option.getD_some, List.drop_succ_cons, List.drop_zero, List.drop_nil, List.append_nil, unB] at st)
            (try clear hc); have hc := st.facts; (try simp only [factsOf, blkI, blkFacts, rowI, byI, datI, nullI, oldI, penI, rdI, rdAnyI, rdOverI, Nat.zero_add, Nat.reduceAdd, and_true, true_and, and_self] at hc)
            have hl3 := rdRole_le hr
            have hl3b := roleR_len hl3.2
            have HR3 := Lib.hid hr
            clear hr
            simp only at hl3b
            unfold rV S
            have HQ := Lib.hid (fun W => credRight_any ⟨4, (ho, hd), [], (bo, bd'), (co, cd), []⟩ W (by simp only [List.length_nil]; omega))
            unfold cV S at HQ
            simp only [nR] at HQ
            go_wp2_with ((((with_reducible refine wl_store ?_ (fun K hK => ?_)); rfl; refine owp_store rfl st ?_; apply Exists.intro; apply Exists.intro; refine ⟨?_, ?_, ?_⟩; (focus (go_simp; try rfl)); (focus (go_simp; try rfl)); (with_reducible refine ⟨2, _, _, _, _, get2, rfl, rfl, ?_, ?_, ?_, ?_⟩); (kernel_rfl); (simp [Value.cells]); (rfl); (clear st; intro w st))); (try simp only [Value.cells, List.cons_append, List.nil_append, List.set, spl, putIt, pick, List.map_cons, List.map_nil, List.getElem?_cons_zero, List.getElem?_cons_succ, Option.getD_some, List.drop_succ_cons, List.drop_zero, List.drop_nil, List.append_nil, unB] at st); (try clear hc); have hc := st.facts; (try simp only [factsOf, blkI, blkFacts, rowI, byI, datI, nullI, oldI, penI, rdI, rdAnyI, rdOverI, Nat.zero_add, Nat.reduceAdd, and_true, true_and, and_self] at hc))
            refine (HQ.out _).mono ?_
            rintro en w ⟨rfl, hx⟩
            replace st := st.ext hx
            clear hx
            (try clear hc); have hc := st.facts; (try simp only [factsOf, blkI, blkFacts, rowI, byI, datI, nullI, oldI, penI, rdI, rdAnyI, rdOverI, Nat.zero_add, Nat.reduceAdd, and_true, true_and, and_self] at hc)
            cases hcr : credR ⟨4, (ho, hd), [], (bo, bd'), (co, cd), []⟩ with
            | true =>
              have H1 : Hid (rdCred xs = .ok (⟨4, (ho, hd), [], (bo, bd'), (co, cd), []⟩, vs)) := Lib.hid (by simp [rdCred, HR0.out, HR1.out, HR2.out, HR3.out, bd, okCr, nR, hcr])
              clear hcr HQ
              go_wp2_with ((((with_reducible refine wl_store ?_ (fun K hK => ?_)); rfl; refine owp_store rfl st ?_; apply Exists.intro; apply Exists.intro; refine ⟨?_, ?_, ?_⟩; (focus (go_simp; try rfl)); (focus (go_simp; try rfl)); (with_reducible refine ⟨1, _, _, _, _, get1, rfl, rfl, ?_, ?_, ?_, ?_⟩); (kernel_rfl); (simp [Value.cells]); (rfl); (clear st; intro w st))); (try simp only [Value.cells, List.cons_append, List.nil_append, List.set, spl, putIt, pick, List.map_cons, List.map_nil, List.getElem?_cons_zero, List.getElem?_cons_succ, Option.getD_some, List.drop_succ_cons, List.drop_zero, List.drop_nil, List.append_nil, unB] at st); (try clear hc); have hc := st.facts; (try simp only [factsOf, blkI, blkFacts, rowI, byI, datI, nullI, oldI, penI, rdI, rdAnyI, rdOverI, Nat.zero_add, Nat.reduceAdd, and_true, true_and, and_self] at hc))
              (try simp only [Exit.inBlock, Exit.then])
              refine bodyPost_cell rfl rfl (st.blk (i := 1) get1) Try.underlying32 rfl (by kernel_rfl) rfl ?_
              unfold RdC
              rw [H1.out]
              have st' := st.keep [0] (by decide) (by simp)
              exact ⟨_, [], rfl, ⟨rfl, rfl⟩, by simpa [pick] using st'⟩
            | false =>
              have H1 : Hid (rdCred xs = .error 11) := Lib.hid (by simp [rdCred, HR0.out, HR1.out, HR2.out, HR3.out, bd, okCr, nR, hcr])
              clear hcr HQ
              obtain ⟨_, sq, ⟨_, hrd⟩, _⟩ := st.get (i := 0) (I := rdI r vs) get0
              have HRD := Lib.hid hrd.any
              clear hrd
              go_wp2_with fail
              refine (fail_any _ r 11 HRD.out (by decide)).mono ?_
              rintro en w' ⟨rfl, rfl⟩
              go_wp2_with fail
              refine ⟨rfl, ?_⟩
              unfold RdC
              rw [H1.out]
              have st' := (st.rdAny (i := 0) get0).keep [0] (by decide) (by simp)
              exact ⟨rfl, by simpa [pick] using st'⟩
    | n + 5, HR0 =>
      have H1 : Hid (rdCred xs = .error 11) := Lib.hid (by simp [rdCred, HR0.out, bd])
      go_wp2_with ((first
            | ((with_reducible refine wl_alloc ?_ (fun K hK => ?_)); rfl; refine owp_alloc (o := ⟨some 3, _, _, _, _, _⟩) rfl st ?_; apply Exists.intro; apply Exists.intro; refine ⟨?_, ?_⟩; (focus (first | (go_simp; done) | (go_simp; rfl))); (clear st; intro b3 w hb st; clear hb))
            | ((with_reducible refine wl_store ?_ (fun K hK => ?_)); rfl; refine owp_store rfl st ?_; apply Exists.intro; apply Exists.intro; refine ⟨?_, ?_, ?_⟩; (focus (go_simp; try rfl)); (focus (go_simp; try rfl)); (with_reducible refine ⟨2, _, _, _, _, get2, rfl, rfl, ?_, ?_, ?_, ?_⟩); (kernel_rfl); (simp [Value.cells]); (rfl); (clear st; intro w st))); (try simp only [Value.cells, List.cons_append, List.nil_append, List.set, spl, putIt, pick, List.map_cons, List.map_nil, List.getElem?_cons_zero, List.getElem?_cons_succ, Option.getD_some, List.drop_succ_cons, List.drop_zero, List.drop_nil, List.append_nil, unB] at st); (try clear hc); have hc := st.facts; (try simp only [factsOf, blkI, blkFacts, rowI, byI, datI, nullI, oldI, penI, rdI, rdAnyI, rdOverI, Nat.zero_add, Nat.reduceAdd, and_true, true_and, and_self] at hc))
      obtain ⟨_, sq, ⟨_, hrd⟩, _⟩ := st.get (i := 0) (I := rdI r ys) get0
      have HRD := Lib.hid hrd.any
      clear hrd
      go_wp2_with fail
      refine (fail_any _ r 11 HRD.out (by decide)).mono ?_
      rintro en w' ⟨rfl, rfl⟩
      go_wp2_with fail
      refine ⟨rfl, ?_⟩
      unfold RdC
      rw [H1.out]
      have st' := (st.rdAny (i := 0) get0).keep [0] (by decide) (by simp)
      exact ⟨rfl, by simpa [pick] using st'⟩
end Go.Proofs.Ytekngjkjgmplpaa

namespace Go.Proofs.Ytekngjkjgmplpaa
set_option linter.unusedSimpArgs false
set_option linter.unusedVariables false
open Go Go.RowKit
/-- How great credentials are. -/
def wtC (x : CredT) : Nat := 20 + x.h.1.length + x.h.2.length + x.w.length + x.b.1.length + x.b.2.length + x.c.1.length + x.c.2.length + x.e.length
def weightC (l : List CredT) : Nat := (l.map wtC).sum
theorem weightC_snoc (l : List CredT) (x : CredT) : weightC (l ++ [x]) = weightC l + wtC x := by simp [weightC]
theorem weightC_cons (l : List CredT) (x : CredT) : weightC (x :: l) = wtC x + weightC l := by simp [weightC]
theorem weightC_take : ∀ (l : List CredT) (j : Nat), weightC (l.take j) ≤ weightC l
  | [], j => by simp [weightC]
  | x :: l, 0 => by simp [weightC]
  | x :: l, j + 1 => by have := weightC_take l j; rw [List.take_succ_cons, weightC_cons, weightC_cons]; omega
theorem weightC_len : ∀ (l : List CredT), 20 * l.length ≤ weightC l
  | [] => by simp [weightC]
  | x :: l => by have := weightC_len l; rw [weightC_cons, List.length_cons]; unfold wtC; omega
theorem weightC_mem : ∀ (l : List CredT) (x : CredT), x ∈ l → wtC x ≤ weightC l
  | [], x, h => by simp at h
  | y :: l, x, h => by
    rw [weightC_cons]
    rcases List.mem_cons.1 h with e | e
    · subst e; omega
    · have := weightC_mem l x e; omega
theorem wtC_L {x : CredT} (h : wtC x ≤ 100000) : CredL 100000 x := by unfold wtC at h; unfold CredL; omega
set_option maxRecDepth 100000 in
set_option maxHeartbeats 1000000 in
theorem credGreat_any (a : Option Addr) (n c : Nat) (l : List CredT) (W : World) (h : Fl W a n l) (hw : weightC l ≤ 2000000000) :
    Calls Try.prog 35 #[.slice a n c] W fun e w' => e = .returned (.int .i64 (weightC l : Int)) ∧ Ext W w' := by
  have hnw : n ≤ 2000000000 := by have := weightC_len l; have := h.1; omega
  have H := Lib.hid h
  have HN := Lib.hid (And.intro h.1 hw)
  have st := Own.startOld W
  clear h hw
  (try simp only [Value.cells, List.cons_append, List.nil_append, List.set, spl, putIt, pick, List.map_cons, List.map_nil, List.getElem?_cons_zero, List.getElem?_cons_succ, Option.getD_some, List.drop_succ_cons, List.drop_zero, List.drop_nil, List.append_nil, unB] at st)
  (try clear hc); have hc := st.facts; (try simp only [factsOf, blkI, blkFacts, rowI, byI, datI, nullI, oldI, penI, rdI, rdAnyI, rdOverI, Nat.zero_add, Nat.reduceAdd, and_true, true_and, and_self] at hc)
  go_enter Try.func35, Try.ntmps35
  go_wp2_with fail
  go_loopg [3, 8] n (fun k v i wr => ∃ (j q : Nat), j ≤ n ∧ k = n - j ∧ q ≤ 2000000000 ∧ Hid (q = weightC (l.take j)) ∧ i = .int .i64 (j : Int) ∧ v = .int .i64 (q : Int) ∧ Own (fun _ => False) (fun _ => True) W [oldI W] wr)
  case atStart => exact ⟨0, 0, by omega, by omega, by omega, Lib.hid (by simp [weightC]), rfl, rfl, st⟩
  case round =>
    obtain ⟨j, q, hj, rfl, hq, HQ, rfl, rfl, st'⟩ := hrel
    clear st hc
    have st := st'
    clear st'
    (try simp only [Value.cells, List.cons_append, List.nil_append, List.set, spl, putIt, pick, List.map_cons, List.map_nil, List.getElem?_cons_zero, List.getElem?_cons_succ, Option.getD_some, List.drop_succ_cons, List.drop_zero, List.drop_nil, List.append_nil, unB] at st)
    (try clear hc); have hc := st.facts; (try simp only [factsOf, blkI, blkFacts, rowI, byI, datI, nullI, oldI, penI, rdI, rdAnyI, rdOverI, Nat.zero_add, Nat.reduceAdd, and_true, true_and, and_self] at hc)
    by_cases hjn : j < n
    · obtain ⟨b, off, ha, hcell⟩ := H.out.cred (by omega)
      have hjl : j < l.length := by have := HN.out.1; omega
      have hcc := hcell j l[j] (List.getElem?_eq_getElem hjl)
      obtain ⟨r0, r1, r2, r3, r4, r5, r6, r7, r8⟩ := hcc
      replace r0 := st.oldCell (i := 0) get0 r0
      replace r1 := st.oldCell (i := 0) get0 r1
      replace r2 := st.oldCell (i := 0) get0 r2
      replace r3 := st.oldCell (i := 0) get0 r3
      replace r4 := st.oldCell (i := 0) get0 r4
      replace r5 := st.oldCell (i := 0) get0 r5
      replace r6 := st.oldCell (i := 0) get0 r6
      replace r7 := st.oldCell (i := 0) get0 r7
      replace r8 := st.oldCell (i := 0) get0 r8
      have hts : l.take (j + 1) = l.take j ++ [l[j]] := (List.take_append_getElem hjl).symm
      have hw1 := weightC_take l (j + 1)
      rw [hts, weightC_snoc, ← HQ.out] at hw1
      have hw2 : q + wtC l[j] ≤ 2000000000 := by have := HN.out.2; omega
      have HX : Hid (q + wtC l[j] = weightC (l.take (j + 1))) := Lib.hid (by rw [hts, weightC_snoc, ← HQ.out])
      clear hcell hts hw1
      generalize l[j] = x at *
      clear hjl
      subst ha
      unfold S at r1 r2 r3 r4 r5 r6 r7 r8
      have hszz : ∀ s : List UInt8, (⟨s.toArray⟩ : ByteArray).size = s.length := fun s => by simp [ByteArray.size]
      have HW : Hid (wtC x = 20 + x.h.1.length + x.h.2.length + x.w.length + x.b.1.length + x.b.2.length + x.c.1.length + x.c.2.length + x.e.length) := Lib.hid rfl
      have hw3 : q + (20 + x.h.1.length + x.h.2.length + x.w.length + x.b.1.length + x.b.2.length + x.c.1.length + x.c.2.length + x.e.length) ≤ 2000000000 := by rw [← HW.out]; exact hw2
      clear hw2
      go_wp2_with ((first
            | ((with_reducible refine wl_alloc ?_ (fun K hK => ?_)); rfl; refine owp_alloc (o := ⟨some 5, _, _, _, _, _⟩) rfl st ?_; apply Exists.intro; apply Exists.intro; refine ⟨?_, ?_⟩; (focus (first | (go_simp; done) | (go_simp; rfl))); (clear st; intro b5 w hb st; clear hb))
            | ((with_reducible refine wl_store ?_ (fun K hK => ?_)); rfl; refine owp_store rfl st ?_; apply Exists.intro; apply Exists.intro; refine ⟨?_, ?_, ?_⟩; (focus (go_simp; try rfl)); (focus (go_simp; try rfl)); (first | (with_reducible refine ⟨0, _, _, _, _, get0, rfl, rfl, ?_, ?_, ?_, ?_⟩) | (with_reducible refine ⟨1, _, _, _, _, get1, rfl, rfl, ?_, ?_, ?_, ?_⟩) | (with_reducible refine ⟨2, _, _, _, _, get2, rfl, rfl, ?_, ?_, ?_, ?_⟩) | (with_reducible refine ⟨3, _, _, _, _, get3, rfl, rfl, ?_, ?_, ?_, ?_⟩) | (with_reducible refine ⟨4, _, _, _, _, get4, rfl, rfl, ?_, ?_, ?_, ?_⟩) | (with_reducible refine ⟨5, _, _, _, _, get5, rfl, rfl, ?_, ?_, ?_, ?_⟩)); (kernel_rfl); (simp [Value.cells]); (rfl); (clear st; intro w st))); (try simp only [Value.cells, List.cons_append, List.nil_append, List.set, spl, putIt, pick, List.map_cons, List.map_nil, List.getElem?_cons_zero, List.getElem?_cons_succ, Option.getD_some, List.drop_succ_cons, List.drop_zero, List.drop_nil, List.append_nil, unB] at st); (try clear hc); have hc := st.facts; (try simp only [factsOf, blkI, blkFacts, rowI, byI, datI, nullI, oldI, penI, rdI, rdAnyI, rdOverI, Nat.zero_add, Nat.reduceAdd, and_true, true_and, and_self] at hc))
      have st' := st.keep [0] (by decide) (by simp)
      go_roundg (n - (j + 1))
      case measure => omega
      case rel => exact ⟨j + 1, q + (20 + x.h.1.length + x.h.2.length + x.w.length + x.b.1.length + x.b.2.length + x.c.1.length + x.c.2.length + x.e.length), by omega, rfl, hw3, by rw [← HW.out]; exact HX, by go_num, by go_num, by simpa [pick] using st'⟩
    · obtain rfl : j = n := by omega
      have htk : weightC l = q := by rw [HQ.out, List.take_of_length_le (by have := HN.out.1; omega)]
      have HE := Lib.hid htk
      clear htk
      go_wp2_with fail
      go_ret
      exact ⟨by rw [HE.out]; rfl, st.ext0⟩
end Go.Proofs.Ytekngjkjgmplpaa

namespace Go.Proofs.Ytekngjkjgmplpaa
set_option linter.unusedSimpArgs false
set_option linter.unusedVariables false
open Go Go.RowKit
def wtS (x : StepT) : Nat := wtC x.c + x.f.w.length + x.f.r.1.length + x.f.r.2.length
def weightS (l : List StepT) : Nat := (l.map wtS).sum
theorem weightS_cons (x : StepT) (l : List StepT) : weightS (x :: l) = wtS x + weightS l := by simp [weightS]
theorem weightS_take (l : List StepT) (j : Nat) (h : j < l.length) : weightS (l.take (j + 1)) = weightS (l.take j) + wtS l[j] := by
  rw [← List.take_append_getElem h]
  unfold weightS
  rw [List.map_append, List.sum_append]
  simp
theorem weightS_le : ∀ (l : List StepT) (j : Nat), weightS (l.take j) ≤ weightS l
  | [], j => by simp
  | x :: l, 0 => by simp [weightS]
  | x :: l, j + 1 => by have := weightS_le l j; rw [List.take_succ_cons, weightS_cons, weightS_cons]; omega
theorem weightS_len : ∀ (l : List StepT), 20 * l.length ≤ weightS l
  | [] => by simp
  | x :: l => by have := weightS_len l; rw [weightS_cons, List.length_cons]; unfold wtS wtC; omega
theorem weightS_mem : ∀ (l : List StepT) (x : StepT), x ∈ l → wtS x ≤ weightS l
  | [], x, h => by simp at h
  | y :: l, x, h => by
    rw [weightS_cons]
    rcases List.mem_cons.1 h with rfl | h
    · omega
    · have := weightS_mem l x h; omega
set_option maxRecDepth 100000 in
set_option maxHeartbeats 4000000 in
theorem stepGreat_any (a : Option Addr) (n c : Nat) (l : List StepT) (W : World) (h : Fl W a n l) (hw : weightS l ≤ 2000000000) :
    Calls Try.prog 34 #[.slice a n c] W fun e w' => e = .returned (.int .i64 (weightS l : Int)) ∧ Ext W w' := by
  have hnl : n ≤ 100000000 := by have := weightS_len l; have := h.1; omega
  have H := Lib.hid h
  have HN := Lib.hid h.1
  have HT := Lib.hid (weightS_le l)
  obtain ⟨wl, hwl⟩ : ∃ w, weightS l = w := ⟨_, rfl⟩
  rw [hwl] at HT hw ⊢
  have HWL := Lib.hid hwl
  have st := Own.startOld W
  clear h hwl
  (try simp only [Value.cells, List.cons_append, List.nil_append, List.set, spl, putIt, pick, List.map_cons, List.map_nil, List.getElem?_cons_zero, List.getElem?_cons_succ, Option.getD_some, List.drop_succ_cons, List.drop_zero, List.drop_nil, List.append_nil, unB] at st)
  (try clear hc); have hc := st.facts; (try simp only [factsOf, blkI, blkFacts, rowI, byI, datI, nullI, oldI, penI, rdI, rdAnyI, rdOverI, Nat.zero_add, Nat.reduceAdd, and_true, true_and, and_self] at hc)
  go_enter Try.func34, Try.ntmps34
  go_wp2_with fail
  go_loopg [3, 8] n (fun k s i wr => ∃ (j q : Nat), j ≤ n ∧ k = n - j ∧ i = .int .i64 (j : Int) ∧ Hid (q = weightS (l.take j)) ∧ q ≤ wl ∧ s = .int .i64 (q : Int) ∧ Own (fun _ => False) (fun _ => True) W [oldI W] wr)
  case atStart => exact ⟨0, 0, by omega, by omega, rfl, Lib.hid (by simp [weightS]), by omega, rfl, st⟩
  case round =>
    obtain ⟨j, q, hj, rfl, rfl, HQ, hq, rfl, st'⟩ := hrel
    clear st hc
    have st := st'
    clear st'
    (try simp only [Value.cells, List.cons_append, List.nil_append, List.set, spl, putIt, pick, List.map_cons, List.map_nil, List.getElem?_cons_zero, List.getElem?_cons_succ, Option.getD_some, List.drop_succ_cons, List.drop_zero, List.drop_nil, List.append_nil, unB] at st)
    (try clear hc); have hc := st.facts; (try simp only [factsOf, blkI, blkFacts, rowI, byI, datI, nullI, oldI, penI, rdI, rdAnyI, rdOverI, Nat.zero_add, Nat.reduceAdd, and_true, true_and, and_self] at hc)
    by_cases hjn : j < n
    · obtain ⟨b, off, ha, hcell⟩ := H.out.step (by omega)
      have hjl : j < l.length := by have := HN.out; omega
      obtain ⟨r0, r1, r2, r3, r4, r5, r6, r7, r8, r9, r10, r11⟩ := hcell j l[j] (List.getElem?_eq_getElem hjl)
      replace r0 := st.oldCell (i := 0) get0 r0
      replace r1 := st.oldCell (i := 0) get0 r1
      replace r2 := st.oldCell (i := 0) get0 r2
      replace r3 := st.oldCell (i := 0) get0 r3
      replace r4 := st.oldCell (i := 0) get0 r4
      replace r5 := st.oldCell (i := 0) get0 r5
      replace r6 := st.oldCell (i := 0) get0 r6
      replace r7 := st.oldCell (i := 0) get0 r7
      replace r8 := st.oldCell (i := 0) get0 r8
      replace r9 := st.oldCell (i := 0) get0 r9
      replace r10 := st.oldCell (i := 0) get0 r10
      replace r11 := st.oldCell (i := 0) get0 r11
      have hle := HT.out (j + 1)
      have HTK := Lib.hid (weightS_take l j hjl)
      have hq2 : q + wtS l[j] ≤ wl := by have := HTK.out; have := HQ.out; omega
      clear hcell hle
      generalize l[j] = x at *
      subst ha
      obtain ⟨cx, ⟨⟨ro, rd⟩, fw⟩⟩ := x
      have HWX : Hid (wtS ⟨cx, ⟨(ro, rd), fw⟩⟩ = wtC cx + fw.length + ro.length + rd.length) := Lib.hid rfl
      rw [HWX.out] at hq2 HTK
      have HCG := Lib.hid (fun a c W h => credGreat_any a 1 c [cx] W h (by simp [weightC]; omega))
      rw [show weightC [cx] = wtC cx from by simp [weightC]] at HCG
      obtain ⟨wc, hwc⟩ : ∃ w, wtC cx = w := ⟨_, rfl⟩
      rw [hwc] at HCG hq2 HTK
      clear hwc HWX
      have z1 : IntKind.i64.wrap ((wc : Int) + (fw.length : Int)) = (wc : Int) + (fw.length : Int) := IntWalk.i64_in _ ⟨by omega, by omega⟩
      have z2 : IntKind.i64.wrap ((wc : Int) + (fw.length : Int) + (ro.length : Int)) = (wc : Int) + (fw.length : Int) + (ro.length : Int) := IntWalk.i64_in _ ⟨by omega, by omega⟩
      have z3 : IntKind.i64.wrap ((wc : Int) + (fw.length : Int) + (ro.length : Int) + (rd.length : Int)) = (wc : Int) + (fw.length : Int) + (ro.length : Int) + (rd.length : Int) := IntWalk.i64_in _ ⟨by omega, by omega⟩
      have z4 : IntKind.i64.wrap ((q : Int) + ((wc : Int) + (fw.length : Int) + (ro.length : Int) + (rd.length : Int))) = (q : Int) + ((wc : Int) + (fw.length : Int) + (ro.length : Int) + (rd.length : Int)) := IntWalk.i64_in _ ⟨by omega, by omega⟩
      obtain ⟨k, ⟨ho, hd⟩, nw, ⟨bo, bd⟩, ⟨co, cd⟩, we⟩ := cx
      simp only at r0 r1 r2 r3 r4 r5 r6 r7 r8 r9 r10 r11
      unfold S at r1 r2 r3 r4 r5 r6 r7 r8 r9 r10 r11
      go_wp2_with ((first
            | ((with_reducible refine wl_alloc ?_ (fun K hK => ?_)); rfl; refine owp_alloc (o := ⟨some 5, _, _, _, _, _⟩) rfl st ?_; apply Exists.intro; apply Exists.intro; refine ⟨?_, ?_⟩; (focus (first | (go_simp; done) | (go_simp; rfl))); (clear st; intro b5 w hb st; clear hb))
            | ((with_reducible refine wl_store ?_ (fun K hK => ?_)); rfl; refine owp_store rfl st ?_; apply Exists.intro; apply Exists.intro; refine ⟨?_, ?_, ?_⟩; (focus (go_simp; try rfl)); (focus (go_simp; try rfl)); (with_reducible refine ⟨1, _, _, _, _, get1, rfl, rfl, ?_, ?_, ?_, ?_⟩); (kernel_rfl); (simp [Value.cells]); (rfl); (clear st; intro w st))); (try simp only [Value.cells, List.cons_append, List.nil_append, List.set, spl, putIt, pick, List.map_cons, List.map_nil, List.getElem?_cons_zero, List.getElem?_cons_succ, Option.getD_some, List.drop_succ_cons, List.drop_zero, List.drop_nil, List.append_nil, unB] at st); (try clear hc); have hc := st.facts; (try simp only [factsOf, blkI, blkFacts, rowI, byI, datI, nullI, oldI, penI, rdI, rdAnyI, rdOverI, Nat.zero_add, Nat.reduceAdd, and_true, true_and, and_self] at hc))
      clear r0 r1 r2 r3 r4 r5 r6 r7 r8 r9 r10 r11
      refine Rg4.wp_region4_eq #[0, 0, 2, 6, 14, 0, 32, 96, 224, 510, 0, 1024, 3072, 7168, 15360, 32766, 0, 65536, 196608, 458752, 983040, 2097150, 4194303, 8388607] [3, 4] [] (fun W' => Blk W' b5 [.int .i64 k, .string ⟨ho.toArray⟩, .string ⟨hd.toArray⟩, .string ⟨nw.toArray⟩, .string ⟨bo.toArray⟩, .string ⟨bd.toArray⟩, .string ⟨co.toArray⟩, .string ⟨cd.toArray⟩, .string ⟨we.toArray⟩, .string ⟨ro.toArray⟩, .string ⟨rd.toArray⟩, .string ⟨fw.toArray⟩]) [0, 1, 2, 5, 6, 7, 8, 10, 11, 12, 13, 14, 16, 17, 18, 19, 20, 3, 4, 9, 15, 21, 22, 23] (by kernel_rfl) (by kernel_rfl) (by kernel_rfl) (by kernel_rfl) (show Rg4.PB _ by repeat (first | with_reducible exact Rg4.pb_body | with_reducible exact Rg4.pb_bodyD rfl | with_reducible refine Rg4.pb_then ?_ | with_reducible refine Rg4.pb_inBlock ?_ | with_reducible refine Rg4.pb_noGoto ?_)) (st.drew.blk (i := 1) get1) ?_
      replace st := st.drew
      change Rg4.wp4 _ _ _ _ _ _ _ _ _ (World.drew _) _ _
      generalize World.drew _ = w at st ⊢
      (try clear hc); have hc := st.facts; (try simp only [factsOf, blkI, blkFacts, rowI, byI, datI, nullI, oldI, penI, rdI, rdAnyI, rdOverI, Nat.zero_add, Nat.reduceAdd, and_true, true_and, and_self] at hc)
      (refine Rg4.w4_any (Rg4.want_none rfl) rfl ?_; apply Exists.intro; refine ⟨fun w' => ?_, ?_⟩; (focus (first | (go_simp; done) | (go_simp; first | rfl | (rw [if_neg] <;> first | rfl | omega) | (rw [if_pos] <;> first | rfl | omega)))); (try simp only [Act.put, List.setIfInBounds_toArray, List.set]))
      (refine Rg4.w4_any (Rg4.want_none rfl) rfl ?_; apply Exists.intro; refine ⟨fun w' => ?_, ?_⟩; (focus (first | (go_simp; done) | (go_simp; first | rfl | (rw [if_neg] <;> first | rfl | omega) | (rw [if_pos] <;> first | rfl | omega)))); (try simp only [Act.put, List.setIfInBounds_toArray, List.set]))
      (refine Rg4.w4_cl (Rg4.want_none rfl) rfl ?_; apply Exists.intro; refine ⟨fun w' hcl => ?_, ?_⟩; (focus (have q0 := Blk.cell hcl 0; have q1 := Blk.cell hcl 1; have q2 := Blk.cell hcl 2; have q3 := Blk.cell hcl 3; have q4 := Blk.cell hcl 4; have q5 := Blk.cell hcl 5; have q6 := Blk.cell hcl 6; have q7 := Blk.cell hcl 7; have q8 := Blk.cell hcl 8; have q9 := Blk.cell hcl 9; have q10 := Blk.cell hcl 10; have q11 := Blk.cell hcl 11; (try simp at q0 q1 q2 q3 q4 q5 q6 q7 q8 q9 q10 q11); (focus (first | (go_simp; done) | (go_simp; first | rfl | (rw [if_neg] <;> first | rfl | omega) | (rw [if_pos] <;> first | rfl | omega)))))); (try simp only [Act.put, List.setIfInBounds_toArray, List.set]))
      (refine Rg4.w4_any (Rg4.want_none rfl) rfl ?_; apply Exists.intro; refine ⟨fun w' => ?_, ?_⟩; (focus (first | (go_simp; done) | (go_simp; first | rfl | (rw [if_neg] <;> first | rfl | omega) | (rw [if_pos] <;> first | rfl | omega)))); (try simp only [Act.put, List.setIfInBounds_toArray, List.set]))
      (refine Rg4.w4_any (Rg4.want_none rfl) rfl ?_; apply Exists.intro; refine ⟨fun w' => ?_, ?_⟩; (focus (first | (go_simp; done) | (go_simp; first | rfl | (rw [if_neg] <;> first | rfl | omega) | (rw [if_pos] <;> first | rfl | omega)))); (try simp only [Act.put, List.setIfInBounds_toArray, List.set]))
      (refine Rg4.w4_cl (Rg4.want_none rfl) rfl ?_; apply Exists.intro; refine ⟨fun w' hcl => ?_, ?_⟩; (focus (have q0 := Blk.cell hcl 0; have q1 := Blk.cell hcl 1; have q2 := Blk.cell hcl 2; have q3 := Blk.cell hcl 3; have q4 := Blk.cell hcl 4; have q5 := Blk.cell hcl 5; have q6 := Blk.cell hcl 6; have q7 := Blk.cell hcl 7; have q8 := Blk.cell hcl 8; have q9 := Blk.cell hcl 9; have q10 := Blk.cell hcl 10; have q11 := Blk.cell hcl 11; (try simp at q0 q1 q2 q3 q4 q5 q6 q7 q8 q9 q10 q11); (focus (first | (go_simp; done) | (go_simp; first | rfl | (rw [if_neg] <;> first | rfl | omega) | (rw [if_pos] <;> first | rfl | omega)))))); (try simp only [Act.put, List.setIfInBounds_toArray, List.set]))
      (refine Rg4.w4_any (Rg4.want_none rfl) rfl ?_; apply Exists.intro; refine ⟨fun w' => ?_, ?_⟩; (focus (first | (go_simp; done) | (go_simp; first | rfl | (rw [if_neg] <;> first | rfl | omega) | (rw [if_pos] <;> first | rfl | omega)))); (try simp only [Act.put, List.setIfInBounds_toArray, List.set]))
      (refine Rg4.w4_any (Rg4.want_none rfl) rfl ?_; apply Exists.intro; refine ⟨fun w' => ?_, ?_⟩; (focus (first | (go_simp; done) | (go_simp; first | rfl | (rw [if_neg] <;> first | rfl | omega) | (rw [if_pos] <;> first | rfl | omega)))); (try simp only [Act.put, List.setIfInBounds_toArray, List.set]))
      (refine Rg4.w4_any (Rg4.want_none rfl) rfl ?_; apply Exists.intro; refine ⟨fun w' => ?_, ?_⟩; (focus (first | (go_simp; done) | (go_simp; first | rfl | (rw [if_neg] <;> first | rfl | omega) | (rw [if_pos] <;> first | rfl | omega)))); (try simp only [Act.put, List.setIfInBounds_toArray, List.set]))
      (refine Rg4.w4_any (Rg4.want_none rfl) rfl ?_; apply Exists.intro; refine ⟨fun w' => ?_, ?_⟩; (focus (first | (go_simp; done) | (go_simp; first | rfl | (rw [if_neg] <;> first | rfl | omega) | (rw [if_pos] <;> first | rfl | omega)))); (try simp only [Act.put, List.setIfInBounds_toArray, List.set]))
      (refine Rg4.w4_cl (Rg4.want_none rfl) rfl ?_; apply Exists.intro; refine ⟨fun w' hcl => ?_, ?_⟩; (focus (have q0 := Blk.cell hcl 0; have q1 := Blk.cell hcl 1; have q2 := Blk.cell hcl 2; have q3 := Blk.cell hcl 3; have q4 := Blk.cell hcl 4; have q5 := Blk.cell hcl 5; have q6 := Blk.cell hcl 6; have q7 := Blk.cell hcl 7; have q8 := Blk.cell hcl 8; have q9 := Blk.cell hcl 9; have q10 := Blk.cell hcl 10; have q11 := Blk.cell hcl 11; (try simp at q0 q1 q2 q3 q4 q5 q6 q7 q8 q9 q10 q11); (focus (first | (go_simp; done) | (go_simp; first | rfl | (rw [if_neg] <;> first | rfl | omega) | (rw [if_pos] <;> first | rfl | omega)))))); (try simp only [Act.put, List.setIfInBounds_toArray, List.set]))
      (refine Rg4.w4_any (Rg4.want_none rfl) rfl ?_; apply Exists.intro; refine ⟨fun w' => ?_, ?_⟩; (focus (first | (go_simp; done) | (go_simp; first | rfl | (rw [if_neg] <;> first | rfl | omega) | (rw [if_pos] <;> first | rfl | omega)))); (try simp only [Act.put, List.setIfInBounds_toArray, List.set]))
      (refine Rg4.w4_any (Rg4.want_none rfl) rfl ?_; apply Exists.intro; refine ⟨fun w' => ?_, ?_⟩; (focus (first | (go_simp; done) | (go_simp; first | rfl | (rw [if_neg] <;> first | rfl | omega) | (rw [if_pos] <;> first | rfl | omega)))); (try simp only [Act.put, List.setIfInBounds_toArray, List.set]))
      (refine Rg4.w4_any (Rg4.want_none rfl) rfl ?_; apply Exists.intro; refine ⟨fun w' => ?_, ?_⟩; (focus (first | (go_simp; done) | (go_simp; first | rfl | (rw [if_neg] <;> first | rfl | omega) | (rw [if_pos] <;> first | rfl | omega)))); (try simp only [Act.put, List.setIfInBounds_toArray, List.set]))
      (refine Rg4.w4_any (Rg4.want_none rfl) rfl ?_; apply Exists.intro; refine ⟨fun w' => ?_, ?_⟩; (focus (first | (go_simp; done) | (go_simp; first | rfl | (rw [if_neg] <;> first | rfl | omega) | (rw [if_pos] <;> first | rfl | omega)))); (try simp only [Act.put, List.setIfInBounds_toArray, List.set]))
      (refine Rg4.w4_cl (Rg4.want_none rfl) rfl ?_; apply Exists.intro; refine ⟨fun w' hcl => ?_, ?_⟩; (focus (have q0 := Blk.cell hcl 0; have q1 := Blk.cell hcl 1; have q2 := Blk.cell hcl 2; have q3 := Blk.cell hcl 3; have q4 := Blk.cell hcl 4; have q5 := Blk.cell hcl 5; have q6 := Blk.cell hcl 6; have q7 := Blk.cell hcl 7; have q8 := Blk.cell hcl 8; have q9 := Blk.cell hcl 9; have q10 := Blk.cell hcl 10; have q11 := Blk.cell hcl 11; (try simp at q0 q1 q2 q3 q4 q5 q6 q7 q8 q9 q10 q11); (focus (first | (go_simp; done) | (go_simp; first | rfl | (rw [if_neg] <;> first | rfl | omega) | (rw [if_pos] <;> first | rfl | omega)))))); (try simp only [Act.put, List.setIfInBounds_toArray, List.set]))
      (refine Rg4.w4_any (Rg4.want_none rfl) rfl ?_; apply Exists.intro; refine ⟨fun w' => ?_, ?_⟩; (focus (first | (go_simp; done) | (go_simp; first | rfl | (rw [if_neg] <;> first | rfl | omega) | (rw [if_pos] <;> first | rfl | omega)))); (try simp only [Act.put, List.setIfInBounds_toArray, List.set]))
      (refine Rg4.w4_bar (Rg4.want_none rfl) rfl (fun w' hw' hcl' _ K hK => ?_); subst hw'; (refine owp_buildSlice (o := ⟨some 15, _, _, _, _, _⟩) rfl st ?_; apply Exists.intro; apply Exists.intro; apply Exists.intro; apply Exists.intro; refine ⟨?_, ?_⟩; (focus (go_simp; (first | done | exact ⟨⟨rfl, rfl⟩, rfl⟩ | rfl))); (clear st; intro b15 w hb st; clear hb); (try simp only [Value.cells, List.cons_append, List.nil_append, List.set, spl, putIt, pick, List.map_cons, List.map_nil, List.getElem?_cons_zero, List.getElem?_cons_succ, Option.getD_some, List.drop_succ_cons, List.drop_zero, List.drop_nil, List.append_nil, unB] at st); (try clear hc); have hc := st.facts; (try simp only [factsOf, blkI, blkFacts, rowI, byI, datI, nullI, oldI, penI, rdI, rdAnyI, rdOverI, Nat.zero_add, Nat.reduceAdd, and_true, true_and, and_self] at hc)); refine hK _ _ ⟨st.blk (i := 1) get1, ?_⟩; (try simp only [Act.put, List.setIfInBounds_toArray, List.set]))
      refine Rg4.w4_bar (Rg4.want_none rfl) rfl (fun w' hw' hcl _ K hK => ?_)
      subst hw'
      go_wp2_with fail
      refine (HCG.out _ _ _ (fl_lit (α := CredT) (st.blk (i := 2) get2) [⟨k, (ho, hd), nw, (bo, bd), (co, cd), we⟩] rfl)).mono ?_
      rintro en w ⟨rfl, hx⟩
      replace st := st.ext hx
      clear hx
      (try clear hc); have hc := st.facts; (try simp only [factsOf, blkI, blkFacts, rowI, byI, datI, nullI, oldI, penI, rdI, rdAnyI, rdOverI, Nat.zero_add, Nat.reduceAdd, and_true, true_and, and_self] at hc)
      refine hK _ _ ⟨st.blk (i := 1) get1, ?_⟩
      clear hK
      (try simp only [Act.put, List.setIfInBounds_toArray, List.set])
      (refine Rg4.w4_any (Rg4.want_none rfl) rfl ?_; apply Exists.intro; refine ⟨fun w' => ?_, ?_⟩; (focus (first | (go_simp; done) | (go_simp; first | rfl | (rw [if_neg] <;> first | rfl | omega) | (rw [if_pos] <;> first | rfl | omega)))); (try simp only [Act.put, List.setIfInBounds_toArray, List.set]))
      (refine Rg4.w4_any (Rg4.want_none rfl) rfl ?_; apply Exists.intro; refine ⟨fun w' => ?_, ?_⟩; (focus (first | (go_simp; done) | (go_simp; first | rfl | (rw [if_neg] <;> first | rfl | omega) | (rw [if_pos] <;> first | rfl | omega)))); (try simp only [Act.put, List.setIfInBounds_toArray, List.set]))
      (refine Rg4.w4_any (Rg4.want_none rfl) rfl ?_; apply Exists.intro; refine ⟨fun w' => ?_, ?_⟩; (focus (first | (go_simp; done) | (go_simp; first | rfl | (rw [if_neg] <;> first | rfl | omega) | (rw [if_pos] <;> first | rfl | omega)))); (try simp only [Act.put, List.setIfInBounds_toArray, List.set]))
      (refine Rg4.w4_any (Rg4.want_none rfl) rfl ?_; apply Exists.intro; refine ⟨fun w' => ?_, ?_⟩; (focus (first | (go_simp; done) | (go_simp; first | rfl | (rw [if_neg] <;> first | rfl | omega) | (rw [if_pos] <;> first | rfl | omega)))); (try simp only [Act.put, List.setIfInBounds_toArray, List.set]))
      (refine Rg4.w4_any (Rg4.want_none rfl) rfl ?_; apply Exists.intro; refine ⟨fun w' => ?_, ?_⟩; (focus (first | (go_simp; done) | (go_simp; first | rfl | (rw [if_neg] <;> first | rfl | omega) | (rw [if_pos] <;> first | rfl | omega)))); (try simp only [Act.put, List.setIfInBounds_toArray, List.set]))
      refine Rg4.w4_nil (fun w' hw' hcl' _ => ?_); subst hw'; clear hcl'
      go_wp2_with fail
      have st' := st.keep [0] (by decide) (by simp)
      go_roundg (n - (j + 1))
      case measure => omega
      case rel => exact ⟨j + 1, q + (wc + fw.length + ro.length + rd.length), by omega, by omega, by go_num, Lib.hid (by rw [HTK.out, HQ.out]), hq2, by go_num, by simpa [pick] using st'⟩
    · obtain rfl : j = n := by omega
      have hqw : q = wl := by
        have := HQ.out
        rw [List.take_of_length_le (by have := HN.out; omega), HWL.out] at this
        exact this
      subst hqw
      clear HT
      go_wp2_with fail
      go_ret
      exact ⟨rfl, st.ext0⟩
end Go.Proofs.Ytekngjkjgmplpaa

namespace Go.Proofs.Ytekngjkjgmplpaa
set_option linter.unusedSimpArgs false
set_option linter.unusedVariables false
open Go Go.RowKit
def stepR (x : StepT) : Bool := credR x.c && roleEq x.f.r x.c.h && nameR x.f.w
set_option maxRecDepth 100000 in
set_option maxHeartbeats 4000000 in
theorem chkRight_any (x : StepT) (W : World) (hl : CLenS x.c) (hw : x.f.w.length ≤ 100000) :
    Calls Try.prog 116 #[stV x] W fun e w' => e = .returned (.bool (stepR x)) ∧ Ext W w' := by
  have HCR := Lib.hid (fun W => credRight_any x.c W hl)
  have HNR := Lib.hid (fun W => right_any x.f.w W hw)
  have HR : Hid (stepR x = (credR x.c && roleEq x.f.r x.c.h && nameR x.f.w)) := Lib.hid rfl
  obtain ⟨r, hr⟩ : ∃ r, stepR x = r := ⟨_, rfl⟩
  rw [hr] at HR ⊢
  obtain ⟨cr, hcr⟩ : ∃ b, credR x.c = b := ⟨_, rfl⟩
  rw [hcr] at HR HCR
  obtain ⟨nr, hnr⟩ : ∃ b, nameR x.f.w = b := ⟨_, rfl⟩
  rw [hnr] at HR HNR
  clear hr hcr hnr hl hw
  obtain ⟨⟨k, ⟨ho, hd⟩, nw, ⟨bo, bd⟩, ⟨co, cd⟩, we⟩, ⟨⟨ro, rd⟩, fw⟩⟩ := x
  simp only at HR HCR HNR
  unfold cV at HCR
  have st := Own.startOld W
  unfold stV
  unfold S at *
  (try simp only [Value.cells, List.cons_append, List.nil_append, List.set, spl, putIt, pick, List.map_cons, List.map_nil, List.getElem?_cons_zero, List.getElem?_cons_succ, Option.getD_some, List.drop_succ_cons, List.drop_zero, List.drop_nil, List.append_nil, unB] at st)
  (try clear hc); have hc := st.facts; (try simp only [factsOf, blkI, blkFacts, rowI, byI, datI, nullI, oldI, penI, rdI, rdAnyI, rdOverI, Nat.zero_add, Nat.reduceAdd, and_true, true_and, and_self] at hc)
  cases cr with
  | false =>
    have HF : Hid (r = false) := Lib.hid (by rw [HR.out]; rfl)
    go_enter Try.func116, Try.ntmps116
    go_wp2_with ((((with_reducible refine wl_box ?_ (fun K hK => ?_)); rfl; refine owp_box (o := ⟨some 1, _, _, _, _, _⟩) rfl st ?_; apply Exists.intro; refine ⟨?_, ?_⟩; (focus (go_simp; try rfl)); (clear st; intro b1 w hb st; clear hb))); (try simp only [Value.cells, List.cons_append, List.nil_append, List.set, spl, putIt, pick, List.map_cons, List.map_nil, List.getElem?_cons_zero, List.getElem?_cons_succ, Option.getD_some, List.drop_succ_cons, List.drop_zero, List.drop_nil, List.append_nil, unB] at st); (try clear hc); have hc := st.facts; (try simp only [factsOf, blkI, blkFacts, rowI, byI, datI, nullI, oldI, penI, rdI, rdAnyI, rdOverI, Nat.zero_add, Nat.reduceAdd, and_true, true_and, and_self] at hc))
    refine (HCR.out _).mono ?_
    rintro en w ⟨rfl, hx⟩
    replace st := st.ext hx
    clear hx
    (try clear hc); have hc := st.facts; (try simp only [factsOf, blkI, blkFacts, rowI, byI, datI, nullI, oldI, penI, rdI, rdAnyI, rdOverI, Nat.zero_add, Nat.reduceAdd, and_true, true_and, and_self] at hc)
    go_wp2_with fail
    go_ret
    exact ⟨by rw [HF.out]; rfl, st.ext0⟩
  | true =>
    cases hre : roleEq (ro, rd) (ho, hd) with
    | false =>
      have HF : Hid (r = false) := Lib.hid (by rw [HR.out, hre]; rfl)
      go_enter Try.func116, Try.ntmps116
      go_wp2_with ((((with_reducible refine wl_box ?_ (fun K hK => ?_)); rfl; refine owp_box (o := ⟨some 1, _, _, _, _, _⟩) rfl st ?_; apply Exists.intro; refine ⟨?_, ?_⟩; (focus (go_simp; try rfl)); (clear st; intro b1 w hb st; clear hb))); (try simp only [Value.cells, List.cons_append, List.nil_append, List.set, spl, putIt, pick, List.map_cons, List.map_nil, List.getElem?_cons_zero, List.getElem?_cons_succ, Option.getD_some, List.drop_succ_cons, List.drop_zero, List.drop_nil, List.append_nil, unB] at st); (try clear hc); have hc := st.facts; (try simp only [factsOf, blkI, blkFacts, rowI, byI, datI, nullI, oldI, penI, rdI, rdAnyI, rdOverI, Nat.zero_add, Nat.reduceAdd, and_true, true_and, and_self] at hc))
      refine (HCR.out _).mono ?_
      rintro en w ⟨rfl, hx⟩
      replace st := st.ext hx
      clear hx
      (try clear hc); have hc := st.facts; (try simp only [factsOf, blkI, blkFacts, rowI, byI, datI, nullI, oldI, penI, rdI, rdAnyI, rdOverI, Nat.zero_add, Nat.reduceAdd, and_true, true_and, and_self] at hc)
      go_wp2_with fail
      go_ret
      exact ⟨by rw [HF.out]; rfl, st.ext0⟩
    | true =>
      have HF : Hid (r = nr) := Lib.hid (by rw [HR.out, hre]; rfl)
      go_enter Try.func116, Try.ntmps116
      go_wp2_with ((((with_reducible refine wl_box ?_ (fun K hK => ?_)); rfl; refine owp_box (o := ⟨some 1, _, _, _, _, _⟩) rfl st ?_; apply Exists.intro; refine ⟨?_, ?_⟩; (focus (go_simp; try rfl)); (clear st; intro b1 w hb st; clear hb))); (try simp only [Value.cells, List.cons_append, List.nil_append, List.set, spl, putIt, pick, List.map_cons, List.map_nil, List.getElem?_cons_zero, List.getElem?_cons_succ, Option.getD_some, List.drop_succ_cons, List.drop_zero, List.drop_nil, List.append_nil, unB] at st); (try clear hc); have hc := st.facts; (try simp only [factsOf, blkI, blkFacts, rowI, byI, datI, nullI, oldI, penI, rdI, rdAnyI, rdOverI, Nat.zero_add, Nat.reduceAdd, and_true, true_and, and_self] at hc))
      refine (HCR.out _).mono ?_
      rintro en w ⟨rfl, hx⟩
      replace st := st.ext hx
      clear hx
      (try clear hc); have hc := st.facts; (try simp only [factsOf, blkI, blkFacts, rowI, byI, datI, nullI, oldI, penI, rdI, rdAnyI, rdOverI, Nat.zero_add, Nat.reduceAdd, and_true, true_and, and_self] at hc)
      go_wp2_with fail
      refine (HNR.out _).mono ?_
      rintro en w ⟨rfl, hx⟩
      replace st := st.ext hx
      clear hx
      (try clear hc); have hc := st.facts; (try simp only [factsOf, blkI, blkFacts, rowI, byI, datI, nullI, oldI, penI, rdI, rdAnyI, rdOverI, Nat.zero_add, Nat.reduceAdd, and_true, true_and, and_self] at hc)
      go_wp2_with fail
      go_ret
      exact ⟨by rw [HF.out]; rfl, st.ext0⟩
set_option maxRecDepth 100000 in
set_option maxHeartbeats 2000000 in
theorem chkPut1_any (x : StepT) (W : World) (hl : CLenS x.c) (hw : x.f.w.length ≤ 100000) :
    Calls Try.prog 115 #[stV x] W fun e w' => e = .returned (.bool (!stepR x)) ∧ Ext W w' := by
  have HCR := Lib.hid (fun W => chkRight_any x W hl hw)
  obtain ⟨r, hr⟩ : ∃ r, stepR x = r := ⟨_, rfl⟩
  rw [hr] at HCR ⊢
  clear hr hl hw
  obtain ⟨⟨k, ⟨ho, hd⟩, nw, ⟨bo, bd⟩, ⟨co, cd⟩, we⟩, ⟨⟨ro, rd⟩, fw⟩⟩ := x
  have st := Own.startOld W
  unfold stV S at *
  (try simp only [Value.cells, List.cons_append, List.nil_append, List.set, spl, putIt, pick, List.map_cons, List.map_nil, List.getElem?_cons_zero, List.getElem?_cons_succ, Option.getD_some, List.drop_succ_cons, List.drop_zero, List.drop_nil, List.append_nil, unB] at st)
  (try clear hc); have hc := st.facts; (try simp only [factsOf, blkI, blkFacts, rowI, byI, datI, nullI, oldI, penI, rdI, rdAnyI, rdOverI, Nat.zero_add, Nat.reduceAdd, and_true, true_and, and_self] at hc)
  go_enter Try.func115, Try.ntmps115
  go_wp2_with ((((with_reducible refine wl_box ?_ (fun K hK => ?_)); rfl; refine owp_box (o := ⟨some 1, _, _, _, _, _⟩) rfl st ?_; apply Exists.intro; refine ⟨?_, ?_⟩; (focus (go_simp; try rfl)); (clear st; intro b1 w hb st; clear hb))); (try simp only [Value.cells, List.cons_append, List.nil_append, List.set, spl, putIt, pick, List.map_cons, List.map_nil, List.getElem?_cons_zero, List.getElem?_cons_succ, Option.getD_some, List.drop_succ_cons, List.drop_zero, List.drop_nil, List.append_nil, unB] at st); (try clear hc); have hc := st.facts; (try simp only [factsOf, blkI, blkFacts, rowI, byI, datI, nullI, oldI, penI, rdI, rdAnyI, rdOverI, Nat.zero_add, Nat.reduceAdd, and_true, true_and, and_self] at hc))
  refine (HCR.out _).mono ?_
  rintro en w ⟨rfl, hx⟩
  replace st := st.ext hx
  clear hx
  (try clear hc); have hc := st.facts; (try simp only [factsOf, blkI, blkFacts, rowI, byI, datI, nullI, oldI, penI, rdI, rdAnyI, rdOverI, Nat.zero_add, Nat.reduceAdd, and_true, true_and, and_self] at hc)
  go_wp2_with fail
  go_ret
  exact ⟨rfl, st.ext0⟩
end Go.Proofs.Ytekngjkjgmplpaa

namespace Go.Proofs.Ytekngjkjgmplpaa
set_option linter.unusedSimpArgs false
set_option linter.unusedVariables false
open Go Go.RowKit
set_option maxRecDepth 100000 in
set_option maxHeartbeats 1000000 in
theorem stepIndexFunc_any (a : Option Addr) (n c : Nat) (xs : List StepT) (W : World) (h : Fl W a n xs) (hn : n ≤ 2000000) (F : FuncId) (cap : Array Value) (p : StepT → Bool)
    (hi : ∀ w x, (callFunc F (#[x] ++ cap)).run Try.prog w = .ok (.enter F (#[x] ++ cap)) w)
    (hp : ∀ x ∈ xs, ∀ w, Ext W w → Calls Try.prog F (#[stV x] ++ cap) w fun e w' => e = .returned (.bool (p x)) ∧ Ext w w') :
    Calls Try.prog 173 #[.slice a n c, .func (.func F) #[] cap] W fun e w' => ∃ v : Int, e = .returned (.int .i64 v) ∧ (0 ≤ v ↔ xs.any p = true) ∧ Ext W w' := by
  have HP := Lib.hid hp
  have H := Lib.hid h
  have HN := Lib.hid h.1
  have st := Own.startOld W
  clear hp h
  (try simp only [Value.cells, List.cons_append, List.nil_append, List.set, spl, putIt, pick, List.map_cons, List.map_nil, List.getElem?_cons_zero, List.getElem?_cons_succ, Option.getD_some, List.drop_succ_cons, List.drop_zero, List.drop_nil, List.append_nil, unB] at st)
  (try clear hc); have hc := st.facts; (try simp only [factsOf, blkI, blkFacts, rowI, byI, datI, nullI, oldI, penI, rdI, rdAnyI, rdOverI, Nat.zero_add, Nat.reduceAdd, and_true, true_and, and_self] at hc)
  go_enter Try.func173, Try.ntmps173
  go_wp2_with fail
  go_loopg [8] n (fun k i wr => ∃ (j : Nat), j ≤ n ∧ k = n - j ∧ i = .int .i64 (j : Int) ∧ Hid (∀ x ∈ xs.take j, p x = false) ∧ Own (fun _ => False) (fun _ => True) W [oldI W] wr)
  case atStart => exact ⟨0, by omega, by omega, rfl, Lib.hid (by simp), st⟩
  case round =>
    obtain ⟨j, hj, rfl, rfl, HT, st'⟩ := hrel
    clear st hc
    have st := st'
    clear st'
    (try simp only [Value.cells, List.cons_append, List.nil_append, List.set, spl, putIt, pick, List.map_cons, List.map_nil, List.getElem?_cons_zero, List.getElem?_cons_succ, Option.getD_some, List.drop_succ_cons, List.drop_zero, List.drop_nil, List.append_nil, unB] at st)
    (try clear hc); have hc := st.facts; (try simp only [factsOf, blkI, blkFacts, rowI, byI, datI, nullI, oldI, penI, rdI, rdAnyI, rdOverI, Nat.zero_add, Nat.reduceAdd, and_true, true_and, and_self] at hc)
    by_cases hjn : j < n
    · obtain ⟨b, off, ha, hcell⟩ := H.out.step (by omega)
      have hjl : j < xs.length := by have := HN.out; omega
      obtain ⟨r0, r1, r2, r3, r4, r5, r6, r7, r8, r9, r10, r11⟩ := hcell j xs[j] (List.getElem?_eq_getElem hjl)
      replace r0 := st.oldCell (i := 0) get0 r0
      replace r1 := st.oldCell (i := 0) get0 r1
      replace r2 := st.oldCell (i := 0) get0 r2
      replace r3 := st.oldCell (i := 0) get0 r3
      replace r4 := st.oldCell (i := 0) get0 r4
      replace r5 := st.oldCell (i := 0) get0 r5
      replace r6 := st.oldCell (i := 0) get0 r6
      replace r7 := st.oldCell (i := 0) get0 r7
      replace r8 := st.oldCell (i := 0) get0 r8
      replace r9 := st.oldCell (i := 0) get0 r9
      replace r10 := st.oldCell (i := 0) get0 r10
      replace r11 := st.oldCell (i := 0) get0 r11
      have hts : xs.take (j + 1) = xs.take j ++ [xs[j]] := (List.take_append_getElem hjl).symm
      have hx := HP.out xs[j] (List.getElem_mem hjl)
      have hmem := List.getElem_mem hjl
      clear hcell
      generalize xs[j] = x at *
      obtain ⟨⟨ck, ⟨ho, hd⟩, cw, ⟨bo, bd⟩, ⟨co, cd⟩, we⟩, ⟨⟨ro, rd⟩, fw⟩⟩ := x
      have HX := Lib.hid (And.intro hts hmem)
      clear hts hmem hjl
      subst ha
      simp only at r0 r1 r2 r3 r4 r5 r6 r7 r8 r9 r10 r11
      unfold S at r1 r2 r3 r4 r5 r6 r7 r8 r9 r10 r11
      unfold stV S at hx
      have HQ := Lib.hid hx
      clear hx
      go_wp2_with fail
      refine (HQ.out _ st.ext0).mono ?_
      rintro en w ⟨rfl, hx⟩
      replace st := st.ext hx
      clear hx r0 r1 r2 r3 r4 r5 r6 r7 r8 r9 r10 r11
      by_cases hpx : p ⟨⟨ck, (ho, hd), cw, (bo, bd), (co, cd), we⟩, ⟨(ro, rd), fw⟩⟩ = true
      · rw [hpx]
        have HF : Hid (xs.any p = true) := Lib.hid (List.any_eq_true.2 ⟨_, HX.out.2, hpx⟩)
        clear hpx
        go_wp2_with fail
        go_ret
        exact ⟨_, rfl, ⟨fun _ => HF.out, fun _ => by omega⟩, st.ext0⟩
      · have hpf : p ⟨⟨ck, (ho, hd), cw, (bo, bd), (co, cd), we⟩, ⟨(ro, rd), fw⟩⟩ = false := by simpa using hpx
        rw [hpf]
        have HF : Hid (∀ x ∈ xs.take (j + 1), p x = false) := Lib.hid (fun x hx => by
          rw [HX.out.1] at hx
          rcases List.mem_append.1 hx with q | q
          · exact HT.out x q
          · rw [List.mem_singleton.1 q]; exact hpf)
        clear hpx hpf
        go_wp2_with fail
        go_roundg (n - (j + 1))
        case measure => omega
        case rel => exact ⟨j + 1, by omega, by omega, by go_num, HF, st⟩
    · obtain rfl : j = n := by omega
      have HF : Hid (xs.any p = false) := Lib.hid (by
        rw [List.any_eq_false]
        intro x hx
        have := HT.out x (by rw [List.take_of_length_le (by have := HN.out; omega)]; exact hx)
        simp [this])
      go_wp2_with fail
      go_ret
      exact ⟨_, rfl, ⟨fun q => by omega, fun q => by rw [HF.out] at q; cases q⟩, st.ext0⟩
set_option maxRecDepth 100000 in
set_option maxHeartbeats 1000000 in
theorem stepContainsFunc_any (a : Option Addr) (n c : Nat) (xs : List StepT) (W : World) (h : Fl W a n xs) (hn : n ≤ 2000000) (F : FuncId) (cap : Array Value) (p : StepT → Bool)
    (hi : ∀ w x, (callFunc F (#[x] ++ cap)).run Try.prog w = .ok (.enter F (#[x] ++ cap)) w)
    (hp : ∀ x ∈ xs, ∀ w, Ext W w → Calls Try.prog F (#[stV x] ++ cap) w fun e w' => e = .returned (.bool (p x)) ∧ Ext w w') :
    Calls Try.prog 114 #[.slice a n c, .func (.func F) #[] cap] W fun e w' => e = .returned (.bool (xs.any p)) ∧ Ext W w' := by
  have HI := Lib.hid (stepIndexFunc_any a n c xs W h hn F cap p hi hp)
  obtain ⟨r, hr⟩ : ∃ r, xs.any p = r := ⟨_, rfl⟩
  rw [hr] at HI ⊢
  clear hp h hi hr
  go_enter Try.func114, Try.ntmps114
  go_wp2_with fail
  refine HI.out.mono ?_
  rintro en w' ⟨v, rfl, hv, hx⟩
  by_cases h0 : 0 ≤ v
  · have hr : r = true := hv.1 h0
    subst hr
    clear hv
    go_wp2_with fail
    go_ret
    exact ⟨by simp [h0], hx⟩
  · have hr : r = false := by cases r with | false => rfl | true => exact absurd (hv.2 rfl) h0
    subst hr
    clear hv
    go_wp2_with fail
    go_ret
    exact ⟨by simp; omega, hx⟩
end Go.Proofs.Ytekngjkjgmplpaa

namespace Go.Proofs.Ytekngjkjgmplpaa
set_option linter.unusedSimpArgs false
set_option linter.unusedVariables false
open Go Go.RowKit
def flI {α : Type} [Flt α] (a : Option Addr) (n : Nat) (xs : List α) : It where
  P _ s w := Fl w a n xs ∧ (0 < n → ∀ ad, a = some ad → s ad.block)
  st := by
    rintro e s w w' ⟨h1, h2⟩ hag
    refine ⟨⟨h1.1, fun h0 => ?_⟩, h2⟩
    obtain ⟨b, off, rfl, hc⟩ := h1.2 h0
    refine ⟨b, off, rfl, fun i x hi j v hj => ?_⟩
    rw [World.cell?_of_block (w := w) (hag b (.inr (h2 h0 _ rfl)))]
    exact hc i x hi j v hj
  facts _ := True
  ok := fun _ => trivial
section
variable {fr al : Nat → Prop} {w0 w : World} {L : List It} {α : Type} [Flt α]
theorem Own.flAt (st : Own fr al w0 L w) {i n : Nat} {a : Option Addr} {xs : List α} (hi : L[i]? = some (flI a n xs)) : Fl w a n xs := let ⟨_, _, h, _⟩ := st.get hi; h.1
theorem Own.addOldFl (st : Own fr al w0 L w) {i : Nat} {W0 : World} (hi : L[i]? = some (oldI W0)) {a : Option Addr} {n : Nat} {xs : List α} (h : Fl W0 a n xs) : Own fr al w0 (L ++ [flI a n xs]) w :=
  st.share hi fun e s h1 => ⟨st.oldFl hi h, fun h0 ad had => by
    obtain ⟨b, off, hb, hc⟩ := h.2 h0
    rw [had] at hb
    cases hb
    have hx : 0 < xs.length := by have := h.1; omega
    have hk := Flt.pos (α := α)
    have h2 : 0 < (Flt.cells xs[0]).length := by rw [Flt.len]; exact hk
    exact h1.1 _ (show b < _ from World.block_lt_of_cell? W0 ⟨b, off + 0 * Flt.k α + 0, none⟩ (hc 0 _ (List.getElem?_eq_getElem hx) 0 _ (List.getElem?_eq_getElem h2)))⟩
theorem Own.blkToFl (st : Own fr al w0 L w) {i b n : Nat} {vs : List Value} (xs : List α) (hi : L[i]? = some (blkI b vs)) (he : vs = cellsL xs) (hn : xs.length = n) : Own fr al w0 (L.set i (flI (some ⟨b, 0, none⟩) n xs)) w :=
  st.conv hi fun e s ⟨h1, h2⟩ h3 => ⟨fun _ => False, fun k => k = b, ⟨by subst hn; exact fl_lit h2 xs he, fun _ ad had => by cases had; rfl⟩, fun _ q => q.elim, fun k hk => .inl (hk ▸ h1), fun _ q => q.elim⟩
theorem Own.rowToFl (st : Own fr al w0 L w) {i n c : Nat} {E : TypeId} {a : Option Addr} {xs : List α} (hi : L[i]? = some (rowI E (Flt.k α) (.slice a n c) n (cellsL xs))) : Own fr al w0 (L.set i (flI a n xs)) w :=
  st.conv hi fun e s ⟨h1, h2⟩ h3 => ⟨fun _ => False, fun k => e k, ⟨by
    obtain ⟨a', c', hv, _, h4⟩ := row_fl h1
    injection hv with q1 _ q3
    subst q1 q3
    exact h4, fun h0 ad had => by
    refine h2 _ ?_
    rw [had]; rfl⟩, fun _ q => q.elim, fun k hk => .inl hk, fun _ q => q.elim⟩
end
/-- n of them, one behind another. -/
def rdN {α : Type} (f : List UInt8 → Except Int (α × List UInt8)) : Nat → List UInt8 → Except Int (List α × List UInt8)
  | 0, xs => .ok ([], xs)
  | n + 1, xs => match f xs with | .error e => .error e | .ok (x, ys) => match rdN f n ys with | .error e => .error e | .ok (l, zs) => .ok (x :: l, zs)
def addN {α : Type} (out : List α) (r : Except Int (List α × List UInt8)) : Except Int (List α × List UInt8) := match r with | .error e => .error e | .ok (l, zs) => .ok (out ++ l, zs)
section
variable {α : Type} (f : List UInt8 → Except Int (α × List UInt8))
theorem addN_nil (r : Except Int (List α × List UInt8)) : addN [] r = r := by
  cases r with
  | error e => rfl
  | ok p => rfl
theorem addN_end (out : List α) (ys : List UInt8) : addN out (rdN f 0 ys) = .ok (out, ys) := by simp [rdN, addN]
theorem addN_er (out : List α) (k : Nat) {ys : List UInt8} {e : Int} (h : f ys = .error e) : addN out (rdN f (k + 1) ys) = .error e := by simp [rdN, addN, h]
theorem addN_ok (out : List α) (k : Nat) {ys zs : List UInt8} {x : α} (h : f ys = .ok (x, zs)) : addN out (rdN f (k + 1) ys) = addN (out ++ [x]) (rdN f k zs) := by
  simp only [rdN, h]
  cases rdN f k zs with
  | error e => rfl
  | ok p => simp [addN]
theorem rdN_le {k : Nat} {xs ys : List UInt8} {l : List α} (hf : ∀ xs x ys, f xs = .ok (x, ys) → ys.length ≤ xs.length) (h : rdN f k xs = .ok (l, ys)) : ys.length ≤ xs.length ∧ l.length = k := by
  induction k generalizing xs ys l with
  | zero => simp [rdN] at h; obtain ⟨rfl, rfl⟩ := h; simp
  | succ k ih =>
    unfold rdN at h
    cases h1 : f xs with
    | error e => rw [h1] at h; cases h
    | ok p =>
      obtain ⟨x, zs⟩ := p
      rw [h1] at h
      simp only at h
      cases h2 : rdN f k zs with
      | error e => rw [h2] at h; cases h
      | ok q =>
        obtain ⟨m, us⟩ := q
        rw [h2] at h
        simp only [Except.ok.injEq, Prod.mk.injEq] at h
        obtain ⟨rfl, rfl⟩ := h
        have := ih h2
        have := hf _ _ _ h1
        exact ⟨by omega, by simp; omega⟩
theorem rdN_er {k : Nat} {xs : List UInt8} {e : Int} (hf : ∀ xs e, f xs = .error e → e ≠ 0) (h : rdN f k xs = .error e) : e ≠ 0 := by
  induction k generalizing xs e with
  | zero => simp [rdN] at h
  | succ k ih =>
    unfold rdN at h
    cases h1 : f xs with
    | error e2 => rw [h1] at h; simp at h; subst h; exact hf _ _ h1
    | ok p =>
      obtain ⟨x, zs⟩ := p
      rw [h1] at h
      simp only at h
      cases h2 : rdN f k zs with
      | error e2 => rw [h2] at h; simp at h; subst h; exact ih h2
      | ok q => rw [h2] at h; cases h
theorem rdN_put (g : α → List UInt8) (l : List α) (ys : List UInt8) (h : ∀ x ∈ l, ∀ ys, f (g x ++ ys) = .ok (x, ys)) : rdN f l.length (l.flatMap g ++ ys) = .ok (l, ys) := by
  induction l with
  | nil => simp [rdN]
  | cons x l ih =>
    simp only [List.length_cons, rdN, List.flatMap_cons, List.append_assoc]
    rw [h x (by simp)]
    simp only
    rw [ih fun y hy => h y (by simp [hy])]
end
end Go.Proofs.Ytekngjkjgmplpaa

namespace Go.Proofs.Ytekngjkjgmplpaa
set_option linter.unusedSimpArgs false
set_option linter.unusedVariables false
open Go Go.RowKit
theorem rdName_put (s ys : List UInt8) (h : nameR s = true) : rdName (numB s.length ++ s ++ ys) = .ok (s, ys) := by
  unfold rdName
  rw [show (16 : Int) = ((16 : Nat) : Int) from rfl, rdText_put 16 s ys (nameR_len h).2 (by decide)]
  simp [h]
theorem rdRole_put (x : Role) (h : roleR x = true) : rdRole (roleB x) = .ok (x, []) := by
  obtain ⟨o, d⟩ := x
  have hr : nameR o = true ∧ nameR d = true := by simpa [roleR] using h
  unfold rdRole roleB
  simp only
  rw [show numB o.length ++ o ++ (numB d.length ++ d) = numB o.length ++ o ++ (numB d.length ++ d ++ []) by simp, rdName_put o _ hr.1]
  simp only
  rw [rdName_put d [] hr.2]
theorem nameR_dot {s : List UInt8} (h : nameR s = true) : ∀ x ∈ s, x ≠ 46 := by
  have key : ∀ c : UInt8, sgn c = true → c ≠ 46 := fun c hc e => by subst e; revert hc; decide
  cases s with
  | nil => intro x hx; simp at hx
  | cons c s =>
    have hl : (decide (s.length + 1 ≤ 16) && ltr c && (c :: s).all sgn) = true := h
    simp only [Bool.and_eq_true, List.all_eq_true] at hl
    intro x hx
    exact key x (hl.2 x hx)
theorem roleP_text (x : Role) (h : roleR x = true) : roleP (roleT x) = some x := by
  obtain ⟨o, d⟩ := x
  have hr : nameR o = true ∧ nameR d = true := by simpa [roleR] using h
  have h1 : (roleT (o, d))[o.length]? = some 46 := by simp [roleT]
  have h2 : (roleT (o, d)).take o.length = o := by simp [roleT]
  have h3 : (roleT (o, d)).drop (o.length + 1) = d := by simp [roleT]
  rw [roleP_at h1 (by rw [h2]; exact nameR_dot hr.1), h2, h3, if_pos h]
theorem rdRole_puts (x : Role) (ys : List UInt8) (h : roleR x = true) : rdRole (roleB x ++ ys) = .ok (x, ys) := by
  obtain ⟨o, d⟩ := x
  have hr : nameR o = true ∧ nameR d = true := by simpa [roleR] using h
  unfold rdRole roleB
  simp only
  rw [show numB o.length ++ o ++ (numB d.length ++ d) ++ ys = numB o.length ++ o ++ (numB d.length ++ d ++ ys) by simp, rdName_put o _ hr.1]
  simp only
  rw [rdName_put d ys hr.2]
end Go.Proofs.Ytekngjkjgmplpaa

namespace Go.Proofs.Ytekngjkjgmplpaa
set_option linter.unusedSimpArgs false
set_option linter.unusedVariables false
open Go Go.RowKit
theorem rdRole_err {xs : List UInt8} {e : Int} (h : rdRole xs = .error e) : e ≠ 0 := by
  unfold rdRole at h
  cases hr : rdName xs with
  | error e2 => rw [hr] at h; simp at h; subst h; exact rdName_er hr
  | ok p =>
    obtain ⟨o, ys⟩ := p
    rw [hr] at h; simp only at h
    cases hr2 : rdName ys with
    | error e2 => rw [hr2] at h; simp at h; subst h; exact rdName_er hr2
    | ok p => rw [hr2] at h; simp at h
theorem rdCred_er {xs : List UInt8} {e : Int} (h : rdCred xs = .error e) : e ≠ 0 := by
  have fin : ∀ {c ys}, okCr c ys = .error e → e ≠ 0 := fun {c ys} h => by
    unfold okCr at h; split at h
    · cases h
    · cases h; decide
  unfold rdCred at h
  cases h0 : rdNumber 9223372036854775807 xs with
  | error e0 => rw [h0, bd_er] at h; cases h; exact rdNumber_er h0
  | ok p =>
    obtain ⟨n, ys⟩ := p
    rw [h0, bd_ok] at h
    split at h
    · cases h; decide
    · cases h1 : rdRole ys with
      | error e0 => rw [h1, bd_er] at h; cases h; exact rdRole_err h1
      | ok p =>
        obtain ⟨hh, zs⟩ := p
        rw [h1, bd_ok] at h
        split at h
        · cases h2 : rdName zs with
          | error e0 => rw [h2, bd_er] at h; cases h; exact rdName_er h2
          | ok p => obtain ⟨w, us⟩ := p; rw [h2, bd_ok] at h; exact fin h
        · cases h2 : rdRole zs with
          | error e0 => rw [h2, bd_er] at h; cases h; exact rdRole_err h2
          | ok p =>
            obtain ⟨b, us⟩ := p
            rw [h2, bd_ok] at h
            split at h
            · exact fin h
            · split at h
              · cases h3 : rdName us with
                | error e0 => rw [h3, bd_er] at h; cases h; exact rdName_er h3
                | ok p => obtain ⟨w, us⟩ := p; rw [h3, bd_ok] at h; exact fin h
              · cases h3 : rdRole us with
                | error e0 => rw [h3, bd_er] at h; cases h; exact rdRole_err h3
                | ok p => obtain ⟨w, us⟩ := p; rw [h3, bd_ok] at h; exact fin h
end Go.Proofs.Ytekngjkjgmplpaa

namespace Go.Proofs.Ytekngjkjgmplpaa
set_option linter.unusedSimpArgs false
set_option linter.unusedVariables false
open Go Go.RowKit
theorem penBytesRow_c {fr al : Nat → Prop} {w : World} {p : Nat} {xs : List UInt8} (st : Own fr al w [penI p xs] w) (hl : xs.length ≤ 100000000000000) :
    Calls Try.prog 45 #[.pointer (some ⟨p, 0, none⟩)] w fun e w' => ∃ a c, e = .returned (.slice a xs.length c) ∧ (xs.length ≤ c ∧ c ≤ maxLen) ∧ Own fr al w [penI p xs, rowI 5 1 (.slice a xs.length c) xs.length (xs.map B)] w' := by
  obtain ⟨g, hp⟩ := st.pen (i := 0) rfl
  refine (penBytes_own p g xs w hp hl).mono ?_
  rintro e w' ⟨v, rfl, h, hx⟩
  obtain ⟨a, m, c, rfl, h1, h2, h3⟩ := own_by h
  obtain rfl : m = xs.length := h3.1
  refine ⟨a, c, rfl, ⟨h1, h2⟩, ?_⟩
  have := st.new (I := rowI 5 1 (.slice a xs.length c) xs.length (xs.map B)) hx (e' := fun b => (Value.slice a xs.length c).ownBlock = some b) (s' := fun _ => False) ⟨h.mono (Nat.zero_le _), fun k hk => hk⟩ (fun b hb => ⟨(h.lt b hb).2, (h.lt b hb).1⟩) (fun _ q => q.elim) (fun _ _ q => q)
  simpa using this
theorem FreshI.by {w w' : World} {a : Option Addr} {n c : Nat} {xs : List UInt8} (h : FreshI w w' (rowI 5 1 (.slice a n c) n (xs.map B))) : (n ≤ c ∧ c ≤ maxLen) ∧ By w' a n xs := by
  obtain ⟨_, e, ⟨h1, _⟩, _⟩ := h
  obtain ⟨a', m, c', hv, h2, h3, h4⟩ := own_by h1
  injection hv with q1 q2 q3
  subst q1 q2 q3
  exact ⟨⟨h2, h3⟩, h4⟩
theorem Own.rowBy {fr al : Nat → Prop} {w0 w : World} {L : List It} (st : Own fr al w0 L w) {i : Nat} {a : Option Addr} {n c : Nat} {xs : List UInt8} (hi : L[i]? = some (rowI 5 1 (.slice a n c) n (xs.map B))) : (n ≤ c ∧ c ≤ maxLen) ∧ By w a n xs := by
  obtain ⟨a', m, c', hv, h2, h3, h4⟩ := own_by (st.row hi)
  injection hv with q1 q2 q3
  subst q1 q2 q3
  exact ⟨⟨h2, h3⟩, h4⟩
theorem Own.rowFl3 {α : Type} [Flt α] {fr al : Nat → Prop} {w0 w : World} {L : List It} (st : Own fr al w0 L w) {i n c : Nat} {a : Option Addr} {E : TypeId} {xs : List α} (hi : L[i]? = some (rowI E (Flt.k α) (.slice a n c) n (cellsL xs))) : (n ≤ c ∧ c ≤ maxLen) ∧ Fl w a n xs := by
  obtain ⟨a1, c1, hv, hc1, hfl⟩ := st.rowFl hi
  injection hv with hv1 _ hv3
  subst hv1 hv3
  exact ⟨hc1, hfl⟩
set_option maxRecDepth 100000 in
set_option maxHeartbeats 1000000 in
theorem credBytes_f (x : CredT) (W : World) (hl : CredL 100000 x) :
    Calls Try.prog 119 #[cV x] W fun e w' => ∃ a n c, e = .returned (.slice a n c) ∧ FreshI W w' (rowI 5 1 (.slice a n c) n ((credBy x).map B)) := by
  have HR := Lib.hid (fun W => credRight_any x W (by unfold CredL at hl; omega))
  have HE := Lib.hid (show credBy x = if credR x = true then credB x else [] from rfl)
  generalize credBy x = r at *
  cases hr : credR x with
  | false =>
    have H := Lib.hid hr
    obtain ⟨k, ⟨ho, hd⟩, nw, ⟨bo, bd⟩, ⟨co, cd⟩, we⟩ := x
    clear hl hr
    have st := Own.startOld W
    unfold cV S at *
    simp only at HR
    (try simp only [Value.cells, List.cons_append, List.nil_append, List.set, spl, putIt, pick, List.map_cons, List.map_nil, List.getElem?_cons_zero, List.getElem?_cons_succ, Option.getD_some, List.drop_succ_cons, List.drop_zero, List.drop_nil, List.append_nil, unB] at st)
    (try clear hc); have hc := st.facts; (try simp only [factsOf, blkI, blkFacts, rowI, byI, datI, nullI, oldI, penI, rdI, rdAnyI, rdOverI, Nat.zero_add, Nat.reduceAdd, and_true, true_and, and_self] at hc)
    go_enter Try.func119, Try.ntmps119
    go_wp2_with ((((with_reducible refine wl_box ?_ (fun K hK => ?_)); rfl; refine owp_box (o := ⟨some 1, _, _, _, _, _⟩) rfl st ?_; apply Exists.intro; refine ⟨?_, ?_⟩; (focus (go_simp; try rfl)); (clear st; intro b1 w hb st; clear hb))); (try simp only [Value.cells, List.cons_append, List.nil_append, List.set, spl, putIt, pick, List.map_cons, List.map_nil, List.getElem?_cons_zero, List.getElem?_cons_succ, Option.getD_some, List.drop_succ_cons, List.drop_zero, List.drop_nil, List.append_nil, unB] at st); (try clear hc); have hc := st.facts; (try simp only [factsOf, blkI, blkFacts, rowI, byI, datI, nullI, oldI, penI, rdI, rdAnyI, rdOverI, Nat.zero_add, Nat.reduceAdd, and_true, true_and, and_self] at hc))
    refine (HR.out _).mono ?_
    rintro en w ⟨rfl, hx⟩
    replace st := st.ext hx
    clear hx
    (try clear hc); have hc := st.facts; (try simp only [factsOf, blkI, blkFacts, rowI, byI, datI, nullI, oldI, penI, rdI, rdAnyI, rdOverI, Nat.zero_add, Nat.reduceAdd, and_true, true_and, and_self] at hc)
    rw [H.out]
    go_wp2_with fail
    go_ret
    exact ⟨none, 0, 0, rfl, by rw [HE.out, H.out]; exact (st.row_nil 5 1).toFresh (i := 2) get2⟩
  | true =>
    obtain ⟨hh, hcs⟩ := credR_cases hr
    have H := Lib.hid hr
    obtain ⟨k, ⟨ho, hd⟩, nw, ⟨bo, bd⟩, ⟨co, cd⟩, we⟩ := x
    simp only at hh hcs
    have hb1 := roleB_len hh
    have HH := Lib.hid hh
    clear hl hr hh
    have st := Own.startOld W
    unfold cV S at *
    simp only at HR
    (try simp only [Value.cells, List.cons_append, List.nil_append, List.set, spl, putIt, pick, List.map_cons, List.map_nil, List.getElem?_cons_zero, List.getElem?_cons_succ, Option.getD_some, List.drop_succ_cons, List.drop_zero, List.drop_nil, List.append_nil, unB] at st)
    (try clear hc); have hc := st.facts; (try simp only [factsOf, blkI, blkFacts, rowI, byI, datI, nullI, oldI, penI, rdI, rdAnyI, rdOverI, Nat.zero_add, Nat.reduceAdd, and_true, true_and, and_self] at hc)
    rcases hcs with ⟨rfl, hw, -, -, -⟩ | ⟨-, hbr, ⟨rfl, -, -⟩ | ⟨rfl, -, -, he⟩ | ⟨rfl, -, hcr, -⟩⟩
    · have hl2 := (nameR_len hw).2
      have hb2 : (numB nw.length).length ≤ 10 := numF_len 10 nw.length
      have hnk : (numB 1).length = 1 := by decide +kernel
      have HW := Lib.hid hw
      clear hw
      go_enter Try.func119, Try.ntmps119
      go_wp2_with ((((with_reducible refine wl_box ?_ (fun K hK => ?_)); rfl; refine owp_box (o := ⟨some 1, _, _, _, _, _⟩) rfl st ?_; apply Exists.intro; refine ⟨?_, ?_⟩; (focus (go_simp; try rfl)); (clear st; intro b1 w hb st; clear hb))); (try simp only [Value.cells, List.cons_append, List.nil_append, List.set, spl, putIt, pick, List.map_cons, List.map_nil, List.getElem?_cons_zero, List.getElem?_cons_succ, Option.getD_some, List.drop_succ_cons, List.drop_zero, List.drop_nil, List.append_nil, unB] at st); (try clear hc); have hc := st.facts; (try simp only [factsOf, blkI, blkFacts, rowI, byI, datI, nullI, oldI, penI, rdI, rdAnyI, rdOverI, Nat.zero_add, Nat.reduceAdd, and_true, true_and, and_self] at hc))
      refine (HR.out _).mono ?_
      rintro en w ⟨rfl, hx⟩
      replace st := st.ext hx
      clear hx
      (try clear hc); have hc := st.facts; (try simp only [factsOf, blkI, blkFacts, rowI, byI, datI, nullI, oldI, penI, rdI, rdAnyI, rdOverI, Nat.zero_add, Nat.reduceAdd, and_true, true_and, and_self] at hc)
      rw [H.out]
      go_wp2_with ((((with_reducible refine wl_box ?_ (fun K hK => ?_)); rfl; refine owp_box (o := ⟨some 8, _, _, _, _, _⟩) rfl st ?_; apply Exists.intro; refine ⟨?_, ?_⟩; (focus (go_simp; try rfl)); (clear st; intro b8 w hb st; clear hb))); (try simp only [Value.cells, List.cons_append, List.nil_append, List.set, spl, putIt, pick, List.map_cons, List.map_nil, List.getElem?_cons_zero, List.getElem?_cons_succ, Option.getD_some, List.drop_succ_cons, List.drop_zero, List.drop_nil, List.append_nil, unB] at st); (try clear hc); have hc := st.facts; (try simp only [factsOf, blkI, blkFacts, rowI, byI, datI, nullI, oldI, penI, rdI, rdAnyI, rdOverI, Nat.zero_add, Nat.reduceAdd, and_true, true_and, and_self] at hc))
      replace st := st.newPen (i := 2) get2
      (try simp only [Value.cells, List.cons_append, List.nil_append, List.set, spl, putIt, pick, List.map_cons, List.map_nil, List.getElem?_cons_zero, List.getElem?_cons_succ, Option.getD_some, List.drop_succ_cons, List.drop_zero, List.drop_nil, List.append_nil, unB] at st)
      (try clear hc); have hc := st.facts; (try simp only [factsOf, blkI, blkFacts, rowI, byI, datI, nullI, oldI, penI, rdI, rdAnyI, rdOverI, Nat.zero_add, Nat.reduceAdd, and_true, true_and, and_self] at hc)
      obtain ⟨fr', al', st', back⟩ := st.sub [2] (by decide) (by simp)
      (try simp only [Value.cells, List.cons_append, List.nil_append, List.set, spl, putIt, pick, List.map_cons, List.map_nil, List.getElem?_cons_zero, List.getElem?_cons_succ, Option.getD_some, List.drop_succ_cons, List.drop_zero, List.drop_nil, List.append_nil, unB] at st')
      refine (penNumber_c st' 1 (by decide) (by simp)).mono ?_
      clear st'
      rintro en w ⟨rfl, st'⟩
      replace st := back _ _ (by simp) st'
      clear back st'
      (try simp only [Value.cells, List.cons_append, List.nil_append, List.set, spl, putIt, pick, List.map_cons, List.map_nil, List.getElem?_cons_zero, List.getElem?_cons_succ, Option.getD_some, List.drop_succ_cons, List.drop_zero, List.drop_nil, List.append_nil, unB] at st)
      (try clear hc); have hc := st.facts; (try simp only [factsOf, blkI, blkFacts, rowI, byI, datI, nullI, oldI, penI, rdI, rdAnyI, rdOverI, Nat.zero_add, Nat.reduceAdd, and_true, true_and, and_self] at hc)
      go_wp2_with fail
      (try rw [List.nil_append] at st)
      obtain ⟨fr', al', st', back⟩ := st.sub [2] (by decide) (by simp)
      (try simp only [Value.cells, List.cons_append, List.nil_append, List.set, spl, putIt, pick, List.map_cons, List.map_nil, List.getElem?_cons_zero, List.getElem?_cons_succ, Option.getD_some, List.drop_succ_cons, List.drop_zero, List.drop_nil, List.append_nil, unB] at st')
      refine (rolePut_yes st' (ho, hd) HH.out (by omega)).mono ?_
      clear st'
      rintro en w ⟨rfl, st'⟩
      replace st := back _ _ (by simp) st'
      clear back st'
      (try simp only [Value.cells, List.cons_append, List.nil_append, List.set, spl, putIt, pick, List.map_cons, List.map_nil, List.getElem?_cons_zero, List.getElem?_cons_succ, Option.getD_some, List.drop_succ_cons, List.drop_zero, List.drop_nil, List.append_nil, unB] at st)
      (try clear hc); have hc := st.facts; (try simp only [factsOf, blkI, blkFacts, rowI, byI, datI, nullI, oldI, penI, rdI, rdAnyI, rdOverI, Nat.zero_add, Nat.reduceAdd, and_true, true_and, and_self] at hc)
      go_wp2_with fail
      obtain ⟨fr', al', st', back⟩ := st.sub [2] (by decide) (by simp)
      (try simp only [Value.cells, List.cons_append, List.nil_append, List.set, spl, putIt, pick, List.map_cons, List.map_nil, List.getElem?_cons_zero, List.getElem?_cons_succ, Option.getD_some, List.drop_succ_cons, List.drop_zero, List.drop_nil, List.append_nil, unB] at st')
      refine (namePut_yes st' nw HW.out (by simp; omega)).mono ?_
      clear st'
      rintro en w ⟨rfl, st'⟩
      replace st := back _ _ (by simp) st'
      clear back st'
      (try simp only [Value.cells, List.cons_append, List.nil_append, List.set, spl, putIt, pick, List.map_cons, List.map_nil, List.getElem?_cons_zero, List.getElem?_cons_succ, Option.getD_some, List.drop_succ_cons, List.drop_zero, List.drop_nil, List.append_nil, unB] at st)
      (try clear hc); have hc := st.facts; (try simp only [factsOf, blkI, blkFacts, rowI, byI, datI, nullI, oldI, penI, rdI, rdAnyI, rdOverI, Nat.zero_add, Nat.reduceAdd, and_true, true_and, and_self] at hc)
      obtain ⟨u, hu⟩ : ∃ u, (numB 1 ++ roleB (ho, hd) ++ (numB nw.length ++ nw)) = u := ⟨_, rfl⟩
      rw [hu] at st
      have HU : Hid (r = u) := Lib.hid (by rw [HE.out, if_pos H.out, ← hu]; simp [credB])
      have hul : u.length ≤ 300 := by rw [← hu]; simp; omega
      clear hu
      go_wp2_with fail
      obtain ⟨fr', al', st', back⟩ := st.sub [2] (by decide) (by simp)
      (try simp only [Value.cells, List.cons_append, List.nil_append, List.set, spl, putIt, pick, List.map_cons, List.map_nil, List.getElem?_cons_zero, List.getElem?_cons_succ, Option.getD_some, List.drop_succ_cons, List.drop_zero, List.drop_nil, List.append_nil, unB] at st')
      refine (penBytesRow_c st' (by omega)).mono ?_
      clear st'
      rintro en w ⟨pa, pc, rfl, hpc, st'⟩
      replace st := back _ _ (by simp) st'
      clear back st'
      (try simp only [Value.cells, List.cons_append, List.nil_append, List.set, spl, putIt, pick, List.map_cons, List.map_nil, List.getElem?_cons_zero, List.getElem?_cons_succ, Option.getD_some, List.drop_succ_cons, List.drop_zero, List.drop_nil, List.append_nil, unB] at st)
      (try clear hc); have hc := st.facts; (try simp only [factsOf, blkI, blkFacts, rowI, byI, datI, nullI, oldI, penI, rdI, rdAnyI, rdOverI, Nat.zero_add, Nat.reduceAdd, and_true, true_and, and_self] at hc)
      go_wp2_with fail
      go_ret
      exact ⟨_, _, _, rfl, by rw [HU.out]; exact st.toFresh (i := 3) get3⟩
    · have hb2 := roleB_len hbr
      have HW := Lib.hid hbr
      have hnk : (numB 2).length = 1 := by decide +kernel
      clear hbr
      go_enter Try.func119, Try.ntmps119
      go_wp2_with ((((with_reducible refine wl_box ?_ (fun K hK => ?_)); rfl; refine owp_box (o := ⟨some 1, _, _, _, _, _⟩) rfl st ?_; apply Exists.intro; refine ⟨?_, ?_⟩; (focus (go_simp; try rfl)); (clear st; intro b1 w hb st; clear hb))); (try simp only [Value.cells, List.cons_append, List.nil_append, List.set, spl, putIt, pick, List.map_cons, List.map_nil, List.getElem?_cons_zero, List.getElem?_cons_succ, Option.getD_some, List.drop_succ_cons, List.drop_zero, List.drop_nil, List.append_nil, unB] at st); (try clear hc); have hc := st.facts; (try simp only [factsOf, blkI, blkFacts, rowI, byI, datI, nullI, oldI, penI, rdI, rdAnyI, rdOverI, Nat.zero_add, Nat.reduceAdd, and_true, true_and, and_self] at hc))
      refine (HR.out _).mono ?_
      rintro en w ⟨rfl, hx⟩
      replace st := st.ext hx
      clear hx
      (try clear hc); have hc := st.facts; (try simp only [factsOf, blkI, blkFacts, rowI, byI, datI, nullI, oldI, penI, rdI, rdAnyI, rdOverI, Nat.zero_add, Nat.reduceAdd, and_true, true_and, and_self] at hc)
      rw [H.out]
      go_wp2_with ((((with_reducible refine wl_box ?_ (fun K hK => ?_)); rfl; refine owp_box (o := ⟨some 8, _, _, _, _, _⟩) rfl st ?_; apply Exists.intro; refine ⟨?_, ?_⟩; (focus (go_simp; try rfl)); (clear st; intro b8 w hb st; clear hb))); (try simp only [Value.cells, List.cons_append, List.nil_append, List.set, spl, putIt, pick, List.map_cons, List.map_nil, List.getElem?_cons_zero, List.getElem?_cons_succ, Option.getD_some, List.drop_succ_cons, List.drop_zero, List.drop_nil, List.append_nil, unB] at st); (try clear hc); have hc := st.facts; (try simp only [factsOf, blkI, blkFacts, rowI, byI, datI, nullI, oldI, penI, rdI, rdAnyI, rdOverI, Nat.zero_add, Nat.reduceAdd, and_true, true_and, and_self] at hc))
      replace st := st.newPen (i := 2) get2
      (try simp only [Value.cells, List.cons_append, List.nil_append, List.set, spl, putIt, pick, List.map_cons, List.map_nil, List.getElem?_cons_zero, List.getElem?_cons_succ, Option.getD_some, List.drop_succ_cons, List.drop_zero, List.drop_nil, List.append_nil, unB] at st)
      (try clear hc); have hc := st.facts; (try simp only [factsOf, blkI, blkFacts, rowI, byI, datI, nullI, oldI, penI, rdI, rdAnyI, rdOverI, Nat.zero_add, Nat.reduceAdd, and_true, true_and, and_self] at hc)
      obtain ⟨fr', al', st', back⟩ := st.sub [2] (by decide) (by simp)
      (try simp only [Value.cells, List.cons_append, List.nil_append, List.set, spl, putIt, pick, List.map_cons, List.map_nil, List.getElem?_cons_zero, List.getElem?_cons_succ, Option.getD_some, List.drop_succ_cons, List.drop_zero, List.drop_nil, List.append_nil, unB] at st')
      refine (penNumber_c st' 2 (by decide) (by simp)).mono ?_
      clear st'
      rintro en w ⟨rfl, st'⟩
      replace st := back _ _ (by simp) st'
      clear back st'
      (try simp only [Value.cells, List.cons_append, List.nil_append, List.set, spl, putIt, pick, List.map_cons, List.map_nil, List.getElem?_cons_zero, List.getElem?_cons_succ, Option.getD_some, List.drop_succ_cons, List.drop_zero, List.drop_nil, List.append_nil, unB] at st)
      (try clear hc); have hc := st.facts; (try simp only [factsOf, blkI, blkFacts, rowI, byI, datI, nullI, oldI, penI, rdI, rdAnyI, rdOverI, Nat.zero_add, Nat.reduceAdd, and_true, true_and, and_self] at hc)
      go_wp2_with fail
      (try rw [List.nil_append] at st)
      obtain ⟨fr', al', st', back⟩ := st.sub [2] (by decide) (by simp)
      (try simp only [Value.cells, List.cons_append, List.nil_append, List.set, spl, putIt, pick, List.map_cons, List.map_nil, List.getElem?_cons_zero, List.getElem?_cons_succ, Option.getD_some, List.drop_succ_cons, List.drop_zero, List.drop_nil, List.append_nil, unB] at st')
      refine (rolePut_yes st' (ho, hd) HH.out (by omega)).mono ?_
      clear st'
      rintro en w ⟨rfl, st'⟩
      replace st := back _ _ (by simp) st'
      clear back st'
      (try simp only [Value.cells, List.cons_append, List.nil_append, List.set, spl, putIt, pick, List.map_cons, List.map_nil, List.getElem?_cons_zero, List.getElem?_cons_succ, Option.getD_some, List.drop_succ_cons, List.drop_zero, List.drop_nil, List.append_nil, unB] at st)
      (try clear hc); have hc := st.facts; (try simp only [factsOf, blkI, blkFacts, rowI, byI, datI, nullI, oldI, penI, rdI, rdAnyI, rdOverI, Nat.zero_add, Nat.reduceAdd, and_true, true_and, and_self] at hc)
      go_wp2_with fail
      obtain ⟨fr', al', st', back⟩ := st.sub [2] (by decide) (by simp)
      (try simp only [Value.cells, List.cons_append, List.nil_append, List.set, spl, putIt, pick, List.map_cons, List.map_nil, List.getElem?_cons_zero, List.getElem?_cons_succ, Option.getD_some, List.drop_succ_cons, List.drop_zero, List.drop_nil, List.append_nil, unB] at st')
      refine (rolePut_yes st' (bo, bd) HW.out (by simp; omega)).mono ?_
      clear st'
      rintro en w ⟨rfl, st'⟩
      replace st := back _ _ (by simp) st'
      clear back st'
      (try simp only [Value.cells, List.cons_append, List.nil_append, List.set, spl, putIt, pick, List.map_cons, List.map_nil, List.getElem?_cons_zero, List.getElem?_cons_succ, Option.getD_some, List.drop_succ_cons, List.drop_zero, List.drop_nil, List.append_nil, unB] at st)
      (try clear hc); have hc := st.facts; (try simp only [factsOf, blkI, blkFacts, rowI, byI, datI, nullI, oldI, penI, rdI, rdAnyI, rdOverI, Nat.zero_add, Nat.reduceAdd, and_true, true_and, and_self] at hc)
      obtain ⟨u, hu⟩ : ∃ u, (numB 2 ++ roleB (ho, hd) ++ roleB (bo, bd)) = u := ⟨_, rfl⟩
      rw [hu] at st
      have HU : Hid (r = u) := Lib.hid (by rw [HE.out, if_pos H.out, ← hu]; simp [credB])
      have hul : u.length ≤ 300 := by rw [← hu]; simp; omega
      clear hu
      go_wp2_with fail
      obtain ⟨fr', al', st', back⟩ := st.sub [2] (by decide) (by simp)
      (try simp only [Value.cells, List.cons_append, List.nil_append, List.set, spl, putIt, pick, List.map_cons, List.map_nil, List.getElem?_cons_zero, List.getElem?_cons_succ, Option.getD_some, List.drop_succ_cons, List.drop_zero, List.drop_nil, List.append_nil, unB] at st')
      refine (penBytesRow_c st' (by omega)).mono ?_
      clear st'
      rintro en w ⟨pa, pc, rfl, hpc, st'⟩
      replace st := back _ _ (by simp) st'
      clear back st'
      (try simp only [Value.cells, List.cons_append, List.nil_append, List.set, spl, putIt, pick, List.map_cons, List.map_nil, List.getElem?_cons_zero, List.getElem?_cons_succ, Option.getD_some, List.drop_succ_cons, List.drop_zero, List.drop_nil, List.append_nil, unB] at st)
      (try clear hc); have hc := st.facts; (try simp only [factsOf, blkI, blkFacts, rowI, byI, datI, nullI, oldI, penI, rdI, rdAnyI, rdOverI, Nat.zero_add, Nat.reduceAdd, and_true, true_and, and_self] at hc)
      go_wp2_with fail
      go_ret
      exact ⟨_, _, _, rfl, by rw [HU.out]; exact st.toFresh (i := 3) get3⟩
    · have hb2 := roleB_len hbr
      have HW := Lib.hid hbr
      have HN := Lib.hid he
      have hl2 := (nameR_len he).2
      have hb3 : (numB we.length).length ≤ 10 := numF_len 10 we.length
      have hnk : (numB 3).length = 1 := by decide +kernel
      clear hbr he
      go_enter Try.func119, Try.ntmps119
      go_wp2_with ((((with_reducible refine wl_box ?_ (fun K hK => ?_)); rfl; refine owp_box (o := ⟨some 1, _, _, _, _, _⟩) rfl st ?_; apply Exists.intro; refine ⟨?_, ?_⟩; (focus (go_simp; try rfl)); (clear st; intro b1 w hb st; clear hb))); (try simp only [Value.cells, List.cons_append, List.nil_append, List.set, spl, putIt, pick, List.map_cons, List.map_nil, List.getElem?_cons_zero, List.getElem?_cons_succ, Option.getD_some, List.drop_succ_cons, List.drop_zero, List.drop_nil, List.append_nil, unB] at st); (try clear hc); have hc := st.facts; (try simp only [factsOf, blkI, blkFacts, rowI, byI, datI, nullI, oldI, penI, rdI, rdAnyI, rdOverI, Nat.zero_add, Nat.reduceAdd, and_true, true_and, and_self] at hc))
      refine (HR.out _).mono ?_
      rintro en w ⟨rfl, hx⟩
      replace st := st.ext hx
      clear hx
      (try clear hc); have hc := st.facts; (try simp only [factsOf, blkI, blkFacts, rowI, byI, datI, nullI, oldI, penI, rdI, rdAnyI, rdOverI, Nat.zero_add, Nat.reduceAdd, and_true, true_and, and_self] at hc)
      rw [H.out]
      go_wp2_with ((((with_reducible refine wl_box ?_ (fun K hK => ?_)); rfl; refine owp_box (o := ⟨some 8, _, _, _, _, _⟩) rfl st ?_; apply Exists.intro; refine ⟨?_, ?_⟩; (focus (go_simp; try rfl)); (clear st; intro b8 w hb st; clear hb))); (try simp only [Value.cells, List.cons_append, List.nil_append, List.set, spl, putIt, pick, List.map_cons, List.map_nil, List.getElem?_cons_zero, List.getElem?_cons_succ, Option.getD_some, List.drop_succ_cons, List.drop_zero, List.drop_nil, List.append_nil, unB] at st); (try clear hc); have hc := st.facts; (try simp only [factsOf, blkI, blkFacts, rowI, byI, datI, nullI, oldI, penI, rdI, rdAnyI, rdOverI, Nat.zero_add, Nat.reduceAdd, and_true, true_and, and_self] at hc))
      replace st := st.newPen (i := 2) get2
      (try simp only [Value.cells, List.cons_append, List.nil_append, List.set, spl, putIt, pick, List.map_cons, List.map_nil, List.getElem?_cons_zero, List.getElem?_cons_succ, Option.getD_some, List.drop_succ_cons, List.drop_zero, List.drop_nil, List.append_nil, unB] at st)
      (try clear hc); have hc := st.facts; (try simp only [factsOf, blkI, blkFacts, rowI, byI, datI, nullI, oldI, penI, rdI, rdAnyI, rdOverI, Nat.zero_add, Nat.reduceAdd, and_true, true_and, and_self] at hc)
      obtain ⟨fr', al', st', back⟩ := st.sub [2] (by decide) (by simp)
      (try simp only [Value.cells, List.cons_append, List.nil_append, List.set, spl, putIt, pick, List.map_cons, List.map_nil, List.getElem?_cons_zero, List.getElem?_cons_succ, Option.getD_some, List.drop_succ_cons, List.drop_zero, List.drop_nil, List.append_nil, unB] at st')
      refine (penNumber_c st' 3 (by decide) (by simp)).mono ?_
      clear st'
      rintro en w ⟨rfl, st'⟩
      replace st := back _ _ (by simp) st'
      clear back st'
      (try simp only [Value.cells, List.cons_append, List.nil_append, List.set, spl, putIt, pick, List.map_cons, List.map_nil, List.getElem?_cons_zero, List.getElem?_cons_succ, Option.getD_some, List.drop_succ_cons, List.drop_zero, List.drop_nil, List.append_nil, unB] at st)
      (try clear hc); have hc := st.facts; (try simp only [factsOf, blkI, blkFacts, rowI, byI, datI, nullI, oldI, penI, rdI, rdAnyI, rdOverI, Nat.zero_add, Nat.reduceAdd, and_true, true_and, and_self] at hc)
      go_wp2_with fail
      (try rw [List.nil_append] at st)
      obtain ⟨fr', al', st', back⟩ := st.sub [2] (by decide) (by simp)
      (try simp only [Value.cells, List.cons_append, List.nil_append, List.set, spl, putIt, pick, List.map_cons, List.map_nil, List.getElem?_cons_zero, List.getElem?_cons_succ, Option.getD_some, List.drop_succ_cons, List.drop_zero, List.drop_nil, List.append_nil, unB] at st')
      refine (rolePut_yes st' (ho, hd) HH.out (by omega)).mono ?_
      clear st'
      rintro en w ⟨rfl, st'⟩
      replace st := back _ _ (by simp) st'
      clear back st'
      (try simp only [Value.cells, List.cons_append, List.nil_append, List.set, spl, putIt, pick, List.map_cons, List.map_nil, List.getElem?_cons_zero, List.getElem?_cons_succ, Option.getD_some, List.drop_succ_cons, List.drop_zero, List.drop_nil, List.append_nil, unB] at st)
      (try clear hc); have hc := st.facts; (try simp only [factsOf, blkI, blkFacts, rowI, byI, datI, nullI, oldI, penI, rdI, rdAnyI, rdOverI, Nat.zero_add, Nat.reduceAdd, and_true, true_and, and_self] at hc)
      go_wp2_with fail
      obtain ⟨fr', al', st', back⟩ := st.sub [2] (by decide) (by simp)
      (try simp only [Value.cells, List.cons_append, List.nil_append, List.set, spl, putIt, pick, List.map_cons, List.map_nil, List.getElem?_cons_zero, List.getElem?_cons_succ, Option.getD_some, List.drop_succ_cons, List.drop_zero, List.drop_nil, List.append_nil, unB] at st')
      refine (rolePut_yes st' (bo, bd) HW.out (by simp; omega)).mono ?_
      clear st'
      rintro en w ⟨rfl, st'⟩
      replace st := back _ _ (by simp) st'
      clear back st'
      (try simp only [Value.cells, List.cons_append, List.nil_append, List.set, spl, putIt, pick, List.map_cons, List.map_nil, List.getElem?_cons_zero, List.getElem?_cons_succ, Option.getD_some, List.drop_succ_cons, List.drop_zero, List.drop_nil, List.append_nil, unB] at st)
      (try clear hc); have hc := st.facts; (try simp only [factsOf, blkI, blkFacts, rowI, byI, datI, nullI, oldI, penI, rdI, rdAnyI, rdOverI, Nat.zero_add, Nat.reduceAdd, and_true, true_and, and_self] at hc)
      go_wp2_with fail
      obtain ⟨fr', al', st', back⟩ := st.sub [2] (by decide) (by simp)
      (try simp only [Value.cells, List.cons_append, List.nil_append, List.set, spl, putIt, pick, List.map_cons, List.map_nil, List.getElem?_cons_zero, List.getElem?_cons_succ, Option.getD_some, List.drop_succ_cons, List.drop_zero, List.drop_nil, List.append_nil, unB] at st')
      refine (namePut_yes st' we HN.out (by simp; omega)).mono ?_
      clear st'
      rintro en w ⟨rfl, st'⟩
      replace st := back _ _ (by simp) st'
      clear back st'
      (try simp only [Value.cells, List.cons_append, List.nil_append, List.set, spl, putIt, pick, List.map_cons, List.map_nil, List.getElem?_cons_zero, List.getElem?_cons_succ, Option.getD_some, List.drop_succ_cons, List.drop_zero, List.drop_nil, List.append_nil, unB] at st)
      (try clear hc); have hc := st.facts; (try simp only [factsOf, blkI, blkFacts, rowI, byI, datI, nullI, oldI, penI, rdI, rdAnyI, rdOverI, Nat.zero_add, Nat.reduceAdd, and_true, true_and, and_self] at hc)
      obtain ⟨u, hu⟩ : ∃ u, (numB 3 ++ roleB (ho, hd) ++ roleB (bo, bd) ++ (numB we.length ++ we)) = u := ⟨_, rfl⟩
      rw [hu] at st
      have HU : Hid (r = u) := Lib.hid (by rw [HE.out, if_pos H.out, ← hu]; simp [credB])
      have hul : u.length ≤ 300 := by rw [← hu]; simp; omega
      clear hu
      go_wp2_with fail
      obtain ⟨fr', al', st', back⟩ := st.sub [2] (by decide) (by simp)
      (try simp only [Value.cells, List.cons_append, List.nil_append, List.set, spl, putIt, pick, List.map_cons, List.map_nil, List.getElem?_cons_zero, List.getElem?_cons_succ, Option.getD_some, List.drop_succ_cons, List.drop_zero, List.drop_nil, List.append_nil, unB] at st')
      refine (penBytesRow_c st' (by omega)).mono ?_
      clear st'
      rintro en w ⟨pa, pc, rfl, hpc, st'⟩
      replace st := back _ _ (by simp) st'
      clear back st'
      (try simp only [Value.cells, List.cons_append, List.nil_append, List.set, spl, putIt, pick, List.map_cons, List.map_nil, List.getElem?_cons_zero, List.getElem?_cons_succ, Option.getD_some, List.drop_succ_cons, List.drop_zero, List.drop_nil, List.append_nil, unB] at st)
      (try clear hc); have hc := st.facts; (try simp only [factsOf, blkI, blkFacts, rowI, byI, datI, nullI, oldI, penI, rdI, rdAnyI, rdOverI, Nat.zero_add, Nat.reduceAdd, and_true, true_and, and_self] at hc)
      go_wp2_with fail
      go_ret
      exact ⟨_, _, _, rfl, by rw [HU.out]; exact st.toFresh (i := 3) get3⟩
    · have hb2 := roleB_len hbr
      have hb3 := roleB_len hcr
      have HW := Lib.hid hbr
      have HN := Lib.hid hcr
      have hnk : (numB 4).length = 1 := by decide +kernel
      clear hbr hcr
      go_enter Try.func119, Try.ntmps119
      go_wp2_with ((((with_reducible refine wl_box ?_ (fun K hK => ?_)); rfl; refine owp_box (o := ⟨some 1, _, _, _, _, _⟩) rfl st ?_; apply Exists.intro; refine ⟨?_, ?_⟩; (focus (go_simp; try rfl)); (clear st; intro b1 w hb st; clear hb))); (try simp only [Value.cells, List.cons_append, List.nil_append, List.set, spl, putIt, pick, List.map_cons, List.map_nil, List.getElem?_cons_zero, List.getElem?_cons_succ, Option.getD_some, List.drop_succ_cons, List.drop_zero, List.drop_nil, List.append_nil, unB] at st); (try clear hc); have hc := st.facts; (try simp only [factsOf, blkI, blkFacts, rowI, byI, datI, nullI, oldI, penI, rdI, rdAnyI, rdOverI, Nat.zero_add, Nat.reduceAdd, and_true, true_and, and_self] at hc))
      refine (HR.out _).mono ?_
      rintro en w ⟨rfl, hx⟩
      replace st := st.ext hx
      clear hx
      (try clear hc); have hc := st.facts; (try simp only [factsOf, blkI, blkFacts, rowI, byI, datI, nullI, oldI, penI, rdI, rdAnyI, rdOverI, Nat.zero_add, Nat.reduceAdd, and_true, true_and, and_self] at hc)
      rw [H.out]
      go_wp2_with ((((with_reducible refine wl_box ?_ (fun K hK => ?_)); rfl; refine owp_box (o := ⟨some 8, _, _, _, _, _⟩) rfl st ?_; apply Exists.intro; refine ⟨?_, ?_⟩; (focus (go_simp; try rfl)); (clear st; intro b8 w hb st; clear hb))); (try simp only [Value.cells, List.cons_append, List.nil_append, List.set, spl, putIt, pick, List.map_cons, List.map_nil, List.getElem?_cons_zero, List.getElem?_cons_succ, Option.getD_some, List.drop_succ_cons, List.drop_zero, List.drop_nil, List.append_nil, unB] at st); (try clear hc); have hc := st.facts; (try simp only [factsOf, blkI, blkFacts, rowI, byI, datI, nullI, oldI, penI, rdI, rdAnyI, rdOverI, Nat.zero_add, Nat.reduceAdd, and_true, true_and, and_self] at hc))
      replace st := st.newPen (i := 2) get2
      (try simp only [Value.cells, List.cons_append, List.nil_append, List.set, spl, putIt, pick, List.map_cons, List.map_nil, List.getElem?_cons_zero, List.getElem?_cons_succ, Option.getD_some, List.drop_succ_cons, List.drop_zero, List.drop_nil, List.append_nil, unB] at st)
      (try clear hc); have hc := st.facts; (try simp only [factsOf, blkI, blkFacts, rowI, byI, datI, nullI, oldI, penI, rdI, rdAnyI, rdOverI, Nat.zero_add, Nat.reduceAdd, and_true, true_and, and_self] at hc)
      obtain ⟨fr', al', st', back⟩ := st.sub [2] (by decide) (by simp)
      (try simp only [Value.cells, List.cons_append, List.nil_append, List.set, spl, putIt, pick, List.map_cons, List.map_nil, List.getElem?_cons_zero, List.getElem?_cons_succ, Option.getD_some, List.drop_succ_cons, List.drop_zero, List.drop_nil, List.append_nil, unB] at st')
      refine (penNumber_c st' 4 (by decide) (by simp)).mono ?_
      clear st'
      rintro en w ⟨rfl, st'⟩
      replace st := back _ _ (by simp) st'
      clear back st'
      (try simp only [Value.cells, List.cons_append, List.nil_append, List.set, spl, putIt, pick, List.map_cons, List.map_nil, List.getElem?_cons_zero, List.getElem?_cons_succ, Option.getD_some, List.drop_succ_cons, List.drop_zero, List.drop_nil, List.append_nil, unB] at st)
      (try clear hc); have hc := st.facts; (try simp only [factsOf, blkI, blkFacts, rowI, byI, datI, nullI, oldI, penI, rdI, rdAnyI, rdOverI, Nat.zero_add, Nat.reduceAdd, and_true, true_and, and_self] at hc)
      go_wp2_with fail
      (try rw [List.nil_append] at st)
      obtain ⟨fr', al', st', back⟩ := st.sub [2] (by decide) (by simp)
      (try simp only [Value.cells, List.cons_append, List.nil_append, List.set, spl, putIt, pick, List.map_cons, List.map_nil, List.getElem?_cons_zero, List.getElem?_cons_succ, Option.getD_some, List.drop_succ_cons, List.drop_zero, List.drop_nil, List.append_nil, unB] at st')
      refine (rolePut_yes st' (ho, hd) HH.out (by omega)).mono ?_
      clear st'
      rintro en w ⟨rfl, st'⟩
      replace st := back _ _ (by simp) st'
      clear back st'
      (try simp only [Value.cells, List.cons_append, List.nil_append, List.set, spl, putIt, pick, List.map_cons, List.map_nil, List.getElem?_cons_zero, List.getElem?_cons_succ, Option.getD_some, List.drop_succ_cons, List.drop_zero, List.drop_nil, List.append_nil, unB] at st)
      (try clear hc); have hc := st.facts; (try simp only [factsOf, blkI, blkFacts, rowI, byI, datI, nullI, oldI, penI, rdI, rdAnyI, rdOverI, Nat.zero_add, Nat.reduceAdd, and_true, true_and, and_self] at hc)
      go_wp2_with fail
      obtain ⟨fr', al', st', back⟩ := st.sub [2] (by decide) (by simp)
      (try simp only [Value.cells, List.cons_append, List.nil_append, List.set, spl, putIt, pick, List.map_cons, List.map_nil, List.getElem?_cons_zero, List.getElem?_cons_succ, Option.getD_some, List.drop_succ_cons, List.drop_zero, List.drop_nil, List.append_nil, unB] at st')
      refine (rolePut_yes st' (bo, bd) HW.out (by simp; omega)).mono ?_
      clear st'
      rintro en w ⟨rfl, st'⟩
      replace st := back _ _ (by simp) st'
      clear back st'
      (try simp only [Value.cells, List.cons_append, List.nil_append, List.set, spl, putIt, pick, List.map_cons, List.map_nil, List.getElem?_cons_zero, List.getElem?_cons_succ, Option.getD_some, List.drop_succ_cons, List.drop_zero, List.drop_nil, List.append_nil, unB] at st)
      (try clear hc); have hc := st.facts; (try simp only [factsOf, blkI, blkFacts, rowI, byI, datI, nullI, oldI, penI, rdI, rdAnyI, rdOverI, Nat.zero_add, Nat.reduceAdd, and_true, true_and, and_self] at hc)
      go_wp2_with fail
      obtain ⟨fr', al', st', back⟩ := st.sub [2] (by decide) (by simp)
      (try simp only [Value.cells, List.cons_append, List.nil_append, List.set, spl, putIt, pick, List.map_cons, List.map_nil, List.getElem?_cons_zero, List.getElem?_cons_succ, Option.getD_some, List.drop_succ_cons, List.drop_zero, List.drop_nil, List.append_nil, unB] at st')
      refine (rolePut_yes st' (co, cd) HN.out (by simp; omega)).mono ?_
      clear st'
      rintro en w ⟨rfl, st'⟩
      replace st := back _ _ (by simp) st'
      clear back st'
      (try simp only [Value.cells, List.cons_append, List.nil_append, List.set, spl, putIt, pick, List.map_cons, List.map_nil, List.getElem?_cons_zero, List.getElem?_cons_succ, Option.getD_some, List.drop_succ_cons, List.drop_zero, List.drop_nil, List.append_nil, unB] at st)
      (try clear hc); have hc := st.facts; (try simp only [factsOf, blkI, blkFacts, rowI, byI, datI, nullI, oldI, penI, rdI, rdAnyI, rdOverI, Nat.zero_add, Nat.reduceAdd, and_true, true_and, and_self] at hc)
      obtain ⟨u, hu⟩ : ∃ u, (numB 4 ++ roleB (ho, hd) ++ roleB (bo, bd) ++ roleB (co, cd)) = u := ⟨_, rfl⟩
      rw [hu] at st
      have HU : Hid (r = u) := Lib.hid (by rw [HE.out, if_pos H.out, ← hu]; simp [credB])
      have hul : u.length ≤ 300 := by rw [← hu]; simp; omega
      clear hu
      go_wp2_with fail
      obtain ⟨fr', al', st', back⟩ := st.sub [2] (by decide) (by simp)
      (try simp only [Value.cells, List.cons_append, List.nil_append, List.set, spl, putIt, pick, List.map_cons, List.map_nil, List.getElem?_cons_zero, List.getElem?_cons_succ, Option.getD_some, List.drop_succ_cons, List.drop_zero, List.drop_nil, List.append_nil, unB] at st')
      refine (penBytesRow_c st' (by omega)).mono ?_
      clear st'
      rintro en w ⟨pa, pc, rfl, hpc, st'⟩
      replace st := back _ _ (by simp) st'
      clear back st'
      (try simp only [Value.cells, List.cons_append, List.nil_append, List.set, spl, putIt, pick, List.map_cons, List.map_nil, List.getElem?_cons_zero, List.getElem?_cons_succ, Option.getD_some, List.drop_succ_cons, List.drop_zero, List.drop_nil, List.append_nil, unB] at st)
      (try clear hc); have hc := st.facts; (try simp only [factsOf, blkI, blkFacts, rowI, byI, datI, nullI, oldI, penI, rdI, rdAnyI, rdOverI, Nat.zero_add, Nat.reduceAdd, and_true, true_and, and_self] at hc)
      go_wp2_with fail
      go_ret
      exact ⟨_, _, _, rfl, by rw [HU.out]; exact st.toFresh (i := 3) get3⟩
end Go.Proofs.Ytekngjkjgmplpaa

namespace Go.Proofs.Ytekngjkjgmplpaa
set_option linter.unusedSimpArgs false
set_option linter.unusedVariables false
open Go Go.RowKit
theorem rdCred_puts {x : CredT} (h : credR x = true) (zs : List UInt8) : rdCred (credB x ++ zs) = .ok (x, zs) := by
  obtain ⟨h1, hc⟩ := credR_cases h
  obtain ⟨k, hh, w, b, c, e⟩ := x
  simp only at h1 hc
  have hn : ∀ (k : Nat) (ys : List UInt8), k ≤ 4 → rdNumber 9223372036854775807 (numB k ++ ys) = .ok (k, ys) := fun k ys hk => rdNumber_put 9223372036854775807 k ys (by omega) (by decide)
  rcases hc with ⟨rfl, q1, rfl, rfl, rfl⟩ | ⟨rfl, q2, ⟨rfl, rfl, rfl⟩ | ⟨rfl, rfl, _, q5⟩ | ⟨rfl, rfl, q5, _⟩⟩
  · have e0 : credB ⟨1, hh, w, nR, nR, []⟩ ++ zs = numB 1 ++ (roleB hh ++ (numB w.length ++ w ++ zs)) := by simp [credB]
    unfold rdCred
    rw [e0, hn 1 _ (by decide), bd_ok, if_neg (by decide), rdRole_puts hh _ h1, bd_ok, if_pos rfl, rdName_put w zs q1, bd_ok, okCr, if_pos h]
  · have e0 : credB ⟨2, hh, [], b, nR, []⟩ ++ zs = numB 2 ++ (roleB hh ++ (roleB b ++ zs)) := by simp [credB]
    unfold rdCred
    rw [e0, hn 2 _ (by decide), bd_ok, if_neg (by decide), rdRole_puts hh _ h1, bd_ok, if_neg (by decide), rdRole_puts b _ q2, bd_ok, if_pos rfl, okCr, if_pos h]
  · have e0 : credB ⟨3, hh, [], b, nR, e⟩ ++ zs = numB 3 ++ (roleB hh ++ (roleB b ++ (numB e.length ++ e ++ zs))) := by simp [credB]
    unfold rdCred
    rw [e0, hn 3 _ (by decide), bd_ok, if_neg (by decide), rdRole_puts hh _ h1, bd_ok, if_neg (by decide), rdRole_puts b _ q2, bd_ok, if_neg (by decide), if_pos rfl, rdName_put e zs q5, bd_ok, okCr, if_pos h]
  · have e0 : credB ⟨4, hh, [], b, c, []⟩ ++ zs = numB 4 ++ (roleB hh ++ (roleB b ++ (roleB c ++ zs))) := by simp [credB]
    unfold rdCred
    rw [e0, hn 4 _ (by decide), bd_ok, if_neg (by decide), rdRole_puts hh _ h1, bd_ok, if_neg (by decide), rdRole_puts b _ q2, bd_ok, if_neg (by decide), if_neg (by decide), rdRole_puts c _ q5, bd_ok, okCr, if_pos h]
def stepBy (x : StepT) : List UInt8 := credB x.c ++ (numB x.f.w.length ++ x.f.w)
def chainOk (l : List StepT) : Bool := decide (l.length ≤ 256) && l.all stepR
def chainB (l : List StepT) : List UInt8 := numB l.length ++ l.flatMap stepBy
/-- The bytes of any chain. -/
def chainBy (l : List StepT) : List UInt8 := if chainOk l = true then chainB l else []
def rdStep (xs : List UInt8) : Except Int (StepT × List UInt8) := bd (rdCred xs) fun c ys => bd (rdName ys) fun w zs => .ok (⟨c, ⟨c.h, w⟩⟩, zs)
/-- The chain that any bytes are. -/
def rdSteps (most : Int) (xs : List UInt8) : Except Int (List StepT × List UInt8) := bd (rdNumber most xs) fun n ys => rdN rdStep n ys
theorem roleEq_is (a b : Role) : roleEq a b = true ↔ a = b := by unfold roleEq; simp
theorem stepR_is {x : StepT} (h : stepR x = true) : credR x.c = true ∧ x.f.r = x.c.h ∧ nameR x.f.w = true := by
  unfold stepR at h
  rw [Bool.and_eq_true, Bool.and_eq_true, roleEq_is] at h
  exact ⟨h.1.1, h.1.2, h.2⟩
theorem credB_len2 {x : CredT} (h : credR x = true) : (credB x).length ≤ 300 := by
  obtain ⟨hh, hc⟩ := credR_cases h
  obtain ⟨k, hd, nw, b, c, e⟩ := x
  simp only at hh hc
  have b1 := roleB_len hh
  rcases hc with ⟨rfl, hw, -, -, -⟩ | ⟨-, hbr, ⟨rfl, -, -⟩ | ⟨rfl, -, -, he⟩ | ⟨rfl, -, hcr, -⟩⟩
  · have := (nameR_len hw).2
    have : (numB nw.length).length ≤ 10 := numF_len 10 nw.length
    have : (numB 1).length = 1 := by decide +kernel
    simp [credB]; omega
  · have := roleB_len hbr
    have : (numB 2).length = 1 := by decide +kernel
    simp [credB]; omega
  · have := roleB_len hbr
    have := (nameR_len he).2
    have : (numB e.length).length ≤ 10 := numF_len 10 e.length
    have : (numB 3).length = 1 := by decide +kernel
    simp [credB]; omega
  · have := roleB_len hbr
    have := roleB_len hcr
    have : (numB 4).length = 1 := by decide +kernel
    simp [credB]; omega
theorem stepBy_len {x : StepT} (h : stepR x = true) : (stepBy x).length ≤ 400 := by
  obtain ⟨h1, _, h3⟩ := stepR_is h
  have := credB_len2 h1
  have := (nameR_len h3).2
  have : (numB x.f.w.length).length ≤ 10 := numF_len 10 x.f.w.length
  unfold stepBy
  simp only [List.length_append]
  omega
theorem steps_len : ∀ (l : List StepT), (∀ x ∈ l, stepR x = true) → (l.flatMap stepBy).length ≤ 400 * l.length
  | [], _ => by simp
  | x :: l, h => by
    have h1 := stepBy_len (h x (by simp))
    have h2 := steps_len l fun y hy => h y (by simp [hy])
    simp only [List.flatMap_cons, List.length_append, List.length_cons]
    omega
theorem chainOk_is {l : List StepT} (h : chainOk l = true) : l.length ≤ 256 ∧ ∀ x ∈ l, stepR x = true := by
  unfold chainOk at h
  rw [Bool.and_eq_true, decide_eq_true_eq, List.all_eq_true] at h
  exact h
theorem chainB_len {l : List StepT} (h : chainOk l = true) : (chainB l).length ≤ 110000 := by
  obtain ⟨h1, h2⟩ := chainOk_is h
  have := steps_len l h2
  have : (numB l.length).length ≤ 10 := numF_len 10 l.length
  unfold chainB
  simp only [List.length_append]
  omega
theorem numB_ne (n : Nat) : numB n ≠ [] := by
  intro h
  unfold numB at h
  rw [show (10 : Nat) = 9 + 1 from rfl] at h
  simp only [numF] at h
  split at h <;> simp at h
theorem chainB_ne (l : List StepT) : chainB l ≠ [] := by
  unfold chainB
  intro h
  exact numB_ne _ (List.append_eq_nil_iff.1 h).1
theorem rdStep_put {x : StepT} (h : stepR x = true) (ys : List UInt8) : rdStep (stepBy x ++ ys) = .ok (x, ys) := by
  obtain ⟨h1, h2, h3⟩ := stepR_is h
  unfold rdStep stepBy
  rw [List.append_assoc, rdCred_puts h1, bd_ok, rdName_put _ _ h3, bd_ok]
  obtain ⟨c, ⟨r, w⟩⟩ := x
  simp only at h2
  rw [h2]
theorem rdSteps_put {l : List StepT} (h : chainOk l = true) (most : Nat) (hm : l.length ≤ most) (hmm : most < 9223372036854775808) : rdSteps (most : Int) (chainB l) = .ok (l, []) := by
  obtain ⟨h1, h2⟩ := chainOk_is h
  unfold rdSteps chainB
  rw [rdNumber_put most l.length _ hm hmm, bd_ok]
  have := rdN_put rdStep stepBy l [] fun x hx ys => rdStep_put (h2 x hx) ys
  rwa [List.append_nil] at this
theorem rdCred_le {xs ys : List UInt8} {x : CredT} (h : rdCred xs = .ok (x, ys)) : ys.length ≤ xs.length ∧ credR x = true := by
  have fin : ∀ {c us}, okCr c us = .ok (x, ys) → us = ys ∧ credR x = true := fun {c us} h => by
    unfold okCr at h; split at h
    · cases h; exact ⟨rfl, by assumption⟩
    · cases h
  unfold rdCred at h
  cases h0 : rdNumber 9223372036854775807 xs with
  | error e0 => rw [h0, bd_er] at h; cases h
  | ok p =>
    obtain ⟨n, us⟩ := p
    have l0 := rdNumber_le h0
    rw [h0, bd_ok] at h
    split at h
    · cases h
    · cases h1 : rdRole us with
      | error e0 => rw [h1, bd_er] at h; cases h
      | ok p =>
        obtain ⟨hh, zs⟩ := p
        have l1 := (rdRole_le h1).1
        rw [h1, bd_ok] at h
        split at h
        · cases h2 : rdName zs with
          | error e0 => rw [h2, bd_er] at h; cases h
          | ok p => obtain ⟨w, vs⟩ := p; have l2 := (rdName_le h2).1; rw [h2, bd_ok] at h; obtain ⟨rfl, q⟩ := fin h; exact ⟨by omega, q⟩
        · cases h2 : rdRole zs with
          | error e0 => rw [h2, bd_er] at h; cases h
          | ok p =>
            obtain ⟨b, vs⟩ := p
            have l2 := (rdRole_le h2).1
            rw [h2, bd_ok] at h
            split at h
            · obtain ⟨rfl, q⟩ := fin h; exact ⟨by omega, q⟩
            · split at h
              · cases h3 : rdName vs with
                | error e0 => rw [h3, bd_er] at h; cases h
                | ok p => obtain ⟨w, ts⟩ := p; have l3 := (rdName_le h3).1; rw [h3, bd_ok] at h; obtain ⟨rfl, q⟩ := fin h; exact ⟨by omega, q⟩
              · cases h3 : rdRole vs with
                | error e0 => rw [h3, bd_er] at h; cases h
                | ok p => obtain ⟨w, ts⟩ := p; have l3 := (rdRole_le h3).1; rw [h3, bd_ok] at h; obtain ⟨rfl, q⟩ := fin h; exact ⟨by omega, q⟩
theorem rdNumber_leM {most : Int} {xs ys : List UInt8} {n : Nat} (hr : rdNumber most xs = .ok (n, ys)) : ys.length ≤ xs.length ∧ (n : Int) ≤ most := by
  unfold rdNumber at hr
  cases h : rdNum xs with
  | error e => rw [h] at hr; simp at hr
  | ok p =>
    obtain ⟨m, zs⟩ := p
    rw [h] at hr
    simp only at hr
    have := rdNum_lt h
    split at hr
    · simp at hr
    · simp at hr; obtain ⟨rfl, rfl⟩ := hr; omega
theorem rdStep_le {xs ys : List UInt8} {x : StepT} (h : rdStep xs = .ok (x, ys)) : ys.length ≤ xs.length := by
  unfold rdStep at h
  cases h1 : rdCred xs with
  | error e => rw [h1, bd_er] at h; cases h
  | ok p =>
    obtain ⟨c, us⟩ := p
    have l1 := (rdCred_le h1).1
    rw [h1, bd_ok] at h
    cases h2 : rdName us with
    | error e => rw [h2, bd_er] at h; cases h
    | ok p => obtain ⟨w, vs⟩ := p; have l2 := (rdName_le h2).1; rw [h2, bd_ok] at h; cases h; omega
theorem rdStep_er {xs : List UInt8} {e : Int} (h : rdStep xs = .error e) : e ≠ 0 := by
  unfold rdStep at h
  cases h1 : rdCred xs with
  | error e => rw [h1, bd_er] at h; cases h; exact rdCred_er h1
  | ok p =>
    obtain ⟨c, us⟩ := p
    rw [h1, bd_ok] at h
    cases h2 : rdName us with
    | error e => rw [h2, bd_er] at h; cases h; exact rdName_er h2
    | ok p => obtain ⟨w, vs⟩ := p; rw [h2, bd_ok] at h; cases h
theorem rdSteps_er {most : Int} {xs : List UInt8} {e : Int} (h : rdSteps most xs = .error e) : e ≠ 0 := by
  unfold rdSteps at h
  cases h1 : rdNumber most xs with
  | error e => rw [h1, bd_er] at h; cases h; exact rdNumber_er h1
  | ok p =>
    obtain ⟨n, us⟩ := p
    rw [h1, bd_ok] at h
    exact rdN_er rdStep (fun _ _ => rdStep_er) h
end Go.Proofs.Ytekngjkjgmplpaa

namespace Go.Proofs.Ytekngjkjgmplpaa
set_option linter.unusedSimpArgs false
set_option linter.unusedVariables false
open Go Go.RowKit
theorem credR_L {x : CredT} (h : credR x = true) : CredL 100000 x := by
  obtain ⟨h1, hc⟩ := credR_cases h
  have a1 := roleR_len h1
  obtain ⟨k, hh, w, b, c, e⟩ := x
  simp only at h1 hc a1
  unfold CredL
  rcases hc with ⟨rfl, q1, rfl, rfl, rfl⟩ | ⟨rfl, q2, ⟨rfl, rfl, rfl⟩ | ⟨rfl, rfl, _, q5⟩ | ⟨rfl, rfl, q5, _⟩⟩
  · have := nameR_len q1
    simp only [nR, List.length_nil]; omega
  · have := roleR_len q2
    simp only [nR, List.length_nil]; omega
  · have := roleR_len q2
    have := nameR_len q5
    simp only [nR, List.length_nil]; omega
  · have := roleR_len q2
    have := roleR_len q5
    simp only [List.length_nil]; omega
theorem credR_S {x : CredT} (h : credR x = true) : CLenS x := by
  have := credR_L h
  unfold CredL at this
  unfold CLenS
  omega
def StL (x : StepT) : Prop := CLenS x.c ∧ x.f.w.length ≤ 100000
theorem stepR_L {x : StepT} (h : stepR x = true) : StL x := ⟨credR_S (stepR_is h).1, by have := nameR_len (stepR_is h).2.2; omega⟩
theorem putAny {a : Option Addr} {n c : Nat} {l : List StepT} (hn : n ≤ 2000000) (hl : ∀ x ∈ l, StL x) (W : World) (h : Fl W a n l) :
    Calls Try.prog 114 #[.slice a n c, .func (.func 115) #[] #[]] W fun e w' => e = .returned (.bool (l.any fun x => !stepR x)) ∧ Ext W w' :=
  stepContainsFunc_any a n c l W h hn 115 #[] (fun x => !stepR x) (fun _ _ => by kernel_rfl) (fun x hx w _ => chkPut1_any x w (hl x hx).1 (hl x hx).2)
theorem anyR {l : List StepT} (h : ∀ x ∈ l, stepR x = true) : (l.any fun x => !stepR x) = false := List.any_eq_false.2 fun x hx => by simp [h x hx]
set_option maxRecDepth 100000 in
set_option maxHeartbeats 4000000 in
theorem chkPut_yes {fr al : Nat → Prop} {W : World} {p : Nat} {xs : List UInt8} {a : Option Addr} {n c : Nat} {l : List StepT} (st : Own fr al W [penI p xs, flI a n l] W) (hr : chainOk l = true) (hl : xs.length ≤ 1000000) :
    Calls Try.prog 44 #[.pointer (some ⟨p, 0, none⟩), .slice a n c] W fun e w' => e = .returned (.bool true) ∧ Own fr al W [penI p (xs ++ chainB l), flI a n l] w' := by
  obtain ⟨h1, h2⟩ := chainOk_is hr
  have hn : n = l.length := (st.flAt (i := 1) get1).1
  have hnl : n ≤ 256 := by omega
  have HCF := Lib.hid (fun W' h => putAny (a := a) (n := n) (c := c) (l := l) (by omega) (fun x hx => stepR_L (h2 x hx)) W' h)
  rw [anyR h2] at HCF
  have HA := Lib.hid (And.intro h2 hn)
  have HCB : Hid (chainB l = numB l.length ++ l.flatMap stepBy) := Lib.hid rfl
  have hb0 : (numB n).length ≤ 10 := numF_len 10 n
  clear hr h1 h2 hn
  (try simp only [Value.cells, List.cons_append, List.nil_append, List.set, spl, putIt, pick, List.map_cons, List.map_nil, List.getElem?_cons_zero, List.getElem?_cons_succ, Option.getD_some, List.drop_succ_cons, List.drop_zero, List.drop_nil, List.append_nil, unB] at st)
  (try clear hc); have hc := st.facts; (try simp only [factsOf, blkI, blkFacts, rowI, byI, datI, nullI, oldI, penI, rdI, rdAnyI, rdOverI, Nat.zero_add, Nat.reduceAdd, and_true, true_and, and_self] at hc)
  go_enter Try.func44, Try.ntmps44
  go_wp2_with fail
  refine (HCF.out _ (st.flAt (i := 1) get1)).mono ?_
  rintro en w ⟨rfl, hx⟩
  replace st := st.ext hx
  clear hx
  go_wp2_with fail
  obtain ⟨fr', al', st', back⟩ := st.sub [0] (by decide) (by simp)
  (try simp only [Value.cells, List.cons_append, List.nil_append, List.set, spl, putIt, pick, List.map_cons, List.map_nil, List.getElem?_cons_zero, List.getElem?_cons_succ, Option.getD_some, List.drop_succ_cons, List.drop_zero, List.drop_nil, List.append_nil, unB] at st')
  refine (penNumber_c st' n (by omega) (by omega)).mono ?_
  clear st'
  rintro en w ⟨rfl, st'⟩
  replace st := back _ _ (by simp) st'
  clear back st'
  (try simp only [Value.cells, List.cons_append, List.nil_append, List.set, spl, putIt, pick, List.map_cons, List.map_nil, List.getElem?_cons_zero, List.getElem?_cons_succ, Option.getD_some, List.drop_succ_cons, List.drop_zero, List.drop_nil, List.append_nil, unB] at st)
  (try clear hc); have hc := st.facts; (try simp only [factsOf, blkI, blkFacts, rowI, byI, datI, nullI, oldI, penI, rdI, rdAnyI, rdOverI, Nat.zero_add, Nat.reduceAdd, and_true, true_and, and_self] at hc)
  have hl0 : (xs ++ numB n).length ≤ 1000010 := by simp; omega
  obtain ⟨ys0, hy0⟩ : ∃ ys, xs ++ numB n = ys := ⟨_, rfl⟩
  rw [hy0] at st hl0
  have HY0 := Lib.hid hy0
  clear hy0
  go_wp2_with fail
  go_loopg [24] n (fun k i wr => ∃ (j m : Nat) (ys : List UInt8), j ≤ n ∧ k = n - j ∧ i = .int .i64 (j : Int) ∧ Hid (ys = ys0 ++ (l.take j).flatMap stepBy) ∧ Hid (m = ys.length) ∧ m ≤ 1000010 + 400 * j ∧ Own fr al W [penI p ys, flI a n l] wr)
  case atStart => exact ⟨0, _, ys0, by omega, by omega, rfl, Lib.hid (by simp), Lib.hid rfl, by omega, st⟩
  case round =>
    obtain ⟨j, m, ys, hj, rfl, rfl, HY, HM, hm, st'⟩ := hrel
    clear st hc
    have st := st'
    clear st'
    (try simp only [Value.cells, List.cons_append, List.nil_append, List.set, spl, putIt, pick, List.map_cons, List.map_nil, List.getElem?_cons_zero, List.getElem?_cons_succ, Option.getD_some, List.drop_succ_cons, List.drop_zero, List.drop_nil, List.append_nil, unB] at st)
    (try clear hc); have hc := st.facts; (try simp only [factsOf, blkI, blkFacts, rowI, byI, datI, nullI, oldI, penI, rdI, rdAnyI, rdOverI, Nat.zero_add, Nat.reduceAdd, and_true, true_and, and_self] at hc)
    by_cases hjn : j < n
    · obtain ⟨b, off, ha, hcell⟩ := (st.flAt (i := 1) get1).step (by omega)
      have hjl : j < l.length := by have := HA.out.2; omega
      obtain ⟨r0, r1, r2, r3, r4, r5, r6, r7, r8, r9, r10, r11⟩ := hcell j l[j] (List.getElem?_eq_getElem hjl)
      have hts : l.take (j + 1) = l.take j ++ [l[j]] := (List.take_append_getElem hjl).symm
      have hR := HA.out.1 l[j] (List.getElem_mem hjl)
      clear hcell
      generalize l[j] = x at *
      obtain ⟨k1, k2, k3⟩ := stepR_is hR
      have hl3 := nameR_len k3
      have hb1 := credB_len2 k1
      have HC1 : Hid (credBy x.c = credB x.c) := Lib.hid (by unfold credBy; rw [if_pos k1])
      have HQ := Lib.hid (fun W => credBytes_f x.c W (credR_L k1))
      rw [HC1.out] at HQ
      have HX := Lib.hid (And.intro hts (show stepBy x = credB x.c ++ (numB x.f.w.length ++ x.f.w) from rfl))
      have HK3 := Lib.hid k3
      have hb3 : (numB x.f.w.length).length ≤ 10 := numF_len 10 x.f.w.length
      obtain ⟨u, hu⟩ : ∃ u, credB x.c = u := ⟨_, rfl⟩
      rw [hu] at HQ HX hb1
      clear hts k1 k2 k3 hR hjl hu HC1
      obtain ⟨⟨ck, ⟨ho, hd⟩, cw, ⟨bo, bd⟩, ⟨co, cd⟩, we⟩, ⟨⟨ro, rd⟩, fw⟩⟩ := x
      subst ha
      simp only at r0 r1 r2 r3 r4 r5 r6 r7 r8 r9 r10 r11 hl3 HK3 hb3
      unfold S at r1 r2 r3 r4 r5 r6 r7 r8 r9 r10 r11
      unfold cV S at HQ
      simp only at HQ
      go_wp2_with ((first
            | ((with_reducible refine wl_alloc ?_ (fun K hK => ?_)); rfl; refine owp_alloc (o := ⟨some 6, _, _, _, _, _⟩) rfl st ?_; apply Exists.intro; apply Exists.intro; refine ⟨?_, ?_⟩; (focus (first | (go_simp; done) | (go_simp; rfl))); (clear st; intro b6 w hb st; clear hb))
            | ((with_reducible refine wl_store ?_ (fun K hK => ?_)); rfl; refine owp_store rfl st ?_; apply Exists.intro; apply Exists.intro; refine ⟨?_, ?_, ?_⟩; (focus (go_simp; try rfl)); (focus (go_simp; try rfl)); (with_reducible refine ⟨2, _, _, _, _, get2, rfl, rfl, ?_, ?_, ?_, ?_⟩); (kernel_rfl); (simp [Value.cells]); (rfl); (clear st; intro w st))); (try simp only [Value.cells, List.cons_append, List.nil_append, List.set, spl, putIt, pick, List.map_cons, List.map_nil, List.getElem?_cons_zero, List.getElem?_cons_succ, Option.getD_some, List.drop_succ_cons, List.drop_zero, List.drop_nil, List.append_nil, unB] at st); (try clear hc); have hc := st.facts; (try simp only [factsOf, blkI, blkFacts, rowI, byI, datI, nullI, oldI, penI, rdI, rdAnyI, rdOverI, Nat.zero_add, Nat.reduceAdd, and_true, true_and, and_self] at hc))
      refine (HQ.out _).mono ?_
      rintro en w ⟨pa, pn, pc, rfl, hfr⟩
      have hpn : pn = u.length := (hfr.by).2.1
      subst hpn
      replace st := st.fresh hfr
      clear hfr
      (try simp only [Value.cells, List.cons_append, List.nil_append, List.set, spl, putIt, pick, List.map_cons, List.map_nil, List.getElem?_cons_zero, List.getElem?_cons_succ, Option.getD_some, List.drop_succ_cons, List.drop_zero, List.drop_nil, List.append_nil, unB] at st)
      (try clear hc); have hc := st.facts; (try simp only [factsOf, blkI, blkFacts, rowI, byI, datI, nullI, oldI, penI, rdI, rdAnyI, rdOverI, Nat.zero_add, Nat.reduceAdd, and_true, true_and, and_self] at hc)
      replace st := st.freezeRow (i := 3) get3
      (try simp only [Value.cells, List.cons_append, List.nil_append, List.set, spl, putIt, pick, List.map_cons, List.map_nil, List.getElem?_cons_zero, List.getElem?_cons_succ, Option.getD_some, List.drop_succ_cons, List.drop_zero, List.drop_nil, List.append_nil, unB] at st)
      (try clear hc); have hc := st.facts; (try simp only [factsOf, blkI, blkFacts, rowI, byI, datI, nullI, oldI, penI, rdI, rdAnyI, rdOverI, Nat.zero_add, Nat.reduceAdd, and_true, true_and, and_self] at hc)
      have hml : ys.length ≤ 1000010 + 400 * j := by have := HM.out; omega
      go_wp2_with fail
      obtain ⟨fr', al', st', back⟩ := st.sub [0, 3] (by decide) (by simp)
      (try simp only [Value.cells, List.cons_append, List.nil_append, List.set, spl, putIt, pick, List.map_cons, List.map_nil, List.getElem?_cons_zero, List.getElem?_cons_succ, Option.getD_some, List.drop_succ_cons, List.drop_zero, List.drop_nil, List.append_nil, unB] at st')
      refine (penRaw_c st' (by omega)).mono ?_
      clear st'
      rintro en w ⟨rfl, st'⟩
      replace st := back _ _ (by simp) st'
      clear back st'
      (try simp only [Value.cells, List.cons_append, List.nil_append, List.set, spl, putIt, pick, List.map_cons, List.map_nil, List.getElem?_cons_zero, List.getElem?_cons_succ, Option.getD_some, List.drop_succ_cons, List.drop_zero, List.drop_nil, List.append_nil, unB] at st)
      (try clear hc); have hc := st.facts; (try simp only [factsOf, blkI, blkFacts, rowI, byI, datI, nullI, oldI, penI, rdI, rdAnyI, rdOverI, Nat.zero_add, Nat.reduceAdd, and_true, true_and, and_self] at hc)
      go_wp2_with fail
      obtain ⟨fr', al', st', back⟩ := st.sub [0] (by decide) (by simp)
      (try simp only [Value.cells, List.cons_append, List.nil_append, List.set, spl, putIt, pick, List.map_cons, List.map_nil, List.getElem?_cons_zero, List.getElem?_cons_succ, Option.getD_some, List.drop_succ_cons, List.drop_zero, List.drop_nil, List.append_nil, unB] at st')
      refine (namePut_yes st' fw HK3.out (by simp; omega)).mono ?_
      clear st'
      rintro en w ⟨rfl, st'⟩
      replace st := back _ _ (by simp) st'
      clear back st'
      (try simp only [Value.cells, List.cons_append, List.nil_append, List.set, spl, putIt, pick, List.map_cons, List.map_nil, List.getElem?_cons_zero, List.getElem?_cons_succ, Option.getD_some, List.drop_succ_cons, List.drop_zero, List.drop_nil, List.append_nil, unB] at st)
      (try clear hc); have hc := st.facts; (try simp only [factsOf, blkI, blkFacts, rowI, byI, datI, nullI, oldI, penI, rdI, rdAnyI, rdOverI, Nat.zero_add, Nat.reduceAdd, and_true, true_and, and_self] at hc)
      go_wp2_with fail
      have st' := st.keep [0, 1] (by decide) (by simp)
      go_roundg (n - (j + 1))
      case measure => omega
      case rel => exact ⟨j + 1, _, ys ++ u ++ (numB fw.length ++ fw), by omega, by omega, by go_num, Lib.hid (by rw [HX.out.1, List.flatMap_append, ← List.append_assoc ys0, ← HY.out]; simp [HX.out.2]), Lib.hid rfl, by simp; omega, by simpa [pick] using st'⟩
    · obtain rfl : j = n := by omega
      have HF : Hid (ys = xs ++ chainB l) := Lib.hid (by rw [HY.out, HCB.out, ← HY0.out, List.take_of_length_le (by have := HA.out.2; omega), HA.out.2]; simp)
      rw [HF.out] at st
      go_wp2_with fail
      go_ret
      exact ⟨rfl, st⟩
set_option maxRecDepth 100000 in
set_option maxHeartbeats 2000000 in
theorem chkPut_no (p : Option Addr) (a : Option Addr) (n c : Nat) (l : List StepT) (W : World) (hf : Fl W a n l) (hn : n ≤ 2000000) (hl : ∀ x ∈ l, StL x) (h : p = none ∨ chainOk l = false) :
    Calls Try.prog 44 #[.pointer p, .slice a n c] W fun e w' => e = .returned (.bool false) ∧ Ext W w' := by
  have HCF := Lib.hid (fun W' h => putAny (a := a) (n := n) (c := c) (l := l) (by omega) hl W' h)
  have HF := Lib.hid hf
  have st := Own.startOld W
  cases p with
  | none =>
    clear h hf
    (try simp only [Value.cells, List.cons_append, List.nil_append, List.set, spl, putIt, pick, List.map_cons, List.map_nil, List.getElem?_cons_zero, List.getElem?_cons_succ, Option.getD_some, List.drop_succ_cons, List.drop_zero, List.drop_nil, List.append_nil, unB] at st)
    (try clear hc); have hc := st.facts; (try simp only [factsOf, blkI, blkFacts, rowI, byI, datI, nullI, oldI, penI, rdI, rdAnyI, rdOverI, Nat.zero_add, Nat.reduceAdd, and_true, true_and, and_self] at hc)
    go_enter Try.func44, Try.ntmps44
    go_wp2_with fail
    go_ret
    exact ⟨rfl, st.ext0⟩
  | some ad =>
    have hb : chainOk l = false := by rcases h with h | h; cases h; exact h
    have hnl : n = l.length := hf.1
    by_cases h256 : 256 < n
    · clear h hf hb hnl
      (try simp only [Value.cells, List.cons_append, List.nil_append, List.set, spl, putIt, pick, List.map_cons, List.map_nil, List.getElem?_cons_zero, List.getElem?_cons_succ, Option.getD_some, List.drop_succ_cons, List.drop_zero, List.drop_nil, List.append_nil, unB] at st)
      (try clear hc); have hc := st.facts; (try simp only [factsOf, blkI, blkFacts, rowI, byI, datI, nullI, oldI, penI, rdI, rdAnyI, rdOverI, Nat.zero_add, Nat.reduceAdd, and_true, true_and, and_self] at hc)
      go_enter Try.func44, Try.ntmps44
      go_wp2_with fail
      go_ret
      exact ⟨rfl, st.ext0⟩
    · have hany : (l.any fun x => !stepR x) = true := by
        unfold chainOk at hb
        rw [decide_eq_true (by omega), Bool.true_and, List.all_eq_false] at hb
        obtain ⟨x, hx, hx2⟩ := hb
        exact List.any_eq_true.2 ⟨x, hx, by simpa using hx2⟩
      rw [hany] at HCF
      clear h hf hb hnl hany
      (try simp only [Value.cells, List.cons_append, List.nil_append, List.set, spl, putIt, pick, List.map_cons, List.map_nil, List.getElem?_cons_zero, List.getElem?_cons_succ, Option.getD_some, List.drop_succ_cons, List.drop_zero, List.drop_nil, List.append_nil, unB] at st)
      (try clear hc); have hc := st.facts; (try simp only [factsOf, blkI, blkFacts, rowI, byI, datI, nullI, oldI, penI, rdI, rdAnyI, rdOverI, Nat.zero_add, Nat.reduceAdd, and_true, true_and, and_self] at hc)
      go_enter Try.func44, Try.ntmps44
      go_wp2_with fail
      refine (HCF.out _ HF.out).mono ?_
      rintro en w ⟨rfl, hx⟩
      replace st := st.ext hx
      clear hx
      go_wp2_with fail
      go_ret
      exact ⟨rfl, st.ext0⟩
end Go.Proofs.Ytekngjkjgmplpaa

namespace Go.Proofs.Ytekngjkjgmplpaa
set_option linter.unusedSimpArgs false
set_option linter.unusedVariables false
open Go Go.RowKit
def stepsM (l : List StepT) (v : Value) (M : List It) : Prop := ∃ n va vc, n = l.length ∧ v = .slice va n vc ∧ M = [rowI 66 12 (.slice va n vc) n (cellsL l)]
set_option maxRecDepth 100000 in
set_option maxHeartbeats 4000000 in
theorem chkGet_c {fr al : Nat → Prop} {W : World} {r : Nat} {xs : List UInt8} (st : Own fr al W [rdI r xs] W) (most : Int) (hm : most ≤ 100000) (hl : xs.length ≤ 100000) :
    Calls Try.prog 48 #[.pointer (some ⟨r, 0, none⟩), .int .i64 most] W (RdC fr al W r (rdSteps most xs) stepsM) := by
  go_enter Try.func48, Try.ntmps48
  go_wp2_with fail
  obtain ⟨fr', al', st', back⟩ := st.sub [0] (by decide) (by simp)
  (try simp only [Value.cells, List.cons_append, List.nil_append, List.set, spl, putIt, pick, List.map_cons, List.map_nil, List.getElem?_cons_zero, List.getElem?_cons_succ, Option.getD_some, List.drop_succ_cons, List.drop_zero, List.drop_nil, List.append_nil, unB] at st')
  refine (number_c st' most).mono ?_
  clear st'
  intro en w hen
  unfold RdC at hen
  cases hr : rdNumber most xs with
  | error e =>
    rw [hr] at hen
    obtain ⟨rfl, st'⟩ := hen
    replace st := back _ _ (by simp) st'
    clear back st'
    (try simp only [Value.cells, List.cons_append, List.nil_append, List.set, spl, putIt, pick, List.map_cons, List.map_nil, List.getElem?_cons_zero, List.getElem?_cons_succ, Option.getD_some, List.drop_succ_cons, List.drop_zero, List.drop_nil, List.append_nil, unB] at st)
    (try clear hc); have hc := st.facts; (try simp only [factsOf, blkI, blkFacts, rowI, byI, datI, nullI, oldI, penI, rdI, rdAnyI, rdOverI, Nat.zero_add, Nat.reduceAdd, and_true, true_and, and_self] at hc)
    have H1 : Hid (rdSteps most xs = .error e) := Lib.hid (by simp [rdSteps, hr, bd])
    clear hr
    go_wp2_with fail
    refine ⟨rfl, ?_⟩
    unfold RdC
    rw [H1.out]
    have st' := st.keep [0] (by decide) (by simp)
    exact ⟨rfl, by simpa [pick] using st'⟩
  | ok p =>
    obtain ⟨n, ys⟩ := p
    rw [hr] at hen
    obtain ⟨v, M, rfl, ⟨rfl, rfl⟩, st'⟩ := hen
    replace st := back _ _ (by simp) st'
    clear back st'
    (try simp only [Value.cells, List.cons_append, List.nil_append, List.set, spl, putIt, pick, List.map_cons, List.map_nil, List.getElem?_cons_zero, List.getElem?_cons_succ, Option.getD_some, List.drop_succ_cons, List.drop_zero, List.drop_nil, List.append_nil, unB] at st)
    (try clear hc); have hc := st.facts; (try simp only [factsOf, blkI, blkFacts, rowI, byI, datI, nullI, oldI, penI, rdI, rdAnyI, rdOverI, Nat.zero_add, Nat.reduceAdd, and_true, true_and, and_self] at hc)
    have hl1 := rdNumber_leM hr
    have HR1 : Hid (rdSteps most xs = rdN rdStep n ys) := Lib.hid (by simp [rdSteps, hr, bd])
    clear hr
    have hn : n ≤ 100000 := by omega
    replace st := st.row_nil 66 12
    (try simp only [Value.cells, List.cons_append, List.nil_append, List.set, spl, putIt, pick, List.map_cons, List.map_nil, List.getElem?_cons_zero, List.getElem?_cons_succ, Option.getD_some, List.drop_succ_cons, List.drop_zero, List.drop_nil, List.append_nil, unB] at st)
    (try clear hc); have hc := st.facts; (try simp only [factsOf, blkI, blkFacts, rowI, byI, datI, nullI, oldI, penI, rdI, rdAnyI, rdOverI, Nat.zero_add, Nat.reduceAdd, and_true, true_and, and_self] at hc)
    go_wp2_with fail
    go_loopg [5, 10] n (fun k v i wr => ∃ (j : Nat) (out : List StepT) (zs : List UInt8) (va : Option Addr) (vc : Nat), j ≤ n ∧ k = n - j ∧ v = .slice va j vc ∧ i = .int .i64 (j : Int) ∧ Hid (rdSteps most xs = addN out (rdN rdStep (n - j) zs)) ∧ Hid (j = out.length) ∧ zs.length ≤ 100000 ∧ Own fr al W [rdI r zs, rowI 66 12 (.slice va j vc) j (cellsL out)] wr)
    case atStart => exact ⟨0, [], ys, none, 0, by omega, by omega, rfl, rfl, Lib.hid (by rw [HR1.out, addN_nil]; rfl), Lib.hid rfl, by omega, st⟩
    case round =>
      obtain ⟨j, out, zs, va, vc, hj, rfl, rfl, rfl, HT, HJ, hzl, st'⟩ := hrel
      clear st hc
      have st := st'
      clear st'
      (try simp only [Value.cells, List.cons_append, List.nil_append, List.set, spl, putIt, pick, List.map_cons, List.map_nil, List.getElem?_cons_zero, List.getElem?_cons_succ, Option.getD_some, List.drop_succ_cons, List.drop_zero, List.drop_nil, List.append_nil, unB] at st)
      (try clear hc); have hc := st.facts; (try simp only [factsOf, blkI, blkFacts, rowI, byI, datI, nullI, oldI, penI, rdI, rdAnyI, rdOverI, Nat.zero_add, Nat.reduceAdd, and_true, true_and, and_self] at hc)
      by_cases hjn : j < n
      · obtain ⟨q, hq⟩ : ∃ q, n - j = q + 1 := ⟨n - j - 1, by omega⟩
        rw [hq] at HT
        have hq2 : n - (j + 1) = q := by omega
        clear hq
        go_wp2_with fail
        obtain ⟨fr', al', st', back⟩ := st.sub [0] (by decide) (by simp)
        (try simp only [Value.cells, List.cons_append, List.nil_append, List.set, spl, putIt, pick, List.map_cons, List.map_nil, List.getElem?_cons_zero, List.getElem?_cons_succ, Option.getD_some, List.drop_succ_cons, List.drop_zero, List.drop_nil, List.append_nil, unB] at st')
        refine (credGet_c st' hzl).mono ?_
        clear st'
        intro en w hen
        unfold RdC at hen
        cases hr : rdCred zs with
        | error e =>
          rw [hr] at hen
          obtain ⟨rfl, st'⟩ := hen
          replace st := back _ _ (by simp) st'
          clear back st'
          (try simp only [Value.cells, List.cons_append, List.nil_append, List.set, spl, putIt, pick, List.map_cons, List.map_nil, List.getElem?_cons_zero, List.getElem?_cons_succ, Option.getD_some, List.drop_succ_cons, List.drop_zero, List.drop_nil, List.append_nil, unB] at st)
          (try clear hc); have hc := st.facts; (try simp only [factsOf, blkI, blkFacts, rowI, byI, datI, nullI, oldI, penI, rdI, rdAnyI, rdOverI, Nat.zero_add, Nat.reduceAdd, and_true, true_and, and_self] at hc)
          have H1 : Hid (rdSteps most xs = .error e) := Lib.hid (by rw [HT.out]; exact addN_er rdStep _ _ (by simp [rdStep,  hr, bd]))
          clear hr
          go_wp2_with fail
          refine ⟨rfl, ?_⟩
          unfold RdC
          rw [H1.out]
          have st' := st.keep [0] (by decide) (by simp)
          exact ⟨rfl, by simpa [pick] using st'⟩
        | ok p =>
          obtain ⟨x, us⟩ := p
          rw [hr] at hen
          obtain ⟨v, M, rfl, ⟨rfl, rfl⟩, st'⟩ := hen
          replace st := back _ _ (by simp) st'
          clear back st'
          (try simp only [Value.cells, List.cons_append, List.nil_append, List.set, spl, putIt, pick, List.map_cons, List.map_nil, List.getElem?_cons_zero, List.getElem?_cons_succ, Option.getD_some, List.drop_succ_cons, List.drop_zero, List.drop_nil, List.append_nil, unB] at st)
          (try clear hc); have hc := st.facts; (try simp only [factsOf, blkI, blkFacts, rowI, byI, datI, nullI, oldI, penI, rdI, rdAnyI, rdOverI, Nat.zero_add, Nat.reduceAdd, and_true, true_and, and_self] at hc)
          have hl2 := (rdCred_le hr).1
          have HR2 := Lib.hid hr
          clear hr
          obtain ⟨ck, ⟨ho, hd⟩, cw, ⟨bo, bd'⟩, ⟨co, cd⟩, we⟩ := x
          unfold cV S
          simp only
          go_wp2_with ((first
                | ((with_reducible refine wl_alloc ?_ (fun K hK => ?_)); rfl; refine owp_alloc (o := ⟨some 6, _, _, _, _, _⟩) rfl st ?_; apply Exists.intro; apply Exists.intro; refine ⟨?_, ?_⟩; (focus (first | (go_simp; done) | (go_simp; rfl))); (clear st; intro b6 w hb st; clear hb))
                | ((with_reducible refine wl_store ?_ (fun K hK => ?_)); rfl; refine owp_store rfl st ?_; apply Exists.intro; apply Exists.intro; refine ⟨?_, ?_, ?_⟩; (focus (go_simp; try rfl)); (focus (go_simp; try rfl)); (with_reducible refine ⟨2, _, _, _, _, get2, rfl, rfl, ?_, ?_, ?_, ?_⟩); (kernel_rfl); (simp [Value.cells]); (rfl); (clear st; intro w st))); (try simp only [Value.cells, List.cons_append, List.nil_append, List.set, spl, putIt, pick, List.map_cons, List.map_nil, List.getElem?_cons_zero, List.getElem?_cons_succ, Option.getD_some, List.drop_succ_cons, List.drop_zero, List.drop_nil, List.append_nil, unB] at st); (try clear hc); have hc := st.facts; (try simp only [factsOf, blkI, blkFacts, rowI, byI, datI, nullI, oldI, penI, rdI, rdAnyI, rdOverI, Nat.zero_add, Nat.reduceAdd, and_true, true_and, and_self] at hc))
          refine Rg4.wp_region4_eq #[0, 0, 0, 4, 0, 16, 60, 126, 254, 511, 1023] [5, 8, 9] [] (fun W' => Blk W' b6 [.int .i64 ck, .string ⟨ho.toArray⟩, .string ⟨hd.toArray⟩, .string ⟨cw.toArray⟩, .string ⟨bo.toArray⟩, .string ⟨bd'.toArray⟩, .string ⟨co.toArray⟩, .string ⟨cd.toArray⟩, .string ⟨we.toArray⟩]) [0, 1, 2, 3, 4, 5, 6, 7, 8, 9, 10] (by kernel_rfl) (by kernel_rfl) (by kernel_rfl) (by kernel_rfl) (show Rg4.PB _ by repeat (first | with_reducible exact Rg4.pb_body | with_reducible exact Rg4.pb_bodyD rfl | with_reducible refine Rg4.pb_then ?_ | with_reducible refine Rg4.pb_inBlock ?_ | with_reducible refine Rg4.pb_noGoto ?_)) (st.drew.blk (i := 2) get2) ?_
          replace st := st.drew
          change Rg4.wp4 _ _ _ _ _ _ _ _ _ (World.drew _) _ _
          generalize World.drew _ = w at st ⊢
          (try clear hc); have hc := st.facts; (try simp only [factsOf, blkI, blkFacts, rowI, byI, datI, nullI, oldI, penI, rdI, rdAnyI, rdOverI, Nat.zero_add, Nat.reduceAdd, and_true, true_and, and_self] at hc)
          (refine Rg4.w4_any (Rg4.want_none rfl) rfl ?_; apply Exists.intro; refine ⟨fun w' => ?_, ?_⟩; (focus (first | (go_simp; done) | (go_simp; first | rfl | (rw [if_neg] <;> first | rfl | omega) | (rw [if_pos] <;> first | rfl | omega)))); (try simp only [Act.put, List.setIfInBounds_toArray, List.set]))
          (refine Rg4.w4_cl (Rg4.want_none rfl) rfl ?_; apply Exists.intro; refine ⟨fun w' hcl => ?_, ?_⟩; (focus (have q0 := Blk.cell hcl 0; have q1 := Blk.cell hcl 1; have q2 := Blk.cell hcl 2; have q3 := Blk.cell hcl 3; have q4 := Blk.cell hcl 4; have q5 := Blk.cell hcl 5; have q6 := Blk.cell hcl 6; have q7 := Blk.cell hcl 7; have q8 := Blk.cell hcl 8; (try simp at q0 q1 q2 q3 q4 q5 q6 q7 q8); (focus (first | (go_simp; done) | (go_simp; first | rfl | (rw [if_neg] <;> first | rfl | omega) | (rw [if_pos] <;> first | rfl | omega)))))); (try simp only [Act.put, List.setIfInBounds_toArray, List.set]))
          (refine Rg4.w4_any (Rg4.want_none rfl) rfl ?_; apply Exists.intro; refine ⟨fun w' => ?_, ?_⟩; (focus (first | (go_simp; done) | (go_simp; first | rfl | (rw [if_neg] <;> first | rfl | omega) | (rw [if_pos] <;> first | rfl | omega)))); (try simp only [Act.put, List.setIfInBounds_toArray, List.set]))
          (refine Rg4.w4_cl (Rg4.want_none rfl) rfl ?_; apply Exists.intro; refine ⟨fun w' hcl => ?_, ?_⟩; (focus (have q0 := Blk.cell hcl 0; have q1 := Blk.cell hcl 1; have q2 := Blk.cell hcl 2; have q3 := Blk.cell hcl 3; have q4 := Blk.cell hcl 4; have q5 := Blk.cell hcl 5; have q6 := Blk.cell hcl 6; have q7 := Blk.cell hcl 7; have q8 := Blk.cell hcl 8; (try simp at q0 q1 q2 q3 q4 q5 q6 q7 q8); (focus (first | (go_simp; done) | (go_simp; first | rfl | (rw [if_neg] <;> first | rfl | omega) | (rw [if_pos] <;> first | rfl | omega)))))); (try simp only [Act.put, List.setIfInBounds_toArray, List.set]))
          (refine Rg4.w4_any (Rg4.want_none rfl) rfl ?_; apply Exists.intro; refine ⟨fun w' => ?_, ?_⟩; (focus (first | (go_simp; done) | (go_simp; first | rfl | (rw [if_neg] <;> first | rfl | omega) | (rw [if_pos] <;> first | rfl | omega)))); (try simp only [Act.put, List.setIfInBounds_toArray, List.set]))
          refine Rg4.w4_bar (Rg4.want_none rfl) rfl (fun w' hw' hcl _ K hK => ?_)
          subst hw'
          go_wp2_with fail
          obtain ⟨fr', al', st', back⟩ := st.sub [0] (by decide) (by simp)
          (try simp only [Value.cells, List.cons_append, List.nil_append, List.set, spl, putIt, pick, List.map_cons, List.map_nil, List.getElem?_cons_zero, List.getElem?_cons_succ, Option.getD_some, List.drop_succ_cons, List.drop_zero, List.drop_nil, List.append_nil, unB] at st')
          refine (nameGet_c st' (by omega)).mono ?_
          clear st'
          intro en w hen
          unfold RdC at hen
          cases hr : rdName us with
          | error e =>
            rw [hr] at hen
            obtain ⟨rfl, st'⟩ := hen
            replace st := back _ _ (by simp) st'
            clear back st'
            (try simp only [Value.cells, List.cons_append, List.nil_append, List.set, spl, putIt, pick, List.map_cons, List.map_nil, List.getElem?_cons_zero, List.getElem?_cons_succ, Option.getD_some, List.drop_succ_cons, List.drop_zero, List.drop_nil, List.append_nil, unB] at st)
            (try clear hc); have hc := st.facts; (try simp only [factsOf, blkI, blkFacts, rowI, byI, datI, nullI, oldI, penI, rdI, rdAnyI, rdOverI, Nat.zero_add, Nat.reduceAdd, and_true, true_and, and_self] at hc)
            have H1 : Hid (rdSteps most xs = .error e) := Lib.hid (by rw [HT.out]; exact addN_er rdStep _ _ (by simp [rdStep, HR2.out, hr, bd]))
            clear hr
            go_wp2_with fail
            refine ⟨rfl, ?_⟩
            unfold RdC
            rw [H1.out]
            have st' := st.keep [0] (by decide) (by simp)
            exact ⟨rfl, by simpa [pick] using st'⟩
          | ok p =>
            obtain ⟨fw, ts⟩ := p
            rw [hr] at hen
            obtain ⟨v, M, rfl, ⟨rfl, rfl⟩, st'⟩ := hen
            replace st := back _ _ (by simp) st'
            clear back st'
            (try simp only [Value.cells, List.cons_append, List.nil_append, List.set, spl, putIt, pick, List.map_cons, List.map_nil, List.getElem?_cons_zero, List.getElem?_cons_succ, Option.getD_some, List.drop_succ_cons, List.drop_zero, List.drop_nil, List.append_nil, unB] at st)
            (try clear hc); have hc := st.facts; (try simp only [factsOf, blkI, blkFacts, rowI, byI, datI, nullI, oldI, penI, rdI, rdAnyI, rdOverI, Nat.zero_add, Nat.reduceAdd, and_true, true_and, and_self] at hc)
            have hl3 := (rdName_le hr).1
            have H1 : Hid (rdSteps most xs = addN (out ++ [⟨⟨ck, (ho, hd), cw, (bo, bd'), (co, cd), we⟩, ⟨(ho, hd), fw⟩⟩]) (rdN rdStep q ts)) := Lib.hid (by rw [HT.out]; exact addN_ok rdStep _ _ (by simp [rdStep, HR2.out, hr, bd]))
            clear hr
            unfold S
            refine hK _ _ ⟨st.blk (i := 2) get2, ?_⟩
            clear hK
            (try simp only [Act.put, List.setIfInBounds_toArray, List.set])
            (refine Rg4.w4_any (Rg4.want_none rfl) rfl ?_; apply Exists.intro; refine ⟨fun w' => ?_, ?_⟩; (focus (first | (go_simp; done) | (go_simp; first | rfl | (rw [if_neg] <;> first | rfl | omega) | (rw [if_pos] <;> first | rfl | omega)))); (try simp only [Act.put, List.setIfInBounds_toArray, List.set]))
            (refine Rg4.w4_any (Rg4.want_none rfl) rfl ?_; apply Exists.intro; refine ⟨fun w' => ?_, ?_⟩; (focus (first | (go_simp; done) | (go_simp; first | rfl | (rw [if_neg] <;> first | rfl | omega) | (rw [if_pos] <;> first | rfl | omega)))); (try simp only [Act.put, List.setIfInBounds_toArray, List.set]))
            (refine Rg4.w4_bar (Rg4.want_none rfl) rfl (fun w' hw' hcl' _ K hK => ?_); subst hw'; (refine owp_buildSlice (o := ⟨some 22, _, _, _, _, _⟩) rfl st ?_; apply Exists.intro; apply Exists.intro; apply Exists.intro; apply Exists.intro; refine ⟨?_, ?_⟩; (focus (go_simp; (first | done | exact ⟨⟨rfl, rfl⟩, rfl⟩ | rfl))); (clear st; intro b22 w hb st; clear hb); (try simp only [Value.cells, List.cons_append, List.nil_append, List.set, spl, putIt, pick, List.map_cons, List.map_nil, List.getElem?_cons_zero, List.getElem?_cons_succ, Option.getD_some, List.drop_succ_cons, List.drop_zero, List.drop_nil, List.append_nil, unB] at st); (try clear hc); have hc := st.facts; (try simp only [factsOf, blkI, blkFacts, rowI, byI, datI, nullI, oldI, penI, rdI, rdAnyI, rdOverI, Nat.zero_add, Nat.reduceAdd, and_true, true_and, and_self] at hc)); refine hK _ _ ⟨st.blk (i := 2) get2, ?_⟩; (try simp only [Act.put, List.setIfInBounds_toArray, List.set]))
            refine Rg4.w4_bar (Rg4.want_none rfl) rfl (fun w' hw' hcl _ K hK => ?_)
            subst hw'
            obtain ⟨inf, hinf, hz0, hz1, hz2⟩ := stepInfo
            refine owp_append rfl st 1 get1 Try.underlying60 hinf hz0 hz1 hz2 rfl (by decide) rfl rfl ((st.blk (i := 3) get3).flat rfl) (by simp [Value.oneCell']) (by simp only [maxLen]; omega) (by omega) ?_
            clear hinf hz0 hz1 hz2 inf
            clear st
            intro v' w st
            obtain ⟨va', vc', rfl⟩ := own_slice (st.row (i := 1) get1)
            (try simp only [Value.cells, List.cons_append, List.nil_append, List.set, spl, putIt, pick, List.map_cons, List.map_nil, List.getElem?_cons_zero, List.getElem?_cons_succ, Option.getD_some, List.drop_succ_cons, List.drop_zero, List.drop_nil, List.append_nil, unB] at st)
            (try clear hc); have hc := st.facts; (try simp only [factsOf, blkI, blkFacts, rowI, byI, datI, nullI, oldI, penI, rdI, rdAnyI, rdOverI, Nat.zero_add, Nat.reduceAdd, and_true, true_and, and_self] at hc)
            refine hK _ _ ⟨st.blk (i := 2) get2, ?_⟩
            clear hK
            (try simp only [Act.put, List.setIfInBounds_toArray, List.set])
            (refine Rg4.w4_any (Rg4.want_none rfl) rfl ?_; apply Exists.intro; refine ⟨fun w' => ?_, ?_⟩; (focus (first | (go_simp; done) | (go_simp; first | rfl | (rw [if_neg] <;> first | rfl | omega) | (rw [if_pos] <;> first | rfl | omega)))); (try simp only [Act.put, List.setIfInBounds_toArray, List.set]))
            refine Rg4.w4_nil (fun w' hw' hcl' _ => ?_); subst hw'; clear hcl'
            go_wp2_with fail
            have st' := st.keep [0, 1] (by decide) (by simp)
            go_roundg (n - (j + 1))
            case measure => omega
            case rel =>
              refine ⟨j + 1, _, ts, va', vc', by omega, by omega, rfl, by go_num, by rw [hq2]; exact H1, Lib.hid (by simp [HJ.out]), by omega, ?_⟩
              rw [cellsL_append, cellsL_one']
              exact st'
      · obtain rfl : j = n := by omega
        have H1 : Hid (rdSteps most xs = .ok (out, zs)) := Lib.hid (by rw [HT.out, Nat.sub_self]; exact addN_end rdStep _ _)
        go_wp2_with fail
        go_ret
        unfold RdC
        rw [H1.out]
        exact ⟨_, _, rfl, ⟨j, va, vc, HJ.out, rfl, rfl⟩, st⟩
end Go.Proofs.Ytekngjkjgmplpaa

namespace Go.Proofs.Ytekngjkjgmplpaa
set_option linter.unusedSimpArgs false
set_option linter.unusedVariables false
open Go Go.RowKit
theorem chainBy_no {l : List StepT} {x : StepT} (hx : x ∈ l) (h : stepR x = false) : chainBy l = [] := by
  unfold chainBy chainOk
  rw [if_neg]
  intro q
  rw [Bool.and_eq_true, List.all_eq_true] at q
  rw [q.2 x hx] at h
  cases h
@[irreducible] def stepEq (a b : StepT) : Bool := decide (a = b)
theorem stepEq_eq (a b : StepT) : stepEq a b = decide (a = b) := by unfold stepEq; rfl
@[go_sem] theorem stepEq_self (x : StepT) : stepEq x x = true := by rw [stepEq_eq]; simp
@[go_sem high] theorem eqStep (k : Int) (ho hd w bo bd co cd e ro rd fw : List UInt8) (k' : Int) (ho' hd' w' bo' bd' co' cd' e' ro' rd' fw' : List UInt8) (W : World) :
    (Op.equalIn 10000 66 (.agg #[.int .i64 k, .string ⟨ho.toArray⟩, .string ⟨hd.toArray⟩, .string ⟨w.toArray⟩, .string ⟨bo.toArray⟩, .string ⟨bd.toArray⟩, .string ⟨co.toArray⟩, .string ⟨cd.toArray⟩, .string ⟨e.toArray⟩, .string ⟨ro.toArray⟩, .string ⟨rd.toArray⟩, .string ⟨fw.toArray⟩])
      (.agg #[.int .i64 k', .string ⟨ho'.toArray⟩, .string ⟨hd'.toArray⟩, .string ⟨w'.toArray⟩, .string ⟨bo'.toArray⟩, .string ⟨bd'.toArray⟩, .string ⟨co'.toArray⟩, .string ⟨cd'.toArray⟩, .string ⟨e'.toArray⟩, .string ⟨ro'.toArray⟩, .string ⟨rd'.toArray⟩, .string ⟨fw'.toArray⟩])).run Try.prog W =
      .ok (stepEq ⟨⟨k, (ho, hd), w, (bo, bd), (co, cd), e⟩, ⟨(ro, rd), fw⟩⟩ ⟨⟨k', (ho', hd'), w', (bo', bd'), (co', cd'), e'⟩, ⟨(ro', rd'), fw'⟩⟩) W := by
  have hS : Try.prog.underlying 66 = some (.struct (Try.prog.fieldsOf 66)) := by kernel_rfl
  rw [show (10000 : Nat) = 9999 + 1 from rfl, run_equalIn_agg W 9999 66 _ _ hS (by kernel_rfl), stepEq_eq]
  simp only [Program.fieldsOf, Try.underlying66]
  go_simp
  simp only [iteB, Bool.and_true, Bool.and_assoc]
set_option maxRecDepth 100000 in
set_option maxHeartbeats 4000000 in
theorem refChainBytes_any (a : Option Addr) (n c : Nat) (l : List StepT) (W : World) (h : Fl W a n l) (hn : n ≤ 1000000) (hl : ∀ x ∈ l, StL x) :
    Calls Try.prog 43 #[.slice a n c] W fun e w' => e = .returned (S (chainBy l)) ∧ Ext W w' := by
  have happ := ba_append
  have H := Lib.hid h
  have HL := Lib.hid hl
  have HNL := Lib.hid h.1
  obtain ⟨r, hr⟩ : ∃ r, chainBy l = r := ⟨_, rfl⟩
  have HR := Lib.hid hr.symm
  rw [hr]
  clear h hl hr
  have st := Own.startOld W
  unfold S
  (try simp only [Value.cells, List.cons_append, List.nil_append, List.set, spl, putIt, pick, List.map_cons, List.map_nil, List.getElem?_cons_zero, List.getElem?_cons_succ, Option.getD_some, List.drop_succ_cons, List.drop_zero, List.drop_nil, List.append_nil, unB] at st)
  (try clear hc); have hc := st.facts; (try simp only [factsOf, blkI, blkFacts, rowI, byI, datI, nullI, oldI, penI, rdI, rdAnyI, rdOverI, Nat.zero_add, Nat.reduceAdd, and_true, true_and, and_self] at hc)
  by_cases h256 : 256 < n
  · have HF : Hid (r = []) := Lib.hid (by rw [HR.out]; unfold chainBy chainOk; rw [decide_eq_false (by have := HNL.out; omega)]; rfl)
    go_enter Try.func43, Try.ntmps43
    go_wp2_with fail
    go_ret
    exact ⟨by rw [HF.out]; rfl, st.ext0⟩
  go_enter Try.func43, Try.ntmps43
  go_wp2_with fail
  refine (refNumber_any n _ (by omega)).mono ?_
  rintro en w ⟨rfl, hx⟩
  replace st := st.ext hx
  clear hx
  (try clear hc); have hc := st.facts; (try simp only [factsOf, blkI, blkFacts, rowI, byI, datI, nullI, oldI, penI, rdI, rdAnyI, rdOverI, Nat.zero_add, Nat.reduceAdd, and_true, true_and, and_self] at hc)
  unfold S
  have hb0 : (numB n).length ≤ 10 := numF_len 10 n
  go_wp2_with fail
  go_loopg [3, 14] n (fun k v i wr => ∃ (j m : Nat) (ys : List UInt8), j ≤ n ∧ k = n - j ∧ i = .int .i64 (j : Int) ∧ v = .string ⟨ys.toArray⟩ ∧ Hid (ys = numB n ++ (l.take j).flatMap stepBy ∧ ∀ x ∈ l.take j, stepR x = true) ∧ Hid (m = ys.length) ∧ m ≤ 10 + 400 * j ∧ Own (fun _ => False) (fun _ => True) W [oldI W] wr)
  case atStart => exact ⟨0, _, numB n, by omega, by omega, rfl, rfl, Lib.hid ⟨by simp, by simp⟩, Lib.hid rfl, by omega, st⟩
  case round =>
    obtain ⟨j, m, ys, hj, rfl, rfl, rfl, HY, HM, hm, st'⟩ := hrel
    clear st hc
    have st := st'
    clear st'
    (try simp only [Value.cells, List.cons_append, List.nil_append, List.set, spl, putIt, pick, List.map_cons, List.map_nil, List.getElem?_cons_zero, List.getElem?_cons_succ, Option.getD_some, List.drop_succ_cons, List.drop_zero, List.drop_nil, List.append_nil, unB] at st)
    (try clear hc); have hc := st.facts; (try simp only [factsOf, blkI, blkFacts, rowI, byI, datI, nullI, oldI, penI, rdI, rdAnyI, rdOverI, Nat.zero_add, Nat.reduceAdd, and_true, true_and, and_self] at hc)
    by_cases hjn : j < n
    · obtain ⟨b, off, ha, hcell⟩ := H.out.step (by omega)
      have hjl : j < l.length := by have := HNL.out; omega
      obtain ⟨r0, r1, r2, r3, r4, r5, r6, r7, r8, r9, r10, r11⟩ := hcell j l[j] (List.getElem?_eq_getElem hjl)
      replace r0 := st.oldCell (i := 0) get0 r0
      replace r1 := st.oldCell (i := 0) get0 r1
      replace r2 := st.oldCell (i := 0) get0 r2
      replace r3 := st.oldCell (i := 0) get0 r3
      replace r4 := st.oldCell (i := 0) get0 r4
      replace r5 := st.oldCell (i := 0) get0 r5
      replace r6 := st.oldCell (i := 0) get0 r6
      replace r7 := st.oldCell (i := 0) get0 r7
      replace r8 := st.oldCell (i := 0) get0 r8
      replace r9 := st.oldCell (i := 0) get0 r9
      replace r10 := st.oldCell (i := 0) get0 r10
      replace r11 := st.oldCell (i := 0) get0 r11
      have hts : l.take (j + 1) = l.take j ++ [l[j]] := (List.take_append_getElem hjl).symm
      have hmem := List.getElem_mem hjl
      have hxl := HL.out l[j] hmem
      clear hcell
      generalize l[j] = x at *
      have HCR := Lib.hid (fun W => refCredRight_any x.c W (CLenS.big hxl.1))
      have HNR := Lib.hid (fun W => refRight_any x.f.w W (by have := hxl.2; omega))
      obtain ⟨cr, hcr⟩ : ∃ b, credR x.c = b := ⟨_, rfl⟩
      rw [hcr] at HCR
      have HCB := Lib.hid (fun W q => refCredBytes_any x.c W q)
      obtain ⟨u, hu⟩ : ∃ u, credB x.c = u := ⟨_, rfl⟩
      rw [hu] at HCB
      have HUL : Hid (credR x.c = true → u.length ≤ 300) := Lib.hid (fun q => by rw [← hu]; exact credB_len2 q)
      have HX := Lib.hid (And.intro hts hmem)
      have HXB : Hid (stepBy x = u ++ (numB x.f.w.length ++ x.f.w)) := Lib.hid (by rw [← hu]; rfl)
      have HCI := Lib.hid hcr
      have hxw := hxl.2
      clear hts hmem hjl hu hxl hcr
      obtain ⟨⟨ck, ⟨ho, hd⟩, cw, ⟨bo, bd⟩, ⟨co, cd⟩, we⟩, ⟨⟨ro, rd⟩, fw⟩⟩ := x
      subst ha
      simp only at r0 r1 r2 r3 r4 r5 r6 r7 r8 r9 r10 r11 HNR HXB HCI HUL HCB hxw
      unfold S at r1 r2 r3 r4 r5 r6 r7 r8 r9 r10 r11 HNR
      unfold cV S at HCR HCB
      simp only at HCR HCB
      cases cr with
      | false =>
        have HF : Hid (r = []) := Lib.hid (by rw [HR.out]; exact chainBy_no HX.out.2 (by unfold stepR; simp only; rw [HCI.out]; rfl))
        go_wp2_with ((first
              | ((with_reducible refine wl_alloc ?_ (fun K hK => ?_)); rfl; refine owp_alloc (o := ⟨some 5, _, _, _, _, _⟩) rfl st ?_; apply Exists.intro; apply Exists.intro; refine ⟨?_, ?_⟩; (focus (first | (go_simp; done) | (go_simp; rfl))); (clear st; intro b5 w hb st; clear hb))
              | ((with_reducible refine wl_store ?_ (fun K hK => ?_)); rfl; refine owp_store rfl st ?_; apply Exists.intro; apply Exists.intro; refine ⟨?_, ?_, ?_⟩; (focus (go_simp; try rfl)); (focus (go_simp; try rfl)); (with_reducible refine ⟨1, _, _, _, _, get1, rfl, rfl, ?_, ?_, ?_, ?_⟩); (kernel_rfl); (simp [Value.cells]); (rfl); (clear st; intro w st))); (try simp only [Value.cells, List.cons_append, List.nil_append, List.set, spl, putIt, pick, List.map_cons, List.map_nil, List.getElem?_cons_zero, List.getElem?_cons_succ, Option.getD_some, List.drop_succ_cons, List.drop_zero, List.drop_nil, List.append_nil, unB] at st); (try clear hc); have hc := st.facts; (try simp only [factsOf, blkI, blkFacts, rowI, byI, datI, nullI, oldI, penI, rdI, rdAnyI, rdOverI, Nat.zero_add, Nat.reduceAdd, and_true, true_and, and_self] at hc))
        refine (HCR.out _).mono ?_
        rintro en w ⟨rfl, hx⟩
        replace st := st.ext hx
        clear hx
        (try clear hc); have hc := st.facts; (try simp only [factsOf, blkI, blkFacts, rowI, byI, datI, nullI, oldI, penI, rdI, rdAnyI, rdOverI, Nat.zero_add, Nat.reduceAdd, and_true, true_and, and_self] at hc)
        go_wp2_with fail
        go_ret
        exact ⟨by rw [HF.out]; rfl, st.ext0⟩
      | true =>
        cases hre : roleEq (ro, rd) (ho, hd) with
        | false =>
          have HF : Hid (r = []) := Lib.hid (by rw [HR.out]; exact chainBy_no HX.out.2 (by unfold stepR; simp only; rw [HCI.out, hre]; rfl))
          go_wp2_with ((first
                | ((with_reducible refine wl_alloc ?_ (fun K hK => ?_)); rfl; refine owp_alloc (o := ⟨some 5, _, _, _, _, _⟩) rfl st ?_; apply Exists.intro; apply Exists.intro; refine ⟨?_, ?_⟩; (focus (first | (go_simp; done) | (go_simp; rfl))); (clear st; intro b5 w hb st; clear hb))
                | ((with_reducible refine wl_store ?_ (fun K hK => ?_)); rfl; refine owp_store rfl st ?_; apply Exists.intro; apply Exists.intro; refine ⟨?_, ?_, ?_⟩; (focus (go_simp; try rfl)); (focus (go_simp; try rfl)); (with_reducible refine ⟨1, _, _, _, _, get1, rfl, rfl, ?_, ?_, ?_, ?_⟩); (kernel_rfl); (simp [Value.cells]); (rfl); (clear st; intro w st))); (try simp only [Value.cells, List.cons_append, List.nil_append, List.set, spl, putIt, pick, List.map_cons, List.map_nil, List.getElem?_cons_zero, List.getElem?_cons_succ, Option.getD_some, List.drop_succ_cons, List.drop_zero, List.drop_nil, List.append_nil, unB] at st); (try clear hc); have hc := st.facts; (try simp only [factsOf, blkI, blkFacts, rowI, byI, datI, nullI, oldI, penI, rdI, rdAnyI, rdOverI, Nat.zero_add, Nat.reduceAdd, and_true, true_and, and_self] at hc))
          refine (HCR.out _).mono ?_
          rintro en w ⟨rfl, hx⟩
          replace st := st.ext hx
          clear hx
          (try clear hc); have hc := st.facts; (try simp only [factsOf, blkI, blkFacts, rowI, byI, datI, nullI, oldI, penI, rdI, rdAnyI, rdOverI, Nat.zero_add, Nat.reduceAdd, and_true, true_and, and_self] at hc)
          go_wp2_with fail
          go_ret
          exact ⟨by rw [HF.out]; rfl, st.ext0⟩
        | true =>
          cases hnr : nameR fw with
          | false =>
            have HF : Hid (r = []) := Lib.hid (by rw [HR.out]; exact chainBy_no HX.out.2 (by unfold stepR; simp only; rw [HCI.out, hre, hnr]; rfl))
            rw [hnr] at HNR
            clear hnr
            go_wp2_with ((first
                  | ((with_reducible refine wl_alloc ?_ (fun K hK => ?_)); rfl; refine owp_alloc (o := ⟨some 5, _, _, _, _, _⟩) rfl st ?_; apply Exists.intro; apply Exists.intro; refine ⟨?_, ?_⟩; (focus (first | (go_simp; done) | (go_simp; rfl))); (clear st; intro b5 w hb st; clear hb))
                  | ((with_reducible refine wl_store ?_ (fun K hK => ?_)); rfl; refine owp_store rfl st ?_; apply Exists.intro; apply Exists.intro; refine ⟨?_, ?_, ?_⟩; (focus (go_simp; try rfl)); (focus (go_simp; try rfl)); (with_reducible refine ⟨1, _, _, _, _, get1, rfl, rfl, ?_, ?_, ?_, ?_⟩); (kernel_rfl); (simp [Value.cells]); (rfl); (clear st; intro w st))); (try simp only [Value.cells, List.cons_append, List.nil_append, List.set, spl, putIt, pick, List.map_cons, List.map_nil, List.getElem?_cons_zero, List.getElem?_cons_succ, Option.getD_some, List.drop_succ_cons, List.drop_zero, List.drop_nil, List.append_nil, unB] at st); (try clear hc); have hc := st.facts; (try simp only [factsOf, blkI, blkFacts, rowI, byI, datI, nullI, oldI, penI, rdI, rdAnyI, rdOverI, Nat.zero_add, Nat.reduceAdd, and_true, true_and, and_self] at hc))
            refine (HCR.out _).mono ?_
            rintro en w ⟨rfl, hx⟩
            replace st := st.ext hx
            clear hx
            (try clear hc); have hc := st.facts; (try simp only [factsOf, blkI, blkFacts, rowI, byI, datI, nullI, oldI, penI, rdI, rdAnyI, rdOverI, Nat.zero_add, Nat.reduceAdd, and_true, true_and, and_self] at hc)
            go_wp2_with fail
            refine (HNR.out _).mono ?_
            rintro en w ⟨rfl, hx⟩
            replace st := st.ext hx
            clear hx
            (try clear hc); have hc := st.facts; (try simp only [factsOf, blkI, blkFacts, rowI, byI, datI, nullI, oldI, penI, rdI, rdAnyI, rdOverI, Nat.zero_add, Nat.reduceAdd, and_true, true_and, and_self] at hc)
            go_wp2_with fail
            go_ret
            exact ⟨by rw [HF.out]; rfl, st.ext0⟩
          | true =>
            rw [hnr] at HNR
            have HSR : Hid (∀ x ∈ l.take (j + 1), stepR x = true) := Lib.hid (fun x hx => by
              rw [HX.out.1] at hx
              rcases List.mem_append.1 hx with q | q
              · exact HY.out.2 x q
              · rw [List.mem_singleton.1 q]; unfold stepR; simp only; rw [HCI.out, hre, hnr]; rfl)
            have hl3 := nameR_len hnr
            have hul := HUL.out HCI.out
            have hb3 : (numB fw.length).length ≤ 10 := numF_len 10 fw.length
            have HTX := Lib.hid (fun W => refText_any fw W (by omega))
            unfold S at HTX
            obtain ⟨t, ht⟩ : ∃ t, numB fw.length ++ fw = t := ⟨_, rfl⟩
            have htl : t.length ≤ 26 := by rw [← ht]; simp; omega
            rw [ht] at HTX HXB
            clear hnr ht
            go_wp2_with ((first
                  | ((with_reducible refine wl_alloc ?_ (fun K hK => ?_)); rfl; refine owp_alloc (o := ⟨some 5, _, _, _, _, _⟩) rfl st ?_; apply Exists.intro; apply Exists.intro; refine ⟨?_, ?_⟩; (focus (first | (go_simp; done) | (go_simp; rfl))); (clear st; intro b5 w hb st; clear hb))
                  | ((with_reducible refine wl_store ?_ (fun K hK => ?_)); rfl; refine owp_store rfl st ?_; apply Exists.intro; apply Exists.intro; refine ⟨?_, ?_, ?_⟩; (focus (go_simp; try rfl)); (focus (go_simp; try rfl)); (with_reducible refine ⟨1, _, _, _, _, get1, rfl, rfl, ?_, ?_, ?_, ?_⟩); (kernel_rfl); (simp [Value.cells]); (rfl); (clear st; intro w st))); (try simp only [Value.cells, List.cons_append, List.nil_append, List.set, spl, putIt, pick, List.map_cons, List.map_nil, List.getElem?_cons_zero, List.getElem?_cons_succ, Option.getD_some, List.drop_succ_cons, List.drop_zero, List.drop_nil, List.append_nil, unB] at st); (try clear hc); have hc := st.facts; (try simp only [factsOf, blkI, blkFacts, rowI, byI, datI, nullI, oldI, penI, rdI, rdAnyI, rdOverI, Nat.zero_add, Nat.reduceAdd, and_true, true_and, and_self] at hc))
            refine (HCR.out _).mono ?_
            rintro en w ⟨rfl, hx⟩
            replace st := st.ext hx
            clear hx
            (try clear hc); have hc := st.facts; (try simp only [factsOf, blkI, blkFacts, rowI, byI, datI, nullI, oldI, penI, rdI, rdAnyI, rdOverI, Nat.zero_add, Nat.reduceAdd, and_true, true_and, and_self] at hc)
            go_wp2_with fail
            refine (HNR.out _).mono ?_
            rintro en w ⟨rfl, hx⟩
            replace st := st.ext hx
            clear hx
            (try clear hc); have hc := st.facts; (try simp only [factsOf, blkI, blkFacts, rowI, byI, datI, nullI, oldI, penI, rdI, rdAnyI, rdOverI, Nat.zero_add, Nat.reduceAdd, and_true, true_and, and_self] at hc)
            go_wp2_with fail
            have hml : ys.length ≤ 10 + 400 * j := by have := HM.out; omega
            refine Rg4.wp_region4 (Rel := Ext) #[0, 0, 2, 6, 0, 16, 48, 126, 254, 511, 1023]
              [(3, .val (.string ⟨u.toArray⟩)), (7, .val (.string ⟨t.toArray⟩))] [] [2, 6] (fun _ => True) [0, 1, 2, 3, 4, 5, 6, 7, 8, 9, 10] (by kernel_rfl) (by kernel_rfl) (by kernel_rfl) (by kernel_rfl) Ext.refl (fun _ _ _ => Ext.trans) (show Rg4.PB _ by repeat (first | with_reducible exact Rg4.pb_body | with_reducible exact Rg4.pb_bodyD rfl | with_reducible refine Rg4.pb_then ?_ | with_reducible refine Rg4.pb_inBlock ?_ | with_reducible refine Rg4.pb_noGoto ?_)) (trivial) ?_
            replace st := st.drew
            change Rg4.wp4 _ _ _ _ _ _ _ _ _ (World.drew _) _ _
            generalize World.drew _ = w at st ⊢
            (try clear hc); have hc := st.facts; (try simp only [factsOf, blkI, blkFacts, rowI, byI, datI, nullI, oldI, penI, rdI, rdAnyI, rdOverI, Nat.zero_add, Nat.reduceAdd, and_true, true_and, and_self] at hc)
            (refine Rg4.w4_any (Rg4.want_none rfl) rfl ?_; apply Exists.intro; refine ⟨fun w' => ?_, ?_⟩; (focus (first | (go_simp; done) | (go_simp; first | rfl | (rw [if_neg] <;> first | rfl | omega) | (rw [if_pos] <;> first | rfl | omega)))); (try simp only [Act.put, List.setIfInBounds_toArray, List.set]))
            (refine Rg4.w4_any (Rg4.want_none rfl) rfl ?_; apply Exists.intro; refine ⟨fun w' => ?_, ?_⟩; (focus (first | (go_simp; done) | (go_simp; first | rfl | (rw [if_neg] <;> first | rfl | omega) | (rw [if_pos] <;> first | rfl | omega)))); (try simp only [Act.put, List.setIfInBounds_toArray, List.set]))
            (refine Rg4.w4_read (Rg4.want_none rfl) rfl rfl ?_; apply Exists.intro; refine ⟨fun w' hw' hcl' => ?_, ?_⟩; focus (have st' := st.ext hw'; have hc' := st'.facts; (try simp only [factsOf, blkI, blkFacts, rowI, byI, datI, nullI, oldI, penI, rdI, rdAnyI, rdOverI, Nat.zero_add, Nat.reduceAdd, and_true, true_and, and_self] at hc'); (focus (first | (go_simp; done) | (go_simp; first | rfl | (rw [if_neg] <;> first | rfl | omega) | (rw [if_pos] <;> first | rfl | omega))))); (try simp only [Act.put, List.setIfInBounds_toArray, List.set]))
            refine Rg4.w4_some (Rg4.want_none rfl) rfl (fun w' hw' hcl' _ => ?_) ?_
            · refine Rg.relAt_call (by go_simp; exact ⟨rfl, rfl⟩) ?_
              refine (HCB.out _ HCI.out).mono ?_
              rintro en w'' ⟨rfl, hx⟩
              exact ⟨_, rfl, hx, trivial, rfl⟩
            rintro v ⟨_, _, _, rfl⟩
            (try simp only [Act.put, List.setIfInBounds_toArray, List.set])
            (refine Rg4.w4_any (Rg4.want_none rfl) rfl ?_; apply Exists.intro; refine ⟨fun w' => ?_, ?_⟩; (focus (first | (go_simp; done) | (go_simp; first | rfl | (rw [if_neg] <;> first | rfl | omega) | (rw [if_pos] <;> first | rfl | omega)))); (try simp only [Act.put, List.setIfInBounds_toArray, List.set]))
            (refine Rg4.w4_any (Rg4.want_none rfl) rfl ?_; apply Exists.intro; refine ⟨fun w' => ?_, ?_⟩; (focus (first | (go_simp; done) | (go_simp; first | rfl | (rw [if_neg] <;> first | rfl | omega) | (rw [if_pos] <;> first | rfl | omega)))); (try simp only [Act.put, List.setIfInBounds_toArray, List.set]))
            (refine Rg4.w4_read (Rg4.want_none rfl) rfl rfl ?_; apply Exists.intro; refine ⟨fun w' hw' hcl' => ?_, ?_⟩; focus (have st' := st.ext hw'; have hc' := st'.facts; (try simp only [factsOf, blkI, blkFacts, rowI, byI, datI, nullI, oldI, penI, rdI, rdAnyI, rdOverI, Nat.zero_add, Nat.reduceAdd, and_true, true_and, and_self] at hc'); (focus (first | (go_simp; done) | (go_simp; first | rfl | (rw [if_neg] <;> first | rfl | omega) | (rw [if_pos] <;> first | rfl | omega))))); (try simp only [Act.put, List.setIfInBounds_toArray, List.set]))
            refine Rg4.w4_some (Rg4.want_none rfl) rfl (fun w' hw' hcl' _ => ?_) ?_
            · refine Rg.relAt_call (by go_simp; exact ⟨rfl, rfl⟩) ?_
              refine (HTX.out _).mono ?_
              rintro en w'' ⟨rfl, hx⟩
              exact ⟨_, rfl, hx, trivial, rfl⟩
            rintro v ⟨_, _, _, rfl⟩
            (try simp only [Act.put, List.setIfInBounds_toArray, List.set])
            (refine Rg4.w4_any (Rg4.want_none rfl) rfl ?_; apply Exists.intro; refine ⟨fun w' => ?_, ?_⟩; (focus (first | (go_simp; done) | (go_simp; first | rfl | (rw [if_neg] <;> first | rfl | omega) | (rw [if_pos] <;> first | rfl | omega)))); (try simp only [Act.put, List.setIfInBounds_toArray, List.set]))
            (refine Rg4.w4_any (Rg4.want_none rfl) rfl ?_; apply Exists.intro; refine ⟨fun w' => ?_, ?_⟩; (focus (first | (go_simp; done) | (go_simp; first | rfl | (rw [if_neg] <;> first | rfl | omega) | (rw [if_pos] <;> first | rfl | omega)))); (try simp only [Act.put, List.setIfInBounds_toArray, List.set]))
            (refine Rg4.w4_any (Rg4.want_none rfl) rfl ?_; apply Exists.intro; refine ⟨fun w' => ?_, ?_⟩; (focus (first | (go_simp; done) | (go_simp; first | rfl | (rw [if_neg] <;> first | rfl | omega) | (rw [if_pos] <;> first | rfl | omega)))); (try simp only [Act.put, List.setIfInBounds_toArray, List.set]))
            refine Rg4.w4_nil (fun w' hw' hcl' _ => ?_); replace st := st.ext hw'; clear hw' hcl'; (try clear hc); have hc := st.facts; (try simp only [factsOf, blkI, blkFacts, rowI, byI, datI, nullI, oldI, penI, rdI, rdAnyI, rdOverI, Nat.zero_add, Nat.reduceAdd, and_true, true_and, and_self] at hc)
            go_wp2_with fail
            have st' := st.keep [0] (by decide) (by simp)
            go_roundg (n - (j + 1))
            case measure => omega
            case rel => exact ⟨j + 1, _, ys ++ (u ++ t), by omega, by omega, by go_num, by simp, Lib.hid ⟨by rw [HX.out.1, List.flatMap_append, ← List.append_assoc (numB n), ← HY.out.1]; simp [HXB.out], HSR.out⟩, Lib.hid rfl, by simp; omega, by simpa [pick] using st'⟩
    · obtain rfl : j = n := by omega
      have HF : Hid (r = ys) := Lib.hid (by
        have e : l.take j = l := List.take_of_length_le (by have := HNL.out; omega)
        have q := HY.out
        rw [e] at q
        rw [HR.out, q.1, HNL.out]
        unfold chainBy chainOk chainB
        rw [if_pos]
        rw [Bool.and_eq_true, decide_eq_true_eq, List.all_eq_true]
        exact ⟨by have := HNL.out; omega, q.2⟩)
      go_wp2_with fail
      go_ret
      exact ⟨by rw [HF.out]; rfl, st.ext0⟩
set_option maxRecDepth 100000 in
set_option maxHeartbeats 1000000 in
theorem refSame_any (a : Option Addr) (n c : Nat) (l : List StepT) (a' : Option Addr) (n' c' : Nat) (l' : List StepT) (W : World) (h : Fl W a n l) (h' : Fl W a' n' l') (hn : n ≤ 1000000) (hn' : n' ≤ 1000000) (hs : l = l') :
    Calls Try.prog 50 #[.slice a n c, .slice a' n' c'] W fun e w' => e = .returned (.bool true) ∧ Ext W w' := by
  subst hs
  obtain rfl : n = n' := h.1.trans h'.1.symm
  have H := Lib.hid h
  have H' := Lib.hid h'
  have HNL := Lib.hid h.1
  clear h h'
  have st := Own.startOld W
  (try simp only [Value.cells, List.cons_append, List.nil_append, List.set, spl, putIt, pick, List.map_cons, List.map_nil, List.getElem?_cons_zero, List.getElem?_cons_succ, Option.getD_some, List.drop_succ_cons, List.drop_zero, List.drop_nil, List.append_nil, unB] at st)
  (try clear hc); have hc := st.facts; (try simp only [factsOf, blkI, blkFacts, rowI, byI, datI, nullI, oldI, penI, rdI, rdAnyI, rdOverI, Nat.zero_add, Nat.reduceAdd, and_true, true_and, and_self] at hc)
  go_enter Try.func50, Try.ntmps50
  go_wp2_with fail
  go_loopg [13] n (fun k i wr => ∃ (j : Nat), j ≤ n ∧ k = n - j ∧ i = .int .i64 (j : Int) ∧ Own (fun _ => False) (fun _ => True) W [oldI W] wr)
  case atStart => exact ⟨0, by omega, by omega, rfl, st⟩
  case round =>
    obtain ⟨j, hj, rfl, rfl, st'⟩ := hrel
    clear st hc
    have st := st'
    clear st'
    (try simp only [Value.cells, List.cons_append, List.nil_append, List.set, spl, putIt, pick, List.map_cons, List.map_nil, List.getElem?_cons_zero, List.getElem?_cons_succ, Option.getD_some, List.drop_succ_cons, List.drop_zero, List.drop_nil, List.append_nil, unB] at st)
    (try clear hc); have hc := st.facts; (try simp only [factsOf, blkI, blkFacts, rowI, byI, datI, nullI, oldI, penI, rdI, rdAnyI, rdOverI, Nat.zero_add, Nat.reduceAdd, and_true, true_and, and_self] at hc)
    by_cases hjn : j < n
    · obtain ⟨b, off, ha, hcell⟩ := H.out.step (by omega)
      obtain ⟨b', off', ha', hcell'⟩ := H'.out.step (by omega)
      have hjl : j < l.length := by have := HNL.out; omega
      have HC := Lib.hid (And.intro (hcell j l[j] (List.getElem?_eq_getElem hjl)) (hcell' j l[j] (List.getElem?_eq_getElem hjl)))
      clear hcell hcell'
      generalize l[j] = x at *
      obtain ⟨⟨ck, ⟨ho, hd⟩, cw, ⟨bo, bd⟩, ⟨co, cd⟩, we⟩, ⟨⟨ro, rd⟩, fw⟩⟩ := x
      subst ha ha'
      simp only at HC
      unfold S at HC
      go_wp2_with fail
      refine Rg4.wp_region4_eq #[0, 0, 3, 7, 0, 0, 48, 112, 255] [] [3, 7] (fun _ => True) [0, 1, 2, 3, 4, 5, 6, 7, 8] (by kernel_rfl) (by kernel_rfl) (by kernel_rfl) (by kernel_rfl) (show Rg4.PB _ by repeat (first | with_reducible exact Rg4.pb_body | with_reducible exact Rg4.pb_bodyD rfl | with_reducible refine Rg4.pb_then ?_ | with_reducible refine Rg4.pb_inBlock ?_ | with_reducible refine Rg4.pb_noGoto ?_)) (trivial) ?_
      replace st := st.drew
      change Rg4.wp4 _ _ _ _ _ _ _ _ _ (World.drew _) _ _
      generalize World.drew _ = w at st ⊢
      (try clear hc); have hc := st.facts; (try simp only [factsOf, blkI, blkFacts, rowI, byI, datI, nullI, oldI, penI, rdI, rdAnyI, rdOverI, Nat.zero_add, Nat.reduceAdd, and_true, true_and, and_self] at hc)
      (refine Rg4.w4_any (Rg4.want_none rfl) rfl ?_; apply Exists.intro; refine ⟨fun w' => ?_, ?_⟩; (focus (first | (go_simp; done) | (go_simp; first | rfl | (rw [if_neg] <;> first | rfl | omega) | (rw [if_pos] <;> first | rfl | omega)))); (try simp only [Act.put, List.setIfInBounds_toArray, List.set]))
      (refine Rg4.w4_any (Rg4.want_none rfl) rfl ?_; apply Exists.intro; refine ⟨fun w' => ?_, ?_⟩; (focus (first | (go_simp; done) | (go_simp; first | rfl | (rw [if_neg] <;> first | rfl | omega) | (rw [if_pos] <;> first | rfl | omega)))); (try simp only [Act.put, List.setIfInBounds_toArray, List.set]))
      (refine Rg4.w4_any (Rg4.want_none rfl) rfl ?_; apply Exists.intro; refine ⟨fun w' => ?_, ?_⟩; (focus (first | (go_simp; done) | (go_simp; first | rfl | (rw [if_neg] <;> first | rfl | omega) | (rw [if_pos] <;> first | rfl | omega)))); (try simp only [Act.put, List.setIfInBounds_toArray, List.set]))
      (refine Rg4.w4_read (Rg4.want_none rfl) rfl rfl ?_; apply Exists.intro; refine ⟨fun w' hw' hcl' => ?_, ?_⟩; focus (subst hw'; obtain ⟨⟨r0, r1, r2, r3, r4, r5, r6, r7, r8, r9, r10, r11⟩, p0, p1, p2, p3, p4, p5, p6, p7, p8, p9, p10, p11⟩ := HC.out; replace r0 := st.oldCell (i := 0) get0 r0; replace r1 := st.oldCell (i := 0) get0 r1; replace r2 := st.oldCell (i := 0) get0 r2; replace r3 := st.oldCell (i := 0) get0 r3; replace r4 := st.oldCell (i := 0) get0 r4; replace r5 := st.oldCell (i := 0) get0 r5; replace r6 := st.oldCell (i := 0) get0 r6; replace r7 := st.oldCell (i := 0) get0 r7; replace r8 := st.oldCell (i := 0) get0 r8; replace r9 := st.oldCell (i := 0) get0 r9; replace r10 := st.oldCell (i := 0) get0 r10; replace r11 := st.oldCell (i := 0) get0 r11; replace p0 := st.oldCell (i := 0) get0 p0; replace p1 := st.oldCell (i := 0) get0 p1; replace p2 := st.oldCell (i := 0) get0 p2; replace p3 := st.oldCell (i := 0) get0 p3; replace p4 := st.oldCell (i := 0) get0 p4; replace p5 := st.oldCell (i := 0) get0 p5; replace p6 := st.oldCell (i := 0) get0 p6; replace p7 := st.oldCell (i := 0) get0 p7; replace p8 := st.oldCell (i := 0) get0 p8; replace p9 := st.oldCell (i := 0) get0 p9; replace p10 := st.oldCell (i := 0) get0 p10; replace p11 := st.oldCell (i := 0) get0 p11; (focus (first | (go_simp; done) | (go_simp; first | rfl | (rw [if_neg] <;> first | rfl | omega) | (rw [if_pos] <;> first | rfl | omega))))); (try simp only [Act.put, List.setIfInBounds_toArray, List.set]))
      (refine Rg4.w4_any (Rg4.want_none rfl) rfl ?_; apply Exists.intro; refine ⟨fun w' => ?_, ?_⟩; (focus (first | (go_simp; done) | (go_simp; first | rfl | (rw [if_neg] <;> first | rfl | omega) | (rw [if_pos] <;> first | rfl | omega)))); (try simp only [Act.put, List.setIfInBounds_toArray, List.set]))
      (refine Rg4.w4_any (Rg4.want_none rfl) rfl ?_; apply Exists.intro; refine ⟨fun w' => ?_, ?_⟩; (focus (first | (go_simp; done) | (go_simp; first | rfl | (rw [if_neg] <;> first | rfl | omega) | (rw [if_pos] <;> first | rfl | omega)))); (try simp only [Act.put, List.setIfInBounds_toArray, List.set]))
      (refine Rg4.w4_any (Rg4.want_none rfl) rfl ?_; apply Exists.intro; refine ⟨fun w' => ?_, ?_⟩; (focus (first | (go_simp; done) | (go_simp; first | rfl | (rw [if_neg] <;> first | rfl | omega) | (rw [if_pos] <;> first | rfl | omega)))); (try simp only [Act.put, List.setIfInBounds_toArray, List.set]))
      (refine Rg4.w4_read (Rg4.want_none rfl) rfl rfl ?_; apply Exists.intro; refine ⟨fun w' hw' hcl' => ?_, ?_⟩; focus (subst hw'; obtain ⟨⟨r0, r1, r2, r3, r4, r5, r6, r7, r8, r9, r10, r11⟩, p0, p1, p2, p3, p4, p5, p6, p7, p8, p9, p10, p11⟩ := HC.out; replace r0 := st.oldCell (i := 0) get0 r0; replace r1 := st.oldCell (i := 0) get0 r1; replace r2 := st.oldCell (i := 0) get0 r2; replace r3 := st.oldCell (i := 0) get0 r3; replace r4 := st.oldCell (i := 0) get0 r4; replace r5 := st.oldCell (i := 0) get0 r5; replace r6 := st.oldCell (i := 0) get0 r6; replace r7 := st.oldCell (i := 0) get0 r7; replace r8 := st.oldCell (i := 0) get0 r8; replace r9 := st.oldCell (i := 0) get0 r9; replace r10 := st.oldCell (i := 0) get0 r10; replace r11 := st.oldCell (i := 0) get0 r11; replace p0 := st.oldCell (i := 0) get0 p0; replace p1 := st.oldCell (i := 0) get0 p1; replace p2 := st.oldCell (i := 0) get0 p2; replace p3 := st.oldCell (i := 0) get0 p3; replace p4 := st.oldCell (i := 0) get0 p4; replace p5 := st.oldCell (i := 0) get0 p5; replace p6 := st.oldCell (i := 0) get0 p6; replace p7 := st.oldCell (i := 0) get0 p7; replace p8 := st.oldCell (i := 0) get0 p8; replace p9 := st.oldCell (i := 0) get0 p9; replace p10 := st.oldCell (i := 0) get0 p10; replace p11 := st.oldCell (i := 0) get0 p11; (focus (first | (go_simp; done) | (go_simp; first | rfl | (rw [if_neg] <;> first | rfl | omega) | (rw [if_pos] <;> first | rfl | omega))))); (try simp only [Act.put, List.setIfInBounds_toArray, List.set]))
      (refine Rg4.w4_any (Rg4.want_none rfl) rfl ?_; apply Exists.intro; refine ⟨fun w' => ?_, ?_⟩; (focus (first | (go_simp; done) | (go_simp; first | rfl | (rw [if_neg] <;> first | rfl | omega) | (rw [if_pos] <;> first | rfl | omega)))); (try simp only [Act.put, List.setIfInBounds_toArray, List.set]))
      refine Rg4.w4_nil (fun w' hw' hcl' _ => ?_); subst hw'; clear hcl'
      go_wp2_with fail
      go_roundg (n - (j + 1))
      case measure => omega
      case rel => exact ⟨j + 1, by omega, by omega, by go_num, st⟩
    · obtain rfl : j = n := by omega
      go_wp2_with fail
      go_ret
      exact ⟨rfl, st.ext0⟩
end Go.Proofs.Ytekngjkjgmplpaa

namespace Go.Proofs.Ytekngjkjgmplpaa
set_option linter.unusedSimpArgs false
set_option linter.unusedVariables false
open Go Go.RowKit
def badAt (l : List StepT) (cs : List CredT) (j : Nat) : Bool := match l[j]? with | some x => !(decide (x.c ∈ cs) && folAt l j) | none => false
def placeB (l : List StepT) (cs : List CredT) : Nat := chainFrom (badAt l cs) 0 l.length
/-- What Check answers. -/
def checkV (l : List StepT) (cs : List CredT) (want : FactT) : Value := .tuple #[.int .i64 (placeB l cs : Nat), .int .i64 (if placeB l cs < l.length then 50 else if want ∈ l.map StepT.f then 0 else 42)]
set_option maxRecDepth 100000 in
set_option maxHeartbeats 1000000 in
theorem chkCredHas_any (a : Option Addr) (n c : Nat) (l : List CredT) (y : CredT) (W : World) (h : Fl W a n l) (hn : n ≤ 2000000) :
    Calls Try.prog 102 #[.slice a n c, cV y] W fun e w' => e = .returned (.bool (decide (y ∈ l))) ∧ Ext W w' := by
  have H := Lib.hid h
  clear h
  have HI := Lib.hid (fun W h => credContains_any a n c l y W h hn)
  obtain ⟨kk, ⟨ho, hd⟩, nw, ⟨bo, bd⟩, ⟨co, cd⟩, we⟩ := y
  have st := Own.startOld W
  unfold cV S at *
  (try simp only [Value.cells, List.cons_append, List.nil_append, List.set, spl, putIt, pick, List.map_cons, List.map_nil, List.getElem?_cons_zero, List.getElem?_cons_succ, Option.getD_some, List.drop_succ_cons, List.drop_zero, List.drop_nil, List.append_nil, unB] at st)
  (try clear hc); have hc := st.facts; (try simp only [factsOf, blkI, blkFacts, rowI, byI, datI, nullI, oldI, penI, rdI, rdAnyI, rdOverI, Nat.zero_add, Nat.reduceAdd, and_true, true_and, and_self] at hc)
  go_enter Try.func102, Try.ntmps102
  go_wp2_with ((((with_reducible refine wl_box ?_ (fun K hK => ?_)); rfl; refine owp_box (o := ⟨some 3, _, _, _, _, _⟩) rfl st ?_; apply Exists.intro; refine ⟨?_, ?_⟩; (focus (go_simp; try rfl)); (clear st; intro b3 w hb st; clear hb))); (try simp only [Value.cells, List.cons_append, List.nil_append, List.set, spl, putIt, pick, List.map_cons, List.map_nil, List.getElem?_cons_zero, List.getElem?_cons_succ, Option.getD_some, List.drop_succ_cons, List.drop_zero, List.drop_nil, List.append_nil, unB] at st); (try clear hc); have hc := st.facts; (try simp only [factsOf, blkI, blkFacts, rowI, byI, datI, nullI, oldI, penI, rdI, rdAnyI, rdOverI, Nat.zero_add, Nat.reduceAdd, and_true, true_and, and_self] at hc))
  refine (HI.out _ (st.oldFl (i := 0) get0 H.out)).mono ?_
  rintro en w ⟨rfl, hx⟩
  replace st := st.ext hx
  clear hx
  (try clear hc); have hc := st.facts; (try simp only [factsOf, blkI, blkFacts, rowI, byI, datI, nullI, oldI, penI, rdI, rdAnyI, rdOverI, Nat.zero_add, Nat.reduceAdd, and_true, true_and, and_self] at hc)
  go_wp2_with fail
  go_ret
  exact ⟨rfl, st.ext0⟩
set_option maxRecDepth 100000 in
set_option maxHeartbeats 8000000 in
theorem chkCheck_any (a : Option Addr) (n c : Nat) (l : List StepT) (a' : Option Addr) (n' c' : Nat) (cs : List CredT) (want : FactT) (W : World) (h : Fl W a n l) (hn : n ≤ 1000000) (hl : ∀ x ∈ l, CLenS x.c) (h' : Fl W a' n' cs) (hn' : n' ≤ 2000000) :
    Calls Try.prog 39 #[.slice a n c, .slice a' n' c', fV want] W fun e w' => e = .returned (checkV l cs want) ∧ Ext W w' := by
  have H := Lib.hid h
  have H' := Lib.hid h'
  have HNL := Lib.hid h.1
  have HL := Lib.hid hl
  have HWA := Lib.hid (fun fa fc W h => factContainsF fa n fc (l.map StepT.f) want W h (by omega))
  have HR : Hid (checkV l cs want = .tuple #[.int .i64 (placeB l cs : Nat), .int .i64 (if placeB l cs < l.length then 50 else if want ∈ l.map StepT.f then 0 else 42)]) := Lib.hid rfl
  obtain ⟨rv, hr⟩ : ∃ r, checkV l cs want = r := ⟨_, rfl⟩
  rw [hr] at HR ⊢
  obtain ⟨pl, hpl⟩ : ∃ p, placeB l cs = p := ⟨_, rfl⟩
  rw [hpl] at HR
  have HPL : Hid (pl = chainFrom (badAt l cs) 0 n) := Lib.hid (by rw [← hpl, h.1]; rfl)
  obtain ⟨wi, hwi⟩ : ∃ p, decide (want ∈ l.map StepT.f) = p := ⟨_, rfl⟩
  rw [hwi] at HWA
  have HWI := Lib.hid hwi
  clear h hl h' hr hpl hwi
  obtain ⟨⟨qo, qd⟩, qw⟩ := want
  have st := Own.startOld W
  unfold fV at *
  unfold S at *
  (try simp only [Value.cells, List.cons_append, List.nil_append, List.set, spl, putIt, pick, List.map_cons, List.map_nil, List.getElem?_cons_zero, List.getElem?_cons_succ, Option.getD_some, List.drop_succ_cons, List.drop_zero, List.drop_nil, List.append_nil, unB] at st)
  (try clear hc); have hc := st.facts; (try simp only [factsOf, blkI, blkFacts, rowI, byI, datI, nullI, oldI, penI, rdI, rdAnyI, rdOverI, Nat.zero_add, Nat.reduceAdd, and_true, true_and, and_self] at hc)
  go_enter Try.func39, Try.ntmps39
  go_wp2_with ((((with_reducible refine wl_box ?_ (fun K hK => ?_)); rfl; refine owp_box (o := ⟨some 5, _, _, _, _, _⟩) rfl st ?_; apply Exists.intro; refine ⟨?_, ?_⟩; (focus (go_simp; try rfl)); (clear st; intro b5 w hb st; clear hb))); (try simp only [Value.cells, List.cons_append, List.nil_append, List.set, spl, putIt, pick, List.map_cons, List.map_nil, List.getElem?_cons_zero, List.getElem?_cons_succ, Option.getD_some, List.drop_succ_cons, List.drop_zero, List.drop_nil, List.append_nil, unB] at st); (try clear hc); have hc := st.facts; (try simp only [factsOf, blkI, blkFacts, rowI, byI, datI, nullI, oldI, penI, rdI, rdAnyI, rdOverI, Nat.zero_add, Nat.reduceAdd, and_true, true_and, and_self] at hc))
  refine (chkFacts_any a n c l _ (st.oldFl (i := 0) get0 H.out) hn).mono ?_
  rintro en w ⟨fa, fc, rfl, hfr⟩
  replace st := st.fresh hfr
  clear hfr
  have hfc := (rowFl' (α := FactT) st (i := 2) get2).1
  (try simp only [Value.cells, List.cons_append, List.nil_append, List.set, spl, putIt, pick, List.map_cons, List.map_nil, List.getElem?_cons_zero, List.getElem?_cons_succ, Option.getD_some, List.drop_succ_cons, List.drop_zero, List.drop_nil, List.append_nil, unB] at st)
  (try clear hc); have hc := st.facts; (try simp only [factsOf, blkI, blkFacts, rowI, byI, datI, nullI, oldI, penI, rdI, rdAnyI, rdOverI, Nat.zero_add, Nat.reduceAdd, and_true, true_and, and_self] at hc)
  go_wp2_with fail
  go_loopg [15] n (fun kk i wr => ∃ (j : Nat), j ≤ n ∧ kk = n - j ∧ i = .int .i64 (j : Int) ∧ Hid (pl = chainFrom (badAt l cs) j (n - j)) ∧ Own (fun _ => False) (fun _ => True) W [oldI W, blkI b5 [.string ⟨qo.toArray⟩, .string ⟨qd.toArray⟩, .string ⟨qw.toArray⟩], rowI 62 3 (.slice fa n fc) n (cellsL (l.map StepT.f))] wr)
  case atStart => exact ⟨0, by omega, by omega, rfl, Lib.hid (by rw [HPL.out]; rfl), st⟩
  case round =>
    obtain ⟨j, hj, rfl, rfl, HT, st'⟩ := hrel
    clear st hc
    have st := st'
    clear st'
    (try simp only [Value.cells, List.cons_append, List.nil_append, List.set, spl, putIt, pick, List.map_cons, List.map_nil, List.getElem?_cons_zero, List.getElem?_cons_succ, Option.getD_some, List.drop_succ_cons, List.drop_zero, List.drop_nil, List.append_nil, unB] at st)
    (try clear hc); have hc := st.facts; (try simp only [factsOf, blkI, blkFacts, rowI, byI, datI, nullI, oldI, penI, rdI, rdAnyI, rdOverI, Nat.zero_add, Nat.reduceAdd, and_true, true_and, and_self] at hc)
    by_cases hjn : j < n
    · obtain ⟨b, off, ha, hcell⟩ := H.out.step (by omega)
      have hjl : j < l.length := by have := HNL.out; omega
      obtain ⟨r0, r1, r2, r3, r4, r5, r6, r7, r8, r9, r10, r11⟩ := hcell j l[j] (List.getElem?_eq_getElem hjl)
      replace r0 := st.oldCell (i := 0) get0 r0
      replace r1 := st.oldCell (i := 0) get0 r1
      replace r2 := st.oldCell (i := 0) get0 r2
      replace r3 := st.oldCell (i := 0) get0 r3
      replace r4 := st.oldCell (i := 0) get0 r4
      replace r5 := st.oldCell (i := 0) get0 r5
      replace r6 := st.oldCell (i := 0) get0 r6
      replace r7 := st.oldCell (i := 0) get0 r7
      replace r8 := st.oldCell (i := 0) get0 r8
      replace r9 := st.oldCell (i := 0) get0 r9
      replace r10 := st.oldCell (i := 0) get0 r10
      replace r11 := st.oldCell (i := 0) get0 r11
      have HFA : Hid (folAt l j = folB ((l.map StepT.f).take j) l[j]) := Lib.hid (by unfold folAt; rw [List.getElem?_eq_getElem hjl, List.map_take])
      have HBA : Hid (badAt l cs j = !(decide (l[j].c ∈ cs) && folAt l j)) := Lib.hid (by unfold badAt; rw [List.getElem?_eq_getElem hjl])
      have HCL := Lib.hid (HL.out _ (List.getElem_mem hjl))
      clear hcell
      generalize l[j] = x at *
      subst ha
      have HFO := Lib.hid (fun W h => chkFollows_any x fa j fc ((l.map StepT.f).take j) W h (by omega) HCL.out)
      have HCH := Lib.hid (fun W h => chkCredHas_any a' n' c' cs x.c W h hn')
      rw [← HFA.out] at HFO
      obtain ⟨p, hp⟩ : ∃ p, folAt l j = p := ⟨_, rfl⟩
      obtain ⟨p0, hp0⟩ : ∃ p, decide (x.c ∈ cs) = p := ⟨_, rfl⟩
      rw [hp] at HFO HBA
      rw [hp0] at HCH HBA
      have HTS : Hid (pl = if badAt l cs j then j else chainFrom (badAt l cs) (j + 1) (n - (j + 1))) := Lib.hid (by rw [HT.out, chainFrom_step _ _ _ hjn])
      rw [HBA.out] at HTS
      unfold stV at HFO
      unfold cV at HCH
      unfold S at r1 r2 r3 r4 r5 r6 r7 r8 r9 r10 r11 HFO HCH
      clear hp hp0 HFA HBA
      go_wp2_with ((first
            | ((with_reducible refine wl_alloc ?_ (fun K hK => ?_)); rfl; refine owp_alloc (o := ⟨some 10, _, _, _, _, _⟩) rfl st ?_; apply Exists.intro; apply Exists.intro; refine ⟨?_, ?_⟩; (focus (first | (go_simp; done) | (go_simp; rfl))); (clear st; intro b10 w hb st; clear hb))
            | ((with_reducible refine wl_store ?_ (fun K hK => ?_)); rfl; refine owp_store rfl st ?_; apply Exists.intro; apply Exists.intro; refine ⟨?_, ?_, ?_⟩; (focus (go_simp; try rfl)); (focus (go_simp; try rfl)); (with_reducible refine ⟨3, _, _, _, _, get3, rfl, rfl, ?_, ?_, ?_, ?_⟩); (kernel_rfl); (simp [Value.cells]); (rfl); (clear st; intro w st))); (try simp only [Value.cells, List.cons_append, List.nil_append, List.set, spl, putIt, pick, List.map_cons, List.map_nil, List.getElem?_cons_zero, List.getElem?_cons_succ, Option.getD_some, List.drop_succ_cons, List.drop_zero, List.drop_nil, List.append_nil, unB] at st); (try clear hc); have hc := st.facts; (try simp only [factsOf, blkI, blkFacts, rowI, byI, datI, nullI, oldI, penI, rdI, rdAnyI, rdOverI, Nat.zero_add, Nat.reduceAdd, and_true, true_and, and_self] at hc))
      clear r0 r1 r2 r3 r4 r5 r6 r7 r8 r9 r10 r11
      cases p0 with
      | false =>
        have HF : Hid (rv = .tuple #[.int .i64 (j : Int), .int .i64 50]) := Lib.hid (by
          have hp : pl = j := by rw [HTS.out]; simp
          rw [HR.out, hp, if_pos hjl])
        refine Rg4.wp_region4_eq #[0, 0, 2, 7, 15, 31, 63, 63, 63, 447, 1023, 2047, 4095] [3, 10] [2, 6] (fun _ => True) [0, 1, 2, 3, 4, 5, 6, 7, 8, 9, 10, 11, 12] (by kernel_rfl) (by kernel_rfl) (by kernel_rfl) (by kernel_rfl) (show Rg4.PB _ by repeat (first | with_reducible exact Rg4.pb_body | with_reducible exact Rg4.pb_bodyD rfl | with_reducible refine Rg4.pb_then ?_ | with_reducible refine Rg4.pb_inBlock ?_ | with_reducible refine Rg4.pb_noGoto ?_)) (trivial) ?_
        replace st := st.drew
        change Rg4.wp4 _ _ _ _ _ _ _ _ _ (World.drew _) _ _
        generalize World.drew _ = w at st ⊢
        (try clear hc); have hc := st.facts; (try simp only [factsOf, blkI, blkFacts, rowI, byI, datI, nullI, oldI, penI, rdI, rdAnyI, rdOverI, Nat.zero_add, Nat.reduceAdd, and_true, true_and, and_self] at hc)
        (refine Rg4.w4_any (Rg4.want_none rfl) rfl ?_; apply Exists.intro; refine ⟨fun w' => ?_, ?_⟩; (focus (first | (go_simp; done) | (go_simp; first | rfl | (rw [if_neg] <;> first | rfl | omega) | (rw [if_pos] <;> first | rfl | omega)))); (try simp only [Act.put, List.setIfInBounds_toArray, List.set]))
        (refine Rg4.w4_any (Rg4.want_none rfl) rfl ?_; apply Exists.intro; refine ⟨fun w' => ?_, ?_⟩; (focus (first | (go_simp; done) | (go_simp; first | rfl | (rw [if_neg] <;> first | rfl | omega) | (rw [if_pos] <;> first | rfl | omega)))); (try simp only [Act.put, List.setIfInBounds_toArray, List.set]))
        (refine Rg4.w4_read (Rg4.want_none rfl) rfl rfl ?_; apply Exists.intro; refine ⟨fun w' hw' hcl' => ?_, ?_⟩; focus (subst hw'; (focus (first | (go_simp; done) | (go_simp; first | rfl | (rw [if_neg] <;> first | rfl | omega) | (rw [if_pos] <;> first | rfl | omega))))); (try simp only [Act.put, List.setIfInBounds_toArray, List.set]))
        refine Rg4.w4_bar (Rg4.want_none rfl) rfl (fun w' hw' hcl _ K hK => ?_)
        subst hw'
        go_wp2_with fail
        refine (HCH.out _ (st.oldFl (i := 0) get0 H'.out)).mono ?_
        rintro en w ⟨rfl, hx⟩
        replace st := st.ext hx
        clear hx
        (try clear hc); have hc := st.facts; (try simp only [factsOf, blkI, blkFacts, rowI, byI, datI, nullI, oldI, penI, rdI, rdAnyI, rdOverI, Nat.zero_add, Nat.reduceAdd, and_true, true_and, and_self] at hc)
        refine hK _ _ ⟨trivial, ?_⟩
        clear hK
        (try simp only [Act.put, List.setIfInBounds_toArray, List.set])
        (refine Rg4.w4_any (Rg4.want_none rfl) rfl ?_; apply Exists.intro; refine ⟨fun w' => ?_, ?_⟩; (focus (first | (go_simp; done) | (go_simp; first | rfl | (rw [if_neg] <;> first | rfl | omega) | (rw [if_pos] <;> first | rfl | omega)))); (try simp only [Act.put, List.setIfInBounds_toArray, List.set]))
        (refine Rg4.w4_any (Rg4.want_none rfl) rfl ?_; apply Exists.intro; refine ⟨fun w' => ?_, ?_⟩; (focus (first | (go_simp; done) | (go_simp; first | rfl | (rw [if_neg] <;> first | rfl | omega) | (rw [if_pos] <;> first | rfl | omega)))); (try simp only [Act.put, List.setIfInBounds_toArray, List.set]))
        (first | (refine Rg4.w4_read (Rg4.want_of 5 25 false rfl rfl rfl) rfl rfl ?_; apply Exists.intro; refine ⟨fun w' hw' hcl' => ?_, ?_⟩; focus (subst hw'; (focus (first | (go_simp; done) | (go_simp; first | rfl | (rw [if_neg] <;> first | rfl | omega) | (rw [if_pos] <;> first | rfl | omega))))); (try simp only [Act.put, List.setIfInBounds_toArray, List.set])) | (refine Rg4.w4_skip (Rg4.unwant_of 5 25 false rfl rfl rfl) ?_; (try simp only [Act.put, List.setIfInBounds_toArray, List.set])) | (refine Rg4.w4_skip (Rg4.unwant_nil 5 25 false rfl rfl rfl) ?_; (try simp only [Act.put, List.setIfInBounds_toArray, List.set])))
        (first | (refine Rg4.w4_any (Rg4.want_of 5 25 false rfl rfl rfl) rfl ?_; apply Exists.intro; refine ⟨fun w' => ?_, ?_⟩; (focus (first | (go_simp; done) | (go_simp; first | rfl | (rw [if_neg] <;> first | rfl | omega) | (rw [if_pos] <;> first | rfl | omega)))); (try simp only [Act.put, List.setIfInBounds_toArray, List.set])) | (refine Rg4.w4_skip (Rg4.unwant_of 5 25 false rfl rfl rfl) ?_; (try simp only [Act.put, List.setIfInBounds_toArray, List.set])) | (refine Rg4.w4_skip (Rg4.unwant_nil 5 25 false rfl rfl rfl) ?_; (try simp only [Act.put, List.setIfInBounds_toArray, List.set])))
        (first | (refine Rg4.w4_any (Rg4.want_of 5 25 false rfl rfl rfl) rfl ?_; apply Exists.intro; refine ⟨fun w' => ?_, ?_⟩; (focus (first | (go_simp; done) | (go_simp; first | rfl | (rw [if_neg] <;> first | rfl | omega) | (rw [if_pos] <;> first | rfl | omega)))); (try simp only [Act.put, List.setIfInBounds_toArray, List.set])) | (refine Rg4.w4_skip (Rg4.unwant_of 5 25 false rfl rfl rfl) ?_; (try simp only [Act.put, List.setIfInBounds_toArray, List.set])) | (refine Rg4.w4_skip (Rg4.unwant_nil 5 25 false rfl rfl rfl) ?_; (try simp only [Act.put, List.setIfInBounds_toArray, List.set])))
        (first | (refine Rg4.w4_any (Rg4.want_of 5 25 false rfl rfl rfl) rfl ?_; apply Exists.intro; refine ⟨fun w' => ?_, ?_⟩; (focus (first | (go_simp; done) | (go_simp; first | rfl | (rw [if_neg] <;> first | rfl | omega) | (rw [if_pos] <;> first | rfl | omega)))); (try simp only [Act.put, List.setIfInBounds_toArray, List.set])) | (refine Rg4.w4_skip (Rg4.unwant_of 5 25 false rfl rfl rfl) ?_; (try simp only [Act.put, List.setIfInBounds_toArray, List.set])) | (refine Rg4.w4_skip (Rg4.unwant_nil 5 25 false rfl rfl rfl) ?_; (try simp only [Act.put, List.setIfInBounds_toArray, List.set])))
        first | refine Rg4.w4_skip (Rg4.unwant_of 5 25 false rfl rfl rfl) ?_ | refine Rg4.w4_skip (Rg4.unwant_nil 5 25 false rfl rfl rfl) ?_
        (try simp only [Act.put, List.setIfInBounds_toArray, List.set])
        (first | (refine Rg4.w4_any (Rg4.want_of 5 25 false rfl rfl rfl) rfl ?_; apply Exists.intro; refine ⟨fun w' => ?_, ?_⟩; (focus (first | (go_simp; done) | (go_simp; first | rfl | (rw [if_neg] <;> first | rfl | omega) | (rw [if_pos] <;> first | rfl | omega)))); (try simp only [Act.put, List.setIfInBounds_toArray, List.set])) | (refine Rg4.w4_skip (Rg4.unwant_of 5 25 false rfl rfl rfl) ?_; (try simp only [Act.put, List.setIfInBounds_toArray, List.set])) | (refine Rg4.w4_skip (Rg4.unwant_nil 5 25 false rfl rfl rfl) ?_; (try simp only [Act.put, List.setIfInBounds_toArray, List.set])))
        (refine Rg4.w4_any (Rg4.want_none rfl) rfl ?_; apply Exists.intro; refine ⟨fun w' => ?_, ?_⟩; (focus (first | (go_simp; done) | (go_simp; first | rfl | (rw [if_neg] <;> first | rfl | omega) | (rw [if_pos] <;> first | rfl | omega)))); (try simp only [Act.put, List.setIfInBounds_toArray, List.set]))
        refine Rg4.w4_nil (fun w' hw' hcl' _ => ?_); subst hw'; clear hcl'
        go_wp2_with fail
        go_ret2
        exact ⟨by rw [HF.out]; rfl, st.ext0⟩
      | true =>
        refine Rg4.wp_region4_eq #[0, 0, 2, 7, 15, 31, 63, 63, 63, 447, 1023, 2047, 4095] [3, 10] [2, 6] (fun _ => True) [0, 1, 2, 3, 4, 5, 6, 7, 8, 9, 10, 11, 12] (by kernel_rfl) (by kernel_rfl) (by kernel_rfl) (by kernel_rfl) (show Rg4.PB _ by repeat (first | with_reducible exact Rg4.pb_body | with_reducible exact Rg4.pb_bodyD rfl | with_reducible refine Rg4.pb_then ?_ | with_reducible refine Rg4.pb_inBlock ?_ | with_reducible refine Rg4.pb_noGoto ?_)) (trivial) ?_
        replace st := st.drew
        change Rg4.wp4 _ _ _ _ _ _ _ _ _ (World.drew _) _ _
        generalize World.drew _ = w at st ⊢
        (try clear hc); have hc := st.facts; (try simp only [factsOf, blkI, blkFacts, rowI, byI, datI, nullI, oldI, penI, rdI, rdAnyI, rdOverI, Nat.zero_add, Nat.reduceAdd, and_true, true_and, and_self] at hc)
        (refine Rg4.w4_any (Rg4.want_none rfl) rfl ?_; apply Exists.intro; refine ⟨fun w' => ?_, ?_⟩; (focus (first | (go_simp; done) | (go_simp; first | rfl | (rw [if_neg] <;> first | rfl | omega) | (rw [if_pos] <;> first | rfl | omega)))); (try simp only [Act.put, List.setIfInBounds_toArray, List.set]))
        (refine Rg4.w4_any (Rg4.want_none rfl) rfl ?_; apply Exists.intro; refine ⟨fun w' => ?_, ?_⟩; (focus (first | (go_simp; done) | (go_simp; first | rfl | (rw [if_neg] <;> first | rfl | omega) | (rw [if_pos] <;> first | rfl | omega)))); (try simp only [Act.put, List.setIfInBounds_toArray, List.set]))
        (refine Rg4.w4_read (Rg4.want_none rfl) rfl rfl ?_; apply Exists.intro; refine ⟨fun w' hw' hcl' => ?_, ?_⟩; focus (subst hw'; (focus (first | (go_simp; done) | (go_simp; first | rfl | (rw [if_neg] <;> first | rfl | omega) | (rw [if_pos] <;> first | rfl | omega))))); (try simp only [Act.put, List.setIfInBounds_toArray, List.set]))
        refine Rg4.w4_bar (Rg4.want_none rfl) rfl (fun w' hw' hcl _ K hK => ?_)
        subst hw'
        go_wp2_with fail
        refine (HCH.out _ (st.oldFl (i := 0) get0 H'.out)).mono ?_
        rintro en w ⟨rfl, hx⟩
        replace st := st.ext hx
        clear hx
        (try clear hc); have hc := st.facts; (try simp only [factsOf, blkI, blkFacts, rowI, byI, datI, nullI, oldI, penI, rdI, rdAnyI, rdOverI, Nat.zero_add, Nat.reduceAdd, and_true, true_and, and_self] at hc)
        refine hK _ _ ⟨trivial, ?_⟩
        clear hK
        (try simp only [Act.put, List.setIfInBounds_toArray, List.set])
        (refine Rg4.w4_any (Rg4.want_none rfl) rfl ?_; apply Exists.intro; refine ⟨fun w' => ?_, ?_⟩; (focus (first | (go_simp; done) | (go_simp; first | rfl | (rw [if_neg] <;> first | rfl | omega) | (rw [if_pos] <;> first | rfl | omega)))); (try simp only [Act.put, List.setIfInBounds_toArray, List.set]))
        (refine Rg4.w4_any (Rg4.want_none rfl) rfl ?_; apply Exists.intro; refine ⟨fun w' => ?_, ?_⟩; (focus (first | (go_simp; done) | (go_simp; first | rfl | (rw [if_neg] <;> first | rfl | omega) | (rw [if_pos] <;> first | rfl | omega)))); (try simp only [Act.put, List.setIfInBounds_toArray, List.set]))
        (first | (refine Rg4.w4_read (Rg4.want_of 5 25 false rfl rfl rfl) rfl rfl ?_; apply Exists.intro; refine ⟨fun w' hw' hcl' => ?_, ?_⟩; focus (subst hw'; (focus (first | (go_simp; done) | (go_simp; first | rfl | (rw [if_neg] <;> first | rfl | omega) | (rw [if_pos] <;> first | rfl | omega))))); (try simp only [Act.put, List.setIfInBounds_toArray, List.set])) | (refine Rg4.w4_skip (Rg4.unwant_of 5 25 false rfl rfl rfl) ?_; (try simp only [Act.put, List.setIfInBounds_toArray, List.set])) | (refine Rg4.w4_skip (Rg4.unwant_nil 5 25 false rfl rfl rfl) ?_; (try simp only [Act.put, List.setIfInBounds_toArray, List.set])))
        (first | (refine Rg4.w4_any (Rg4.want_of 5 25 false rfl rfl rfl) rfl ?_; apply Exists.intro; refine ⟨fun w' => ?_, ?_⟩; (focus (first | (go_simp; done) | (go_simp; first | rfl | (rw [if_neg] <;> first | rfl | omega) | (rw [if_pos] <;> first | rfl | omega)))); (try simp only [Act.put, List.setIfInBounds_toArray, List.set])) | (refine Rg4.w4_skip (Rg4.unwant_of 5 25 false rfl rfl rfl) ?_; (try simp only [Act.put, List.setIfInBounds_toArray, List.set])) | (refine Rg4.w4_skip (Rg4.unwant_nil 5 25 false rfl rfl rfl) ?_; (try simp only [Act.put, List.setIfInBounds_toArray, List.set])))
        (first | (refine Rg4.w4_any (Rg4.want_of 5 25 false rfl rfl rfl) rfl ?_; apply Exists.intro; refine ⟨fun w' => ?_, ?_⟩; (focus (first | (go_simp; done) | (go_simp; first | rfl | (rw [if_neg] <;> first | rfl | omega) | (rw [if_pos] <;> first | rfl | omega)))); (try simp only [Act.put, List.setIfInBounds_toArray, List.set])) | (refine Rg4.w4_skip (Rg4.unwant_of 5 25 false rfl rfl rfl) ?_; (try simp only [Act.put, List.setIfInBounds_toArray, List.set])) | (refine Rg4.w4_skip (Rg4.unwant_nil 5 25 false rfl rfl rfl) ?_; (try simp only [Act.put, List.setIfInBounds_toArray, List.set])))
        (first | (refine Rg4.w4_any (Rg4.want_of 5 25 false rfl rfl rfl) rfl ?_; apply Exists.intro; refine ⟨fun w' => ?_, ?_⟩; (focus (first | (go_simp; done) | (go_simp; first | rfl | (rw [if_neg] <;> first | rfl | omega) | (rw [if_pos] <;> first | rfl | omega)))); (try simp only [Act.put, List.setIfInBounds_toArray, List.set])) | (refine Rg4.w4_skip (Rg4.unwant_of 5 25 false rfl rfl rfl) ?_; (try simp only [Act.put, List.setIfInBounds_toArray, List.set])) | (refine Rg4.w4_skip (Rg4.unwant_nil 5 25 false rfl rfl rfl) ?_; (try simp only [Act.put, List.setIfInBounds_toArray, List.set])))
        refine Rg4.w4_bar (Rg4.want_of 5 25 false rfl rfl rfl) rfl (fun w' hw' hcl _ K hK => ?_)
        subst hw'
        go_wp2_with fail
        refine (HFO.out _ ((rowFl' (α := FactT) st (i := 2) get2).2.pre j hj)).mono ?_
        rintro en w ⟨rfl, hx⟩
        replace st := st.ext hx
        clear hx
        (try clear hc); have hc := st.facts; (try simp only [factsOf, blkI, blkFacts, rowI, byI, datI, nullI, oldI, penI, rdI, rdAnyI, rdOverI, Nat.zero_add, Nat.reduceAdd, and_true, true_and, and_self] at hc)
        refine hK _ _ ⟨trivial, ?_⟩
        clear hK
        (try simp only [Act.put, List.setIfInBounds_toArray, List.set])
        (first | (refine Rg4.w4_any (Rg4.want_of 5 25 false rfl rfl rfl) rfl ?_; apply Exists.intro; refine ⟨fun w' => ?_, ?_⟩; (focus (first | (go_simp; done) | (go_simp; first | rfl | (rw [if_neg] <;> first | rfl | omega) | (rw [if_pos] <;> first | rfl | omega)))); (try simp only [Act.put, List.setIfInBounds_toArray, List.set])) | (refine Rg4.w4_skip (Rg4.unwant_of 5 25 false rfl rfl rfl) ?_; (try simp only [Act.put, List.setIfInBounds_toArray, List.set])) | (refine Rg4.w4_skip (Rg4.unwant_nil 5 25 false rfl rfl rfl) ?_; (try simp only [Act.put, List.setIfInBounds_toArray, List.set])))
        (refine Rg4.w4_any (Rg4.want_none rfl) rfl ?_; apply Exists.intro; refine ⟨fun w' => ?_, ?_⟩; (focus (first | (go_simp; done) | (go_simp; first | rfl | (rw [if_neg] <;> first | rfl | omega) | (rw [if_pos] <;> first | rfl | omega)))); (try simp only [Act.put, List.setIfInBounds_toArray, List.set]))
        refine Rg4.w4_nil (fun w' hw' hcl' _ => ?_); subst hw'; clear hcl'
        cases p with
        | true =>
          have HF : Hid (pl = chainFrom (badAt l cs) (j + 1) (n - (j + 1))) := Lib.hid (by rw [HTS.out]; simp)
          go_wp2_with fail
          have st' := st.keep [0, 1, 2] (by decide) (by simp)
          go_roundg (n - (j + 1))
          case measure => omega
          case rel => exact ⟨j + 1, by omega, by omega, by go_num, HF, by simpa [pick] using st'⟩
        | false =>
          have HF : Hid (rv = .tuple #[.int .i64 (j : Int), .int .i64 50]) := Lib.hid (by
            have hp : pl = j := by rw [HTS.out]; simp
            rw [HR.out, hp, if_pos hjl])
          go_wp2_with fail
          go_ret2
          exact ⟨by rw [HF.out]; rfl, st.ext0⟩
    · obtain rfl : j = n := by omega
      have HPN : Hid (pl = j) := Lib.hid (by rw [HT.out, Nat.sub_self]; rfl)
      cases wi with
      | true =>
        have HF : Hid (rv = .tuple #[.int .i64 (j : Int), .int .i64 0]) := Lib.hid (by rw [HR.out, HPN.out, if_neg (by have := HNL.out; omega), if_pos (by have := HWI.out; simpa using this)])
        go_wp2_with fail
        refine (HWA.out _ _ _ (rowFl' (α := FactT) st (i := 2) get2).2).mono ?_
        rintro en w ⟨rfl, hx⟩
        replace st := st.ext hx
        clear hx
        (try clear hc); have hc := st.facts; (try simp only [factsOf, blkI, blkFacts, rowI, byI, datI, nullI, oldI, penI, rdI, rdAnyI, rdOverI, Nat.zero_add, Nat.reduceAdd, and_true, true_and, and_self] at hc)
        go_wp2_with fail
        go_ret2
        exact ⟨by rw [HF.out]; rfl, st.ext0⟩
      | false =>
        have HF : Hid (rv = .tuple #[.int .i64 (j : Int), .int .i64 42]) := Lib.hid (by rw [HR.out, HPN.out, if_neg (by have := HNL.out; omega), if_neg (by have := HWI.out; simpa using this)])
        go_wp2_with fail
        refine (HWA.out _ _ _ (rowFl' (α := FactT) st (i := 2) get2).2).mono ?_
        rintro en w ⟨rfl, hx⟩
        replace st := st.ext hx
        clear hx
        (try clear hc); have hc := st.facts; (try simp only [factsOf, blkI, blkFacts, rowI, byI, datI, nullI, oldI, penI, rdI, rdAnyI, rdOverI, Nat.zero_add, Nat.reduceAdd, and_true, true_and, and_self] at hc)
        go_wp2_with fail
        go_ret2
        exact ⟨by rw [HF.out]; rfl, st.ext0⟩
end Go.Proofs.Ytekngjkjgmplpaa

namespace Go.Proofs.Ytekngjkjgmplpaa
set_option linter.unusedSimpArgs false
set_option linter.unusedVariables false
open Go Go.RowKit
/-- One behind another. -/
def bdm {α β : Type} (r : Except Int (α × List UInt8)) (f : α → List UInt8 → Except Int β) : Except Int β := match r with | .error e => .error e | .ok p => f p.1 p.2
theorem bdm_er {α β : Type} (e : Int) (f : α → List UInt8 → Except Int β) : bdm (.error e) f = .error e := rfl
theorem bdm_ok {α β : Type} (x : α) (ys : List UInt8) (f : α → List UInt8 → Except Int β) : bdm (.ok (x, ys)) f = f x ys := rfl
def GetPostM {α : Type} (fr al : Nat → Prop) (w : World) (r b : Nat) (res : Except Int (α × List UInt8)) (z : List Value) (okM : α → List Value → List It → Prop) (en : Ending) (w' : World) : Prop :=
  match res with
  | .error e => en = .panicked [{ v := failV r e, recovered := false }] ∧ Own fr al w [rdAnyI r, blkI b z] w'
  | .ok (s, ys) => en = .returned (.tuple #[]) ∧ ∃ cs M, okM s cs M ∧ Own fr al w (rdI r ys :: blkI b cs :: M) w'
/-- What the block holds behind it, and what more lies there. -/
def GotM {α : Type} (res : Except Int (α × List UInt8)) (z : List Value) (okM : α → List Value → List It → Prop) (cs : List Value) (M : List It) : Prop := match res with
  | .error _ => cs = z ∧ M = []
  | .ok (s, _) => okM s cs M
theorem pick_mid (X M : List It) (a : It) : pick (X ++ [a] ++ M) (X.length :: (List.range X.length ++ (List.range M.length).map (X.length + 1 + ·))) = a :: (X ++ M) := by
  unfold pick
  rw [List.map_cons, List.map_append]
  congr 1
  · simp
  · congr 1
    · apply List.ext_getElem
      · simp
      · intro i h1 h2
        simp [List.getElem?_append_left h2, List.getElem?_eq_getElem h2, List.append_assoc]
    · apply List.ext_getElem
      · simp
      · intro i h1 h2
        simp only [List.map_map, List.getElem_map, List.getElem_range, Function.comp]
        rw [List.getElem?_append_right (by simp)]
        simp only [List.length_append, List.length_singleton]
        rw [show X.length + 1 + i - (X.length + 1) = i by omega, List.getElem?_eq_getElem h2, Option.getD_some]
theorem putIt_twoM (L M : List It) (I A B : It) (i : Nat) (hi : i < L.length) : putIt (L ++ [I]) (A :: B :: M) 0 [L.length, i] = L.set i B ++ [A] ++ M := by
  simp only [putIt, List.getElem?_cons_zero, List.getElem?_cons_succ, Option.getD_some, List.drop_succ_cons, List.drop_zero]
  rw [List.set_append_right _ _ (Nat.le_refl _), Nat.sub_self, List.set_cons_zero, List.set_append_left _ _ hi]
theorem readGetM_c {α : Type} {fr al : Nat → Prop} {w0 w : World} {L : List It} (st : Own fr al w0 L w) (i : Nat) {b : Nat} {z : List Value} (hi : L[i]? = some (blkI b z)) {a : Option Addr} {n c : Nat} {xs : List UInt8} (h : By w a n xs) (hc : n ≤ c ∧ c ≤ maxLen) (hn : n ≤ 100000000000) (F : FuncId)
    (hinv : ∀ w r, (callFunc F (#[.pointer (some ⟨r, 0, none⟩)] ++ #[.pointer (some ⟨b, 0, none⟩)])).run Try.prog w = .ok (.enter F (#[.pointer (some ⟨r, 0, none⟩)] ++ #[.pointer (some ⟨b, 0, none⟩)])) w)
    (res : Except Int (α × List UInt8)) (okM : α → List Value → List It → Prop)
    (hclo : ∀ fr al w r, Own fr al w [rdI r xs, blkI b z] w → Calls Try.prog F #[.pointer (some ⟨r, 0, none⟩), .pointer (some ⟨b, 0, none⟩)] w (GetPostM fr al w r b res z okM)) :
    Calls Try.prog 46 #[.slice a n c, .func (.func F) #[] #[.pointer (some ⟨b, 0, none⟩)]] w fun en w' => ∃ r cs M, en = .returned (.int .i64 (gotE res)) ∧ GotM res z okM cs M ∧ Own fr al w0 (rdOverI r :: (L.set i (blkI b cs) ++ M)) w' := by
  have hil := get_lt hi
  have fin : ∀ {fr' al' : Nat → Prop} {w1 w2 : World} {A B I : It} {M : List It}, Own fr' al' w1 (putIt (L ++ [I]) (A :: B :: M) 0 [L.length, i]) w2 → Own fr' al' w1 (A :: (L.set i B ++ M)) w2 := by
    intro fr' al' w1 w2 A B I M st3
    rw [putIt_twoM L M I A B i hil] at st3
    have hk := st3.keep ((L.set i B).length :: (List.range (L.set i B).length ++ (List.range M.length).map ((L.set i B).length + 1 + ·))) (by
      rw [List.nodup_cons, List.nodup_append]
      refine ⟨?_, List.nodup_range, ?_, ?_⟩
      · simp only [List.mem_append, List.mem_range, List.mem_map, not_or, not_exists, not_and]
        exact ⟨by omega, fun q _ => by omega⟩
      · exact List.pairwise_map.2 (List.Pairwise.imp (fun {x y} h e => h (by omega)) List.nodup_range)
      · intro x hx y hy
        simp only [List.mem_range, List.mem_map] at hx hy
        obtain ⟨q, _, rfl⟩ := hy
        omega) (by
      intro q hq
      simp only [List.mem_cons, List.mem_append, List.mem_range, List.mem_map] at hq
      simp only [List.length_append, List.length_singleton]
      rcases hq with e | e | ⟨q', e1, rfl⟩ <;> omega)
    rwa [pick_mid] at hk
  refine (read_c st h hc hn F #[.pointer (some ⟨b, 0, none⟩)] hinv (fun r e M => e = gotE res ∧ ∃ cs M', GotM res z okM cs M' ∧ M = L.set i (blkI b cs) ++ M') fun fr' al' w1 r hr st1 => ?_).mono ?_
  · obtain ⟨fr2, al2, st2, back⟩ := st1.sub [L.length, i] (by simp; omega) (by
      intro q hq; simp at hq ⊢; omega)
    have hp : pick (L ++ [rdI r xs]) [L.length, i] = [rdI r xs, blkI b z] := by
      simp [pick, List.getElem?_append_left hil, hi]
    rw [hp] at st2
    refine (hclo _ _ _ r st2).mono ?_
    intro en w2 hen
    unfold GetPostM at hen
    cases hres : res with
    | error e =>
      rw [hres] at hen
      obtain ⟨rfl, st3⟩ := hen
      exact .inr ⟨e, [], _, rfl, rfl, ⟨rfl, z, [], ⟨rfl, rfl⟩, rfl⟩, fin (back _ _ (by simp) st3)⟩
    | ok p =>
      obtain ⟨s, ys⟩ := p
      rw [hres] at hen
      obtain ⟨rfl, cs, M, hok, st3⟩ := hen
      exact .inl ⟨_, ys, _, rfl, ⟨rfl, cs, M, hok, rfl⟩, fin (back _ _ (by simp) st3)⟩
  · rintro en w' ⟨r, e, M, rfl, ⟨rfl, cs, M', h1, rfl⟩, st'⟩
    exact ⟨r, cs, M', rfl, h1, st'⟩
end Go.Proofs.Ytekngjkjgmplpaa

namespace Go.Proofs.Ytekngjkjgmplpaa
set_option linter.unusedSimpArgs false
set_option linter.unusedVariables false
open Go Go.RowKit
def GetPostN {α : Type} (fr al : Nat → Prop) (w : World) (r b : Nat) (J : It) (res : Except Int (α × List UInt8)) (z : List Value) (okM : α → List Value → List It → Prop) (en : Ending) (w' : World) : Prop :=
  match res with
  | .error e => en = .panicked [{ v := failV r e, recovered := false }] ∧ Own fr al w [rdAnyI r, blkI b z, J] w'
  | .ok (s, ys) => en = .returned (.tuple #[]) ∧ ∃ cs M, okM s cs M ∧ Own fr al w (rdI r ys :: blkI b cs :: J :: M) w'
theorem putIt_threeM (L M : List It) (I A B J : It) (i j : Nat) (hi : i < L.length) (hij : i ≠ j) (hj : L[j]? = some J) : putIt (L ++ [I]) (A :: B :: J :: M) 0 [L.length, i, j] = L.set i B ++ [A] ++ M := by
  have hjl : j < L.length := (List.getElem?_eq_some_iff.1 hj).1
  simp only [putIt, List.getElem?_cons_zero, List.getElem?_cons_succ, Option.getD_some, List.drop_succ_cons, List.drop_zero]
  rw [List.set_append_right _ _ (Nat.le_refl _), Nat.sub_self, List.set_cons_zero, List.set_append_left _ _ hi, List.set_append_left _ _ (by simpa using hjl)]
  congr 2
  apply List.ext_getElem?
  intro q
  by_cases hq : q = j
  · subst hq
    rw [List.getElem?_set_self (by simpa using hjl), List.getElem?_set_ne hij, hj]
  · rw [List.getElem?_set_ne (Ne.symm hq)]
theorem readGetN_c {α : Type} {fr al : Nat → Prop} {w0 w : World} {L : List It} (st : Own fr al w0 L w) (i j : Nat) {b : Nat} {z : List Value} {J : It} (hi : L[i]? = some (blkI b z)) (hj : L[j]? = some J) (hij : i ≠ j) {a : Option Addr} {n c : Nat} {xs : List UInt8} (h : By w a n xs) (hc : n ≤ c ∧ c ≤ maxLen) (hn : n ≤ 100000000000) (F : FuncId) (cap : Array Value)
    (hinv : ∀ w r, (callFunc F (#[.pointer (some ⟨r, 0, none⟩)] ++ cap)).run Try.prog w = .ok (.enter F (#[.pointer (some ⟨r, 0, none⟩)] ++ cap)) w)
    (res : Except Int (α × List UInt8)) (okM : α → List Value → List It → Prop)
    (hclo : ∀ fr al w r, Own fr al w [rdI r xs, blkI b z, J] w → Calls Try.prog F (#[.pointer (some ⟨r, 0, none⟩)] ++ cap) w (GetPostN fr al w r b J res z okM)) :
    Calls Try.prog 46 #[.slice a n c, .func (.func F) #[] cap] w fun en w' => ∃ r cs M, en = .returned (.int .i64 (gotE res)) ∧ GotM res z okM cs M ∧ Own fr al w0 (rdOverI r :: (L.set i (blkI b cs) ++ M)) w' := by
  have hil := get_lt hi
  have hjl := get_lt hj
  have fin : ∀ {fr' al' : Nat → Prop} {w1 w2 : World} {A B I : It} {M : List It}, Own fr' al' w1 (putIt (L ++ [I]) (A :: B :: J :: M) 0 [L.length, i, j]) w2 → Own fr' al' w1 (A :: (L.set i B ++ M)) w2 := by
    intro fr' al' w1 w2 A B I M st3
    rw [putIt_threeM L M I A B J i j hil hij hj] at st3
    have hk := st3.keep ((L.set i B).length :: (List.range (L.set i B).length ++ (List.range M.length).map ((L.set i B).length + 1 + ·))) (by
      rw [List.nodup_cons, List.nodup_append]
      refine ⟨?_, List.nodup_range, ?_, ?_⟩
      · simp only [List.mem_append, List.mem_range, List.mem_map, not_or, not_exists, not_and]
        exact ⟨by omega, fun q _ => by omega⟩
      · exact List.pairwise_map.2 (List.Pairwise.imp (fun {x y} h e => h (by omega)) List.nodup_range)
      · intro x hx y hy
        simp only [List.mem_range, List.mem_map] at hx hy
        obtain ⟨q, _, rfl⟩ := hy
        omega) (by
      intro q hq
      simp only [List.mem_cons, List.mem_append, List.mem_range, List.mem_map] at hq
      simp only [List.length_append, List.length_singleton]
      rcases hq with e | e | ⟨q', e1, rfl⟩ <;> omega)
    rwa [pick_mid] at hk
  refine (read_c st h hc hn F cap hinv (fun r e M => e = gotE res ∧ ∃ cs M', GotM res z okM cs M' ∧ M = L.set i (blkI b cs) ++ M') fun fr' al' w1 r hr st1 => ?_).mono ?_
  · obtain ⟨fr2, al2, st2, back⟩ := st1.sub [L.length, i, j] (by simp; omega) (by
      intro q hq; simp at hq ⊢; omega)
    have hp : pick (L ++ [rdI r xs]) [L.length, i, j] = [rdI r xs, blkI b z, J] := by
      simp [pick, List.getElem?_append_left hil, List.getElem?_append_left hjl, hi, hj]
    rw [hp] at st2
    refine (hclo _ _ _ r st2).mono ?_
    intro en w2 hen
    unfold GetPostN at hen
    cases hres : res with
    | error e =>
      rw [hres] at hen
      obtain ⟨rfl, st3⟩ := hen
      exact .inr ⟨e, [], _, rfl, rfl, ⟨rfl, z, [], ⟨rfl, rfl⟩, rfl⟩, fin (back _ _ (by simp) st3)⟩
    | ok p =>
      obtain ⟨s, ys⟩ := p
      rw [hres] at hen
      obtain ⟨rfl, cs, M, hok, st3⟩ := hen
      exact .inl ⟨_, ys, _, rfl, ⟨rfl, cs, M, hok, rfl⟩, fin (back _ _ (by simp) st3)⟩
  · rintro en w' ⟨r, e, M, rfl, ⟨rfl, cs, M', h1, rfl⟩, st'⟩
    exact ⟨r, cs, M', rfl, h1, st'⟩
end Go.Proofs.Ytekngjkjgmplpaa
