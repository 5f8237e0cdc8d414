/- Credentials got: cred.Get. -/
import Derived.Test.YtekngjkjgmplpaaGreatCredF
import Derived.Test.YtekngjkjgmplpaaGreatSets
import Derived.Test.YtekngjkjgmplpaaGreatCredV
import Derived.Deep.Onto
import Derived.ProofKit
import Derived.OpenShut
import Derived.Test.YtekngjkjgmplpaaGreatRows
import Derived.Deep.Strs
import Derived.Deep.Slices
import Derived.ChangeSame
import Derived.ChangeArms
import Derived.HandedShaped
import Derived.JoinedCond
namespace Go.Proofs.YtekngjkjgmplpaaGreat
set_option linter.unusedSimpArgs false
set_option linter.unusedVariables false
open Go Go.RowKit
/-- One behind another. -/
def bd {α β : Type} (r : Except Int (α × List UInt8)) (f : α → List UInt8 → Except Int β) : Except Int β := match r with | .error e => .error e | .ok p => f p.1 p.2
theorem bd_ok {α β : Type} (x : α) (ys : List UInt8) (f : α → List UInt8 → Except Int β) : bd (.ok (x, ys)) f = f x ys := rfl
def okCr (c : CredT) (ys : List UInt8) : Except Int (CredT × List UInt8) := if credR c = true then .ok (c, ys) else .error 11
/-- The next credential. -/
def rdCred (xs : List UInt8) : Except Int (CredT × List UInt8) :=
  bd (rdNumber 9223372036854775807 xs) fun n ys => if n < 1 ∨ 4 < n then .error 11 else
  bd (rdRole ys) fun h zs => if n = 1 then bd (rdName zs) fun w us => okCr ⟨1, h, w, nR, nR, []⟩ us
    else bd (rdRole zs) fun b us => if n = 2 then okCr ⟨2, h, [], b, nR, []⟩ us else if n = 3 then bd (rdName us) fun e vs => okCr ⟨3, h, [], b, nR, e⟩ vs else bd (rdRole us) fun c vs => okCr ⟨4, h, [], b, c, []⟩ vs
theorem rdRole_le {xs ys : List UInt8} {h : Role} (hr : rdRole xs = .ok (h, ys)) : ys.length ≤ xs.length ∧ roleR h = true := by
  unfold rdRole at hr
  cases h1 : rdName xs with
  | error e => rw [h1] at hr; simp at hr
  | ok p =>
    obtain ⟨o, zs⟩ := p
    rw [h1] at hr
    simp only at hr
    cases h2 : rdName zs with
    | error e => rw [h2] at hr; simp at hr
    | ok q =>
      obtain ⟨d, us⟩ := q
      rw [h2] at hr
      simp at hr
      obtain ⟨rfl, rfl⟩ := hr
      have a1 := rdName_le h1
      have a2 := rdName_le h2
      exact ⟨by omega, by simp [roleR, a1.2, a2.2]⟩
theorem rdNumber_le {most : Int} {xs ys : List UInt8} {n : Nat} (hr : rdNumber most xs = .ok (n, ys)) : ys.length ≤ xs.length := by
  unfold rdNumber at hr
  cases h : rdNum xs with
  | error e => rw [h] at hr; simp at hr
  | ok p =>
    obtain ⟨m, zs⟩ := p
    rw [h] at hr
    simp only at hr
    have := rdNum_lt h
    split at hr
    · simp at hr
    · simp at hr; obtain ⟨rfl, rfl⟩ := hr; omega
set_option maxRecDepth 100000 in
set_option maxHeartbeats 2000000 in
theorem credGet_c {fr al : Nat → Prop} {w : World} {r : Nat} {xs : List UInt8} (st : Own fr al w [rdI r xs] w) (hl : xs.length ≤ 100000) :
    Calls Tryz.prog 51 #[.pointer (some ⟨r, 0, none⟩)] w (RdC fr al w r (rdCred xs) fun s v M => v = cV s ∧ M = []) := by
  go_enter Tryz.func51, Tryz.ntmps51
  go_wp2_with ((((with_reducible refine wl_alloc ?_ (fun K hK => ?_)); rfl; refine owp_alloc (o := ⟨some 2, _, _, _, _, _⟩) rfl st ?_; apply Exists.intro; apply Exists.intro; refine ⟨?_, ?_⟩; (focus (first | (go_simp; done) | (go_simp; rfl))); (clear st; intro b2 w hb st; clear hb))); (try simp only [nsl, Value.cells, unB] at st); (try clear hc); have hc := st.facts; (try simp only [nfl, nft, Nat.reduceAdd] at hc))
  obtain ⟨fr', al', st', back⟩ := st.sub [0] (by decide) (by simp)
  (try simp only [nsl, Value.cells, unB] at st')
  refine (number_c st' 9223372036854775807).mono ?_
  clear st'
  intro en w hen
  unfold RdC at hen
  cases hr : rdNumber 9223372036854775807 xs with
  | error e =>
    rw [hr] at hen
    obtain ⟨rfl, st'⟩ := hen
    replace st := back _ _ (by simp) st'
    clear back st'
    (try simp only [nsl, Value.cells, unB] at st)
    (try clear hc); have hc := st.facts; (try simp only [nfl, nft, Nat.reduceAdd] at hc)
    have H1 : Hid (rdCred xs = .error e) := Lib.hid (by simp [rdCred,  hr, bd])
    clear hr
    go_wp2_with fail
    refine ⟨rfl, ?_⟩
    unfold RdC
    rw [H1.out]
    have st' := st.keep [0] (by decide) (by simp)
    exact ⟨rfl, by simpa [pick] using st'⟩
  | ok p =>
    obtain ⟨n, ys⟩ := p
    rw [hr] at hen
    obtain ⟨v, M, rfl, ⟨rfl, rfl⟩, st'⟩ := hen
    replace st := back _ _ (by simp) st'
    clear back st'
    (try simp only [nsl, Value.cells, unB] at st)
    (try clear hc); have hc := st.facts; (try simp only [nfl, nft, Nat.reduceAdd] at hc)
    have hl0 := rdNumber_le hr
    have HR0 := Lib.hid hr
    clear hr
    match n, HR0 with
    | 0, HR0 =>
      have H1 : Hid (rdCred xs = .error 11) := Lib.hid (by simp [rdCred, HR0.out, bd])
      go_wp2_with ((first
            | ((with_reducible refine wl_alloc ?_ (fun K hK => ?_)); rfl; refine owp_alloc (o := ⟨some 3, _, _, _, _, _⟩) rfl st ?_; apply Exists.intro; apply Exists.intro; refine ⟨?_, ?_⟩; (focus (first | (go_simp; done) | (go_simp; rfl))); (clear st; intro b3 w hb st; clear hb))
            | ((with_reducible refine wl_store ?_ (fun K hK => ?_)); rfl; refine owp_store rfl st ?_; apply Exists.intro; apply Exists.intro; refine ⟨?_, ?_, ?_⟩; (focus (go_simp; try rfl)); (focus (go_simp; try rfl)); (with_reducible refine ⟨2, _, _, _, _, get2, rfl, rfl, ?_, ?_, ?_, ?_⟩); (kernel_rfl); (simp [Value.cells]); (rfl); (clear st; intro w st))); (try simp only [nsl, Value.cells, unB] at st); (try clear hc); have hc := st.facts; (try simp only [nfl, nft, Nat.reduceAdd] at hc))
      obtain ⟨_, sq, ⟨_, hrd⟩, _⟩ := st.get (i := 0) (I := rdI r ys) get0
      have HRD := Lib.hid hrd.any
      clear hrd
      go_wp2_with fail
      refine (fail_any _ r 11 HRD.out (by decide)).mono ?_
      rintro en w' ⟨rfl, rfl⟩
      go_wp2_with fail
      refine ⟨rfl, ?_⟩
      unfold RdC
      rw [H1.out]
      have st' := (st.rdAny (i := 0) get0).keep [0] (by decide) (by simp)
      exact ⟨rfl, by simpa [pick] using st'⟩
    | 1, HR0 =>
      go_wp2_with ((first
            | ((with_reducible refine wl_alloc ?_ (fun K hK => ?_)); rfl; refine owp_alloc (o := ⟨some 3, _, _, _, _, _⟩) rfl st ?_; apply Exists.intro; apply Exists.intro; refine ⟨?_, ?_⟩; (focus (first | (go_simp; done) | (go_simp; rfl))); (clear st; intro b3 w hb st; clear hb))
            | ((with_reducible refine wl_store ?_ (fun K hK => ?_)); rfl; refine owp_store rfl st ?_; apply Exists.intro; apply Exists.intro; refine ⟨?_, ?_, ?_⟩; (focus (go_simp; try rfl)); (focus (go_simp; try rfl)); (with_reducible refine ⟨2, _, _, _, _, get2, rfl, rfl, ?_, ?_, ?_, ?_⟩); (kernel_rfl); (simp [Value.cells]); (rfl); (clear st; intro w st))); (try simp only [nsl, Value.cells, unB] at st); (try clear hc); have hc := st.facts; (try simp only [nfl, nft, Nat.reduceAdd] at hc))
      obtain ⟨fr', al', st', back⟩ := st.sub [0] (by decide) (by simp)
      (try simp only [nsl, Value.cells, unB] at st')
      refine (roleGet_c st' (by omega)).mono ?_
      clear st'
      intro en w hen
      unfold RdC at hen
      cases hr : rdRole ys with
      | error e =>
        rw [hr] at hen
        obtain ⟨rfl, st'⟩ := hen
        replace st := back _ _ (by simp) st'
        clear back st'
        (try simp only [nsl, Value.cells, unB] at st)
        (try clear hc); have hc := st.facts; (try simp only [nfl, nft, Nat.reduceAdd] at hc)
        have H1 : Hid (rdCred xs = .error e) := Lib.hid (by simp [rdCred, HR0.out, hr, bd])
        clear hr
        go_wp2_with fail
        refine ⟨rfl, ?_⟩
        unfold RdC
        rw [H1.out]
        have st' := st.keep [0] (by decide) (by simp)
        exact ⟨rfl, by simpa [pick] using st'⟩
      | ok p =>
        obtain ⟨⟨ho, hd⟩, zs⟩ := p
        rw [hr] at hen
        obtain ⟨v, M, rfl, ⟨rfl, rfl⟩, st'⟩ := hen
        replace st := back _ _ (by simp) st'
        clear back st'
        (try simp only [nsl, Value.cells, unB] at st)
        (try clear hc); have hc := st.facts; (try simp only [nfl, nft, Nat.reduceAdd] at hc)
        have hl1 := rdRole_le hr
        have hl1b := roleR_len hl1.2
        have HR1 := Lib.hid hr
        clear hr
        simp only at hl1b
        unfold rV S
        go_wp2_with ((((with_reducible refine wl_store ?_ (fun K hK => ?_)); rfl; refine owp_store rfl st ?_; apply Exists.intro; apply Exists.intro; refine ⟨?_, ?_, ?_⟩; (focus (go_simp; try rfl)); (focus (go_simp; try rfl)); (with_reducible refine ⟨2, _, _, _, _, get2, rfl, rfl, ?_, ?_, ?_, ?_⟩); (kernel_rfl); (simp [Value.cells]); (rfl); (clear st; intro w st))); (try simp only [nsl, Value.cells, unB] at st); (try clear hc); have hc := st.facts; (try simp only [nfl, nft, Nat.reduceAdd] at hc))
        obtain ⟨fr', al', st', back⟩ := st.sub [0] (by decide) (by simp)
        (try simp only [nsl, Value.cells, unB] at st')
        refine (nameGet_c st' (by omega)).mono ?_
        clear st'
        intro en w hen
        unfold RdC at hen
        cases hr : rdName zs with
        | error e =>
          rw [hr] at hen
          obtain ⟨rfl, st'⟩ := hen
          replace st := back _ _ (by simp) st'
          clear back st'
          (try simp only [nsl, Value.cells, unB] at st)
          (try clear hc); have hc := st.facts; (try simp only [nfl, nft, Nat.reduceAdd] at hc)
          have H1 : Hid (rdCred xs = .error e) := Lib.hid (by simp [rdCred, HR0.out, HR1.out, hr, bd])
          clear hr
          go_wp2_with fail
          refine ⟨rfl, ?_⟩
          unfold RdC
          rw [H1.out]
          have st' := st.keep [0] (by decide) (by simp)
          exact ⟨rfl, by simpa [pick] using st'⟩
        | ok p =>
          obtain ⟨nw, us⟩ := p
          rw [hr] at hen
          obtain ⟨v, M, rfl, ⟨rfl, rfl⟩, st'⟩ := hen
          replace st := back _ _ (by simp) st'
          clear back st'
          (try simp only [nsl, Value.cells, unB] at st)
          (try clear hc); have hc := st.facts; (try simp only [nfl, nft, Nat.reduceAdd] at hc)
          have hl2 := rdName_le hr
          have hl2b := (nameR_len hl2.2).2
          have HR2 := Lib.hid hr
          clear hr
          unfold S
          have HQ := Lib.hid (fun W => credRight_any ⟨1, (ho, hd), nw, ([], []), ([], []), []⟩ W (by simp only [List.length_nil]; omega))
          unfold cV S at HQ
          simp only [nR] at HQ
          go_wp2_with ((((with_reducible refine wl_store ?_ (fun K hK => ?_)); rfl; refine owp_store rfl st ?_; apply Exists.intro; apply Exists.intro; refine ⟨?_, ?_, ?_⟩; (focus (go_simp; try rfl)); (focus (go_simp; try rfl)); (with_reducible refine ⟨2, _, _, _, _, get2, rfl, rfl, ?_, ?_, ?_, ?_⟩); (kernel_rfl); (simp [Value.cells]); (rfl); (clear st; intro w st))); (try simp only [nsl, Value.cells, unB] at st); (try clear hc); have hc := st.facts; (try simp only [nfl, nft, Nat.reduceAdd] at hc))
          refine (HQ.out _).mono ?_
          rintro en w ⟨rfl, hx⟩
          replace st := st.ext hx
          clear hx
          (try clear hc); have hc := st.facts; (try simp only [nfl, nft, Nat.reduceAdd] at hc)
          cases hcr : credR ⟨1, (ho, hd), nw, ([], []), ([], []), []⟩ with
          | true =>
            have H1 : Hid (rdCred xs = .ok (⟨1, (ho, hd), nw, ([], []), ([], []), []⟩, us)) := Lib.hid (by simp [rdCred, HR0.out, HR1.out, HR2.out, bd, okCr, nR, hcr])
            clear hcr HQ
            go_wp2_with ((((with_reducible refine wl_store ?_ (fun K hK => ?_)); rfl; refine owp_store rfl st ?_; apply Exists.intro; apply Exists.intro; refine ⟨?_, ?_, ?_⟩; (focus (go_simp; try rfl)); (focus (go_simp; try rfl)); (with_reducible refine ⟨1, _, _, _, _, get1, rfl, rfl, ?_, ?_, ?_, ?_⟩); (kernel_rfl); (simp [Value.cells]); (rfl); (clear st; intro w st))); (try simp only [nsl, Value.cells, unB] at st); (try clear hc); have hc := st.facts; (try simp only [nfl, nft, Nat.reduceAdd] at hc))
            (try simp only [Exit.inBlock, Exit.then])
            refine bodyPost_cell rfl rfl (st.blk (i := 1) get1) Tryz.underlying47 rfl (by kernel_rfl) rfl ?_
            unfold RdC
            rw [H1.out]
            have st' := st.keep [0] (by decide) (by simp)
            exact ⟨_, [], rfl, ⟨rfl, rfl⟩, by simpa [pick] using st'⟩
          | false =>
            have H1 : Hid (rdCred xs = .error 11) := Lib.hid (by simp [rdCred, HR0.out, HR1.out, HR2.out, bd, okCr, nR, hcr])
            clear hcr HQ
            obtain ⟨_, sq, ⟨_, hrd⟩, _⟩ := st.get (i := 0) (I := rdI r us) get0
            have HRD := Lib.hid hrd.any
            clear hrd
            go_wp2_with fail
            refine (fail_any _ r 11 HRD.out (by decide)).mono ?_
            rintro en w' ⟨rfl, rfl⟩
            go_wp2_with fail
            refine ⟨rfl, ?_⟩
            unfold RdC
            rw [H1.out]
            have st' := (st.rdAny (i := 0) get0).keep [0] (by decide) (by simp)
            exact ⟨rfl, by simpa [pick] using st'⟩
    | 2, HR0 =>
      go_wp2_with ((first
            | ((with_reducible refine wl_alloc ?_ (fun K hK => ?_)); rfl; refine owp_alloc (o := ⟨some 3, _, _, _, _, _⟩) rfl st ?_; apply Exists.intro; apply Exists.intro; refine ⟨?_, ?_⟩; (focus (first | (go_simp; done) | (go_simp; rfl))); (clear st; intro b3 w hb st; clear hb))
            | ((with_reducible refine wl_store ?_ (fun K hK => ?_)); rfl; refine owp_store rfl st ?_; apply Exists.intro; apply Exists.intro; refine ⟨?_, ?_, ?_⟩; (focus (go_simp; try rfl)); (focus (go_simp; try rfl)); (with_reducible refine ⟨2, _, _, _, _, get2, rfl, rfl, ?_, ?_, ?_, ?_⟩); (kernel_rfl); (simp [Value.cells]); (rfl); (clear st; intro w st))); (try simp only [nsl, Value.cells, unB] at st); (try clear hc); have hc := st.facts; (try simp only [nfl, nft, Nat.reduceAdd] at hc))
      obtain ⟨fr', al', st', back⟩ := st.sub [0] (by decide) (by simp)
      (try simp only [nsl, Value.cells, unB] at st')
      refine (roleGet_c st' (by omega)).mono ?_
      clear st'
      intro en w hen
      unfold RdC at hen
      cases hr : rdRole ys with
      | error e =>
        rw [hr] at hen
        obtain ⟨rfl, st'⟩ := hen
        replace st := back _ _ (by simp) st'
        clear back st'
        (try simp only [nsl, Value.cells, unB] at st)
        (try clear hc); have hc := st.facts; (try simp only [nfl, nft, Nat.reduceAdd] at hc)
        have H1 : Hid (rdCred xs = .error e) := Lib.hid (by simp [rdCred, HR0.out, hr, bd])
        clear hr
        go_wp2_with fail
        refine ⟨rfl, ?_⟩
        unfold RdC
        rw [H1.out]
        have st' := st.keep [0] (by decide) (by simp)
        exact ⟨rfl, by simpa [pick] using st'⟩
      | ok p =>
        obtain ⟨⟨ho, hd⟩, zs⟩ := p
        rw [hr] at hen
        obtain ⟨v, M, rfl, ⟨rfl, rfl⟩, st'⟩ := hen
        replace st := back _ _ (by simp) st'
        clear back st'
        (try simp only [nsl, Value.cells, unB] at st)
        (try clear hc); have hc := st.facts; (try simp only [nfl, nft, Nat.reduceAdd] at hc)
        have hl1 := rdRole_le hr
        have hl1b := roleR_len hl1.2
        have HR1 := Lib.hid hr
        clear hr
        simp only at hl1b
        unfold rV S
        go_wp2_with ((((with_reducible refine wl_store ?_ (fun K hK => ?_)); rfl; refine owp_store rfl st ?_; apply Exists.intro; apply Exists.intro; refine ⟨?_, ?_, ?_⟩; (focus (go_simp; try rfl)); (focus (go_simp; try rfl)); (with_reducible refine ⟨2, _, _, _, _, get2, rfl, rfl, ?_, ?_, ?_, ?_⟩); (kernel_rfl); (simp [Value.cells]); (rfl); (clear st; intro w st))); (try simp only [nsl, Value.cells, unB] at st); (try clear hc); have hc := st.facts; (try simp only [nfl, nft, Nat.reduceAdd] at hc))
        obtain ⟨fr', al', st', back⟩ := st.sub [0] (by decide) (by simp)
        (try simp only [nsl, Value.cells, unB] at st')
        refine (roleGet_c st' (by omega)).mono ?_
        clear st'
        intro en w hen
        unfold RdC at hen
        cases hr : rdRole zs with
        | error e =>
          rw [hr] at hen
          obtain ⟨rfl, st'⟩ := hen
          replace st := back _ _ (by simp) st'
          clear back st'
          (try simp only [nsl, Value.cells, unB] at st)
          (try clear hc); have hc := st.facts; (try simp only [nfl, nft, Nat.reduceAdd] at hc)
          have H1 : Hid (rdCred xs = .error e) := Lib.hid (by simp [rdCred, HR0.out, HR1.out, hr, bd])
          clear hr
          go_wp2_with fail
          refine ⟨rfl, ?_⟩
          unfold RdC
          rw [H1.out]
          have st' := st.keep [0] (by decide) (by simp)
          exact ⟨rfl, by simpa [pick] using st'⟩
        | ok p =>
          obtain ⟨⟨bo, bd'⟩, us⟩ := p
          rw [hr] at hen
          obtain ⟨v, M, rfl, ⟨rfl, rfl⟩, st'⟩ := hen
          replace st := back _ _ (by simp) st'
          clear back st'
          (try simp only [nsl, Value.cells, unB] at st)
          (try clear hc); have hc := st.facts; (try simp only [nfl, nft, Nat.reduceAdd] at hc)
          have hl2 := rdRole_le hr
          have hl2b := roleR_len hl2.2
          have HR2 := Lib.hid hr
          clear hr
          simp only at hl2b
          unfold rV S
          have HQ := Lib.hid (fun W => credRight_any ⟨2, (ho, hd), [], (bo, bd'), ([], []), []⟩ W (by simp only [List.length_nil]; omega))
          unfold cV S at HQ
          simp only [nR] at HQ
          go_wp2_with ((((with_reducible refine wl_store ?_ (fun K hK => ?_)); rfl; refine owp_store rfl st ?_; apply Exists.intro; apply Exists.intro; refine ⟨?_, ?_, ?_⟩; (focus (go_simp; try rfl)); (focus (go_simp; try rfl)); (with_reducible refine ⟨2, _, _, _, _, get2, rfl, rfl, ?_, ?_, ?_, ?_⟩); (kernel_rfl); (simp [Value.cells]); (rfl); (clear st; intro w st))); (try simp only [nsl, Value.cells, unB] at st); (try clear hc); have hc := st.facts; (try simp only [nfl, nft, Nat.reduceAdd] at hc))
          refine (HQ.out _).mono ?_
          rintro en w ⟨rfl, hx⟩
          replace st := st.ext hx
          clear hx
          (try clear hc); have hc := st.facts; (try simp only [nfl, nft, Nat.reduceAdd] at hc)
          cases hcr : credR ⟨2, (ho, hd), [], (bo, bd'), ([], []), []⟩ with
          | true =>
            have H1 : Hid (rdCred xs = .ok (⟨2, (ho, hd), [], (bo, bd'), ([], []), []⟩, us)) := Lib.hid (by simp [rdCred, HR0.out, HR1.out, HR2.out, bd, okCr, nR, hcr])
            clear hcr HQ
            go_wp2_with ((((with_reducible refine wl_store ?_ (fun K hK => ?_)); rfl; refine owp_store rfl st ?_; apply Exists.intro; apply Exists.intro; refine ⟨?_, ?_, ?_⟩; (focus (go_simp; try rfl)); (focus (go_simp; try rfl)); (with_reducible refine ⟨1, _, _, _, _, get1, rfl, rfl, ?_, ?_, ?_, ?_⟩); (kernel_rfl); (simp [Value.cells]); (rfl); (clear st; intro w st))); (try simp only [nsl, Value.cells, unB] at st); (try clear hc); have hc := st.facts; (try simp only [nfl, nft, Nat.reduceAdd] at hc))
            (try simp only [Exit.inBlock, Exit.then])
            refine bodyPost_cell rfl rfl (st.blk (i := 1) get1) Tryz.underlying47 rfl (by kernel_rfl) rfl ?_
            unfold RdC
            rw [H1.out]
            have st' := st.keep [0] (by decide) (by simp)
            exact ⟨_, [], rfl, ⟨rfl, rfl⟩, by simpa [pick] using st'⟩
          | false =>
            have H1 : Hid (rdCred xs = .error 11) := Lib.hid (by simp [rdCred, HR0.out, HR1.out, HR2.out, bd, okCr, nR, hcr])
            clear hcr HQ
            obtain ⟨_, sq, ⟨_, hrd⟩, _⟩ := st.get (i := 0) (I := rdI r us) get0
            have HRD := Lib.hid hrd.any
            clear hrd
            go_wp2_with fail
            refine (fail_any _ r 11 HRD.out (by decide)).mono ?_
            rintro en w' ⟨rfl, rfl⟩
            go_wp2_with fail
            refine ⟨rfl, ?_⟩
            unfold RdC
            rw [H1.out]
            have st' := (st.rdAny (i := 0) get0).keep [0] (by decide) (by simp)
            exact ⟨rfl, by simpa [pick] using st'⟩
    | 3, HR0 =>
      go_wp2_with ((first
            | ((with_reducible refine wl_alloc ?_ (fun K hK => ?_)); rfl; refine owp_alloc (o := ⟨some 3, _, _, _, _, _⟩) rfl st ?_; apply Exists.intro; apply Exists.intro; refine ⟨?_, ?_⟩; (focus (first | (go_simp; done) | (go_simp; rfl))); (clear st; intro b3 w hb st; clear hb))
            | ((with_reducible refine wl_store ?_ (fun K hK => ?_)); rfl; refine owp_store rfl st ?_; apply Exists.intro; apply Exists.intro; refine ⟨?_, ?_, ?_⟩; (focus (go_simp; try rfl)); (focus (go_simp; try rfl)); (with_reducible refine ⟨2, _, _, _, _, get2, rfl, rfl, ?_, ?_, ?_, ?_⟩); (kernel_rfl); (simp [Value.cells]); (rfl); (clear st; intro w st))); (try simp only [nsl, Value.cells, unB] at st); (try clear hc); have hc := st.facts; (try simp only [nfl, nft, Nat.reduceAdd] at hc))
      obtain ⟨fr', al', st', back⟩ := st.sub [0] (by decide) (by simp)
      (try simp only [nsl, Value.cells, unB] at st')
      refine (roleGet_c st' (by omega)).mono ?_
      clear st'
      intro en w hen
      unfold RdC at hen
      cases hr : rdRole ys with
      | error e =>
        rw [hr] at hen
        obtain ⟨rfl, st'⟩ := hen
        replace st := back _ _ (by simp) st'
        clear back st'
        (try simp only [nsl, Value.cells, unB] at st)
        (try clear hc); have hc := st.facts; (try simp only [nfl, nft, Nat.reduceAdd] at hc)
        have H1 : Hid (rdCred xs = .error e) := Lib.hid (by simp [rdCred, HR0.out, hr, bd])
        clear hr
        go_wp2_with fail
        refine ⟨rfl, ?_⟩
        unfold RdC
        rw [H1.out]
        have st' := st.keep [0] (by decide) (by simp)
        exact ⟨rfl, by simpa [pick] using st'⟩
      | ok p =>
        obtain ⟨⟨ho, hd⟩, zs⟩ := p
        rw [hr] at hen
        obtain ⟨v, M, rfl, ⟨rfl, rfl⟩, st'⟩ := hen
        replace st := back _ _ (by simp) st'
        clear back st'
        (try simp only [nsl, Value.cells, unB] at st)
        (try clear hc); have hc := st.facts; (try simp only [nfl, nft, Nat.reduceAdd] at hc)
        have hl1 := rdRole_le hr
        have hl1b := roleR_len hl1.2
        have HR1 := Lib.hid hr
        clear hr
        simp only at hl1b
        unfold rV S
        go_wp2_with ((((with_reducible refine wl_store ?_ (fun K hK => ?_)); rfl; refine owp_store rfl st ?_; apply Exists.intro; apply Exists.intro; refine ⟨?_, ?_, ?_⟩; (focus (go_simp; try rfl)); (focus (go_simp; try rfl)); (with_reducible refine ⟨2, _, _, _, _, get2, rfl, rfl, ?_, ?_, ?_, ?_⟩); (kernel_rfl); (simp [Value.cells]); (rfl); (clear st; intro w st))); (try simp only [nsl, Value.cells, unB] at st); (try clear hc); have hc := st.facts; (try simp only [nfl, nft, Nat.reduceAdd] at hc))
        obtain ⟨fr', al', st', back⟩ := st.sub [0] (by decide) (by simp)
        (try simp only [nsl, Value.cells, unB] at st')
        refine (roleGet_c st' (by omega)).mono ?_
        clear st'
        intro en w hen
        unfold RdC at hen
        cases hr : rdRole zs with
        | error e =>
          rw [hr] at hen
          obtain ⟨rfl, st'⟩ := hen
          replace st := back _ _ (by simp) st'
          clear back st'
          (try simp only [nsl, Value.cells, unB] at st)
          (try clear hc); have hc := st.facts; (try simp only [nfl, nft, Nat.reduceAdd] at hc)
          have H1 : Hid (rdCred xs = .error e) := Lib.hid (by simp [rdCred, HR0.out, HR1.out, hr, bd])
          clear hr
          go_wp2_with fail
          refine ⟨rfl, ?_⟩
          unfold RdC
          rw [H1.out]
          have st' := st.keep [0] (by decide) (by simp)
          exact ⟨rfl, by simpa [pick] using st'⟩
        | ok p =>
          obtain ⟨⟨bo, bd'⟩, us⟩ := p
          rw [hr] at hen
          obtain ⟨v, M, rfl, ⟨rfl, rfl⟩, st'⟩ := hen
          replace st := back _ _ (by simp) st'
          clear back st'
          (try simp only [nsl, Value.cells, unB] at st)
          (try clear hc); have hc := st.facts; (try simp only [nfl, nft, Nat.reduceAdd] at hc)
          have hl2 := rdRole_le hr
          have hl2b := roleR_len hl2.2
          have HR2 := Lib.hid hr
          clear hr
          simp only at hl2b
          unfold rV S
          go_wp2_with ((((with_reducible refine wl_store ?_ (fun K hK => ?_)); rfl; refine owp_store rfl st ?_; apply Exists.intro; apply Exists.intro; refine ⟨?_, ?_, ?_⟩; (focus (go_simp; try rfl)); (focus (go_simp; try rfl)); (with_reducible refine ⟨2, _, _, _, _, get2, rfl, rfl, ?_, ?_, ?_, ?_⟩); (kernel_rfl); (simp [Value.cells]); (rfl); (clear st; intro w st))); (try simp only [nsl, Value.cells, unB] at st); (try clear hc); have hc := st.facts; (try simp only [nfl, nft, Nat.reduceAdd] at hc))
          obtain ⟨fr', al', st', back⟩ := st.sub [0] (by decide) (by simp)
          (try simp only [nsl, Value.cells, unB] at st')
          refine (nameGet_c st' (by omega)).mono ?_
          clear st'
          intro en w hen
          unfold RdC at hen
          cases hr : rdName us with
          | error e =>
            rw [hr] at hen
            obtain ⟨rfl, st'⟩ := hen
            replace st := back _ _ (by simp) st'
            clear back st'
            (try simp only [nsl, Value.cells, unB] at st)
            (try clear hc); have hc := st.facts; (try simp only [nfl, nft, Nat.reduceAdd] at hc)
            have H1 : Hid (rdCred xs = .error e) := Lib.hid (by simp [rdCred, HR0.out, HR1.out, HR2.out, hr, bd])
            clear hr
            go_wp2_with fail
            refine ⟨rfl, ?_⟩
            unfold RdC
            rw [H1.out]
            have st' := st.keep [0] (by decide) (by simp)
            exact ⟨rfl, by simpa [pick] using st'⟩
          | ok p =>
            obtain ⟨we, vs⟩ := p
            rw [hr] at hen
            obtain ⟨v, M, rfl, ⟨rfl, rfl⟩, st'⟩ := hen
            replace st := back _ _ (by simp) st'
            clear back st'
            (try simp only [nsl, Value.cells, unB] at st)
            (try clear hc); have hc := st.facts; (try simp only [nfl, nft, Nat.reduceAdd] at hc)
            have hl3 := rdName_le hr
            have hl3b := (nameR_len hl3.2).2
            have HR3 := Lib.hid hr
            clear hr
            unfold S
            have HQ := Lib.hid (fun W => credRight_any ⟨3, (ho, hd), [], (bo, bd'), ([], []), we⟩ W (by simp only [List.length_nil]; omega))
            unfold cV S at HQ
            simp only [nR] at HQ
            go_wp2_with ((((with_reducible refine wl_store ?_ (fun K hK => ?_)); rfl; refine owp_store rfl st ?_; apply Exists.intro; apply Exists.intro; refine ⟨?_, ?_, ?_⟩; (focus (go_simp; try rfl)); (focus (go_simp; try rfl)); (with_reducible refine ⟨2, _, _, _, _, get2, rfl, rfl, ?_, ?_, ?_, ?_⟩); (kernel_rfl); (simp [Value.cells]); (rfl); (clear st; intro w st))); (try simp only [nsl, Value.cells, unB] at st); (try clear hc); have hc := st.facts; (try simp only [nfl, nft, Nat.reduceAdd] at hc))
            refine (HQ.out _).mono ?_
            rintro en w ⟨rfl, hx⟩
            replace st := st.ext hx
            clear hx
            (try clear hc); have hc := st.facts; (try simp only [nfl, nft, Nat.reduceAdd] at hc)
            cases hcr : credR ⟨3, (ho, hd), [], (bo, bd'), ([], []), we⟩ with
            | true =>
              have H1 : Hid (rdCred xs = .ok (⟨3, (ho, hd), [], (bo, bd'), ([], []), we⟩, vs)) := Lib.hid (by simp [rdCred, HR0.out, HR1.out, HR2.out, HR3.out, bd, okCr, nR, hcr])
              clear hcr HQ
              go_wp2_with ((((with_reducible refine wl_store ?_ (fun K hK => ?_)); rfl; refine owp_store rfl st ?_; apply Exists.intro; apply Exists.intro; refine ⟨?_, ?_, ?_⟩; (focus (go_simp; try rfl)); (focus (go_simp; try rfl)); (with_reducible refine ⟨1, _, _, _, _, get1, rfl, rfl, ?_, ?_, ?_, ?_⟩); (kernel_rfl); (simp [Value.cells]); (rfl); (clear st; intro w st))); (try simp only [nsl, Value.cells, unB] at st); (try clear hc); have hc := st.facts; (try simp only [nfl, nft, Nat.reduceAdd] at hc))
              (try simp only [Exit.inBlock, Exit.then])
              refine bodyPost_cell rfl rfl (st.blk (i := 1) get1) Tryz.underlying47 rfl (by kernel_rfl) rfl ?_
              unfold RdC
              rw [H1.out]
              have st' := st.keep [0] (by decide) (by simp)
              exact ⟨_, [], rfl, ⟨rfl, rfl⟩, by simpa [pick] using st'⟩
            | false =>
              have H1 : Hid (rdCred xs = .error 11) := Lib.hid (by simp [rdCred, HR0.out, HR1.out, HR2.out, HR3.out, bd, okCr, nR, hcr])
              clear hcr HQ
              obtain ⟨_, sq, ⟨_, hrd⟩, _⟩ := st.get (i := 0) (I := rdI r vs) get0
              have HRD := Lib.hid hrd.any
              clear hrd
              go_wp2_with fail
              refine (fail_any _ r 11 HRD.out (by decide)).mono ?_
              rintro en w' ⟨rfl, rfl⟩
              go_wp2_with fail
              refine ⟨rfl, ?_⟩
              unfold RdC
              rw [H1.out]
              have st' := (st.rdAny (i := 0) get0).keep [0] (by decide) (by simp)
              exact ⟨rfl, by simpa [pick] using st'⟩
    | 4, HR0 =>
      go_wp2_with ((first
            | ((with_reducible refine wl_alloc ?_ (fun K hK => ?_)); rfl; refine owp_alloc (o := ⟨some 3, _, _, _, _, _⟩) rfl st ?_; apply Exists.intro; apply Exists.intro; refine ⟨?_, ?_⟩; (focus (first | (go_simp; done) | (go_simp; rfl))); (clear st; intro b3 w hb st; clear hb))
            | ((with_reducible refine wl_store ?_ (fun K hK => ?_)); rfl; refine owp_store rfl st ?_; apply Exists.intro; apply Exists.intro; refine ⟨?_, ?_, ?_⟩; (focus (go_simp; try rfl)); (focus (go_simp; try rfl)); (with_reducible refine ⟨2, _, _, _, _, get2, rfl, rfl, ?_, ?_, ?_, ?_⟩); (kernel_rfl); (simp [Value.cells]); (rfl); (clear st; intro w st))); (try simp only [nsl, Value.cells, unB] at st); (try clear hc); have hc := st.facts; (try simp only [nfl, nft, Nat.reduceAdd] at hc))
      obtain ⟨fr', al', st', back⟩ := st.sub [0] (by decide) (by simp)
      (try simp only [nsl, Value.cells, unB] at st')
      refine (roleGet_c st' (by omega)).mono ?_
      clear st'
      intro en w hen
      unfold RdC at hen
      cases hr : rdRole ys with
      | error e =>
        rw [hr] at hen
        obtain ⟨rfl, st'⟩ := hen
        replace st := back _ _ (by simp) st'
        clear back st'
        (try simp only [nsl, Value.cells, unB] at st)
        (try clear hc); have hc := st.facts; (try simp only [nfl, nft, Nat.reduceAdd] at hc)
        have H1 : Hid (rdCred xs = .error e) := Lib.hid (by simp [rdCred, HR0.out, hr, bd])
        clear hr
        go_wp2_with fail
        refine ⟨rfl, ?_⟩
        unfold RdC
        rw [H1.out]
        have st' := st.keep [0] (by decide) (by simp)
        exact ⟨rfl, by simpa [pick] using st'⟩
      | ok p =>
        obtain ⟨⟨ho, hd⟩, zs⟩ := p
        rw [hr] at hen
        obtain ⟨v, M, rfl, ⟨rfl, rfl⟩, st'⟩ := hen
        replace st := back _ _ (by simp) st'
        clear back st'
        (try simp only [nsl, Value.cells, unB] at st)
        (try clear hc); have hc := st.facts; (try simp only [nfl, nft, Nat.reduceAdd] at hc)
        have hl1 := rdRole_le hr
        have hl1b := roleR_len hl1.2
        have HR1 := Lib.hid hr
        clear hr
        simp only at hl1b
        unfold rV S
        go_wp2_with ((((with_reducible refine wl_store ?_ (fun K hK => ?_)); rfl; refine owp_store rfl st ?_; apply Exists.intro; apply Exists.intro; refine ⟨?_, ?_, ?_⟩; (focus (go_simp; try rfl)); (focus (go_simp; try rfl)); (with_reducible refine ⟨2, _, _, _, _, get2, rfl, rfl, ?_, ?_, ?_, ?_⟩); (kernel_rfl); (simp [Value.cells]); (rfl); (clear st; intro w st))); (try simp only [nsl, Value.cells, unB] at st); (try clear hc); have hc := st.facts; (try simp only [nfl, nft, Nat.reduceAdd] at hc))
        obtain ⟨fr', al', st', back⟩ := st.sub [0] (by decide) (by simp)
        (try simp only [nsl, Value.cells, unB] at st')
        refine (roleGet_c st' (by omega)).mono ?_
        clear st'
        intro en w hen
        unfold RdC at hen
        cases hr : rdRole zs with
        | error e =>
          rw [hr] at hen
          obtain ⟨rfl, st'⟩ := hen
          replace st := back _ _ (by simp) st'
          clear back st'
          (try simp only [nsl, Value.cells, unB] at st)
          (try clear hc); have hc := st.facts; (try simp only [nfl, nft, Nat.reduceAdd] at hc)
          have H1 : Hid (rdCred xs = .error e) := Lib.hid (by simp [rdCred, HR0.out, HR1.out, hr, bd])
          clear hr
          go_wp2_with fail
          refine ⟨rfl, ?_⟩
          unfold RdC
          rw [H1.out]
          have st' := st.keep [0] (by decide) (by simp)
          exact ⟨rfl, by simpa [pick] using st'⟩
        | ok p =>
          obtain ⟨⟨bo, bd'⟩, us⟩ := p
          rw [hr] at hen
          obtain ⟨v, M, rfl, ⟨rfl, rfl⟩, st'⟩ := hen
          replace st := back _ _ (by simp) st'
          clear back st'
          (try simp only [nsl, Value.cells, unB] at st)
          (try clear hc); have hc := st.facts; (try simp only [nfl, nft, Nat.reduceAdd] at hc)
          have hl2 := rdRole_le hr
          have hl2b := roleR_len hl2.2
          have HR2 := Lib.hid hr
          clear hr
          simp only at hl2b
          unfold rV S
          go_wp2_with ((((with_reducible refine wl_store ?_ (fun K hK => ?_)); rfl; refine owp_store rfl st ?_; apply Exists.intro; apply Exists.intro; refine ⟨?_, ?_, ?_⟩; (focus (go_simp; try rfl)); (focus (go_simp; try rfl)); (with_reducible refine ⟨2, _, _, _, _, get2, rfl, rfl, ?_, ?_, ?_, ?_⟩); (kernel_rfl); (simp [Value.cells]); (rfl); (clear st; intro w st))); (try simp only [nsl, Value.cells, unB] at st); (try clear hc); have hc := st.facts; (try simp only [nfl, nft, Nat.reduceAdd] at hc))
          obtain ⟨fr', al', st', back⟩ := st.sub [0] (by decide) (by simp)
          (try simp only [nsl, Value.cells, unB] at st')
          refine (roleGet_c st' (by omega)).mono ?_
          clear st'
          intro en w hen
          unfold RdC at hen
          cases hr : rdRole us with
          | error e =>
            rw [hr] at hen
            obtain ⟨rfl, st'⟩ := hen
            replace st := back _ _ (by simp) st'
            clear back st'
            (try simp only [nsl, Value.cells, unB] at st)
            (try clear hc); have hc := st.facts; (try simp only [nfl, nft, Nat.reduceAdd] at hc)
            have H1 : Hid (rdCred xs = .error e) := Lib.hid (by simp [rdCred, HR0.out, HR1.out, HR2.out, hr, bd])
            clear hr
            go_wp2_with fail
            refine ⟨rfl, ?_⟩
            unfold RdC
            rw [H1.out]
            have st' := st.keep [0] (by decide) (by simp)
            exact ⟨rfl, by simpa [pick] using st'⟩
          | ok p =>
            obtain ⟨⟨co, cd⟩, vs⟩ := p
            rw [hr] at hen
            obtain ⟨v, M, rfl, ⟨rfl, rfl⟩, st'⟩ := hen
            replace st := back _ _ (by simp) st'
            clear back st'
            (try simp only [nsl, Value.cells, unB] at st)
            (try clear hc); have hc := st.facts; (try simp only [nfl, nft, Nat.reduceAdd] at hc)
            have hl3 := rdRole_le hr
            have hl3b := roleR_len hl3.2
            have HR3 := Lib.hid hr
            clear hr
            simp only at hl3b
            unfold rV S
            have HQ := Lib.hid (fun W => credRight_any ⟨4, (ho, hd), [], (bo, bd'), (co, cd), []⟩ W (by simp only [List.length_nil]; omega))
            unfold cV S at HQ
            simp only [nR] at HQ
            go_wp2_with ((((with_reducible refine wl_store ?_ (fun K hK => ?_)); rfl; refine owp_store rfl st ?_; apply Exists.intro; apply Exists.intro; refine ⟨?_, ?_, ?_⟩; (focus (go_simp; try rfl)); (focus (go_simp; try rfl)); (with_reducible refine ⟨2, _, _, _, _, get2, rfl, rfl, ?_, ?_, ?_, ?_⟩); (kernel_rfl); (simp [Value.cells]); (rfl); (clear st; intro w st))); (try simp only [nsl, Value.cells, unB] at st); (try clear hc); have hc := st.facts; (try simp only [nfl, nft, Nat.reduceAdd] at hc))
            refine (HQ.out _).mono ?_
            rintro en w ⟨rfl, hx⟩
            replace st := st.ext hx
            clear hx
            (try clear hc); have hc := st.facts; (try simp only [nfl, nft, Nat.reduceAdd] at hc)
            cases hcr : credR ⟨4, (ho, hd), [], (bo, bd'), (co, cd), []⟩ with
            | true =>
              have H1 : Hid (rdCred xs = .ok (⟨4, (ho, hd), [], (bo, bd'), (co, cd), []⟩, vs)) := Lib.hid (by simp [rdCred, HR0.out, HR1.out, HR2.out, HR3.out, bd, okCr, nR, hcr])
              clear hcr HQ
              go_wp2_with ((((with_reducible refine wl_store ?_ (fun K hK => ?_)); rfl; refine owp_store rfl st ?_; apply Exists.intro; apply Exists.intro; refine ⟨?_, ?_, ?_⟩; (focus (go_simp; try rfl)); (focus (go_simp; try rfl)); (with_reducible refine ⟨1, _, _, _, _, get1, rfl, rfl, ?_, ?_, ?_, ?_⟩); (kernel_rfl); (simp [Value.cells]); (rfl); (clear st; intro w st))); (try simp only [nsl, Value.cells, unB] at st); (try clear hc); have hc := st.facts; (try simp only [nfl, nft, Nat.reduceAdd] at hc))
              (try simp only [Exit.inBlock, Exit.then])
              refine bodyPost_cell rfl rfl (st.blk (i := 1) get1) Tryz.underlying47 rfl (by kernel_rfl) rfl ?_
              unfold RdC
              rw [H1.out]
              have st' := st.keep [0] (by decide) (by simp)
              exact ⟨_, [], rfl, ⟨rfl, rfl⟩, by simpa [pick] using st'⟩
            | false =>
              have H1 : Hid (rdCred xs = .error 11) := Lib.hid (by simp [rdCred, HR0.out, HR1.out, HR2.out, HR3.out, bd, okCr, nR, hcr])
              clear hcr HQ
              obtain ⟨_, sq, ⟨_, hrd⟩, _⟩ := st.get (i := 0) (I := rdI r vs) get0
              have HRD := Lib.hid hrd.any
              clear hrd
              go_wp2_with fail
              refine (fail_any _ r 11 HRD.out (by decide)).mono ?_
              rintro en w' ⟨rfl, rfl⟩
              go_wp2_with fail
              refine ⟨rfl, ?_⟩
              unfold RdC
              rw [H1.out]
              have st' := (st.rdAny (i := 0) get0).keep [0] (by decide) (by simp)
              exact ⟨rfl, by simpa [pick] using st'⟩
    | n + 5, HR0 =>
      have H1 : Hid (rdCred xs = .error 11) := Lib.hid (by simp [rdCred, HR0.out, bd])
      go_wp2_with ((first
            | ((with_reducible refine wl_alloc ?_ (fun K hK => ?_)); rfl; refine owp_alloc (o := ⟨some 3, _, _, _, _, _⟩) rfl st ?_; apply Exists.intro; apply Exists.intro; refine ⟨?_, ?_⟩; (focus (first | (go_simp; done) | (go_simp; rfl))); (clear st; intro b3 w hb st; clear hb))
            | ((with_reducible refine wl_store ?_ (fun K hK => ?_)); rfl; refine owp_store rfl st ?_; apply Exists.intro; apply Exists.intro; refine ⟨?_, ?_, ?_⟩; (focus (go_simp; try rfl)); (focus (go_simp; try rfl)); (with_reducible refine ⟨2, _, _, _, _, get2, rfl, rfl, ?_, ?_, ?_, ?_⟩); (kernel_rfl); (simp [Value.cells]); (rfl); (clear st; intro w st))); (try simp only [nsl, Value.cells, unB] at st); (try clear hc); have hc := st.facts; (try simp only [nfl, nft, Nat.reduceAdd] at hc))
      obtain ⟨_, sq, ⟨_, hrd⟩, _⟩ := st.get (i := 0) (I := rdI r ys) get0
      have HRD := Lib.hid hrd.any
      clear hrd
      go_wp2_with fail
      refine (fail_any _ r 11 HRD.out (by decide)).mono ?_
      rintro en w' ⟨rfl, rfl⟩
      go_wp2_with fail
      refine ⟨rfl, ?_⟩
      unfold RdC
      rw [H1.out]
      have st' := (st.rdAny (i := 0) get0).keep [0] (by decide) (by simp)
      exact ⟨rfl, by simpa [pick] using st'⟩
end Go.Proofs.YtekngjkjgmplpaaGreat

namespace Go.Proofs.YtekngjkjgmplpaaGreat
set_option linter.unusedSimpArgs false
set_option linter.unusedVariables false
open Go Go.RowKit
end Go.Proofs.YtekngjkjgmplpaaGreat

namespace Go.Proofs.YtekngjkjgmplpaaGreat
set_option linter.unusedSimpArgs false
set_option linter.unusedVariables false
open Go Go.RowKit
set_option maxRecDepth 100000 in
set_option maxHeartbeats 1000000 in
theorem credGreat_any (a : Option Addr) (n c : Nat) (l : List CredT) (W : World) (h : Fl W a n l) (hw : weightC l ≤ 2000000000) :
    Calls Tryz.prog 16 #[.slice a n c] W fun e w' => e = .returned (.int .i64 (weightC l : Int)) ∧ Ext W w' := by
  have hnw : n ≤ 2000000000 := by have := weightC_len l; have := h.1; omega
  have H := Lib.hid h
  have HN := Lib.hid (And.intro h.1 hw)
  have st := Own.startOld W
  clear h hw
  (try simp only [nsl, Value.cells, unB] at st)
  (try clear hc); have hc := st.facts; (try simp only [nfl, nft, Nat.reduceAdd] at hc)
  go_enter Tryz.func16, Tryz.ntmps16
  go_wp2_with fail
  go_loopg [3, 8] n (fun k v i wr => ∃ (j q : Nat), j ≤ n ∧ k = n - j ∧ q ≤ 2000000000 ∧ Hid (q = weightC (l.take j)) ∧ i = .int .i64 (j : Int) ∧ v = .int .i64 (q : Int) ∧ Own (fun _ => False) (fun _ => True) W [oldI W] wr)
  case atStart => exact ⟨0, 0, by omega, by omega, by omega, Lib.hid (by simp [weightC]), rfl, rfl, st⟩
  case round =>
    obtain ⟨j, q, hj, rfl, hq, HQ, rfl, rfl, st'⟩ := hrel
    clear st hc
    have st := st'
    clear st'
    (try simp only [nsl, Value.cells, unB] at st)
    (try clear hc); have hc := st.facts; (try simp only [nfl, nft, Nat.reduceAdd] at hc)
    by_cases hjn : j < n
    · obtain ⟨b, off, ha, hcell⟩ := H.out.cred (by omega)
      have hjl : j < l.length := by have := HN.out.1; omega
      have hcc := hcell j l[j] (List.getElem?_eq_getElem hjl)
      obtain ⟨r0, r1, r2, r3, r4, r5, r6, r7, r8⟩ := hcc
      replace r0 := st.oldCell (i := 0) get0 r0
      replace r1 := st.oldCell (i := 0) get0 r1
      replace r2 := st.oldCell (i := 0) get0 r2
      replace r3 := st.oldCell (i := 0) get0 r3
      replace r4 := st.oldCell (i := 0) get0 r4
      replace r5 := st.oldCell (i := 0) get0 r5
      replace r6 := st.oldCell (i := 0) get0 r6
      replace r7 := st.oldCell (i := 0) get0 r7
      replace r8 := st.oldCell (i := 0) get0 r8
      have hts : l.take (j + 1) = l.take j ++ [l[j]] := (List.take_append_getElem hjl).symm
      have hw1 := weightC_take l (j + 1)
      rw [hts, weightC_snoc, ← HQ.out] at hw1
      have hw2 : q + wtC l[j] ≤ 2000000000 := by have := HN.out.2; omega
      have HX : Hid (q + wtC l[j] = weightC (l.take (j + 1))) := Lib.hid (by rw [hts, weightC_snoc, ← HQ.out])
      clear hcell hts hw1
      generalize l[j] = x at *
      clear hjl
      subst ha
      unfold S at r1 r2 r3 r4 r5 r6 r7 r8
      have hszz : ∀ s : List UInt8, (⟨s.toArray⟩ : ByteArray).size = s.length := fun s => by simp [ByteArray.size]
      have HW : Hid (wtC x = 20 + x.h.1.length + x.h.2.length + x.w.length + x.b.1.length + x.b.2.length + x.c.1.length + x.c.2.length + x.e.length) := Lib.hid rfl
      have hw3 : q + (20 + x.h.1.length + x.h.2.length + x.w.length + x.b.1.length + x.b.2.length + x.c.1.length + x.c.2.length + x.e.length) ≤ 2000000000 := by rw [← HW.out]; exact hw2
      clear hw2
      go_wp2_with ((first
            | ((with_reducible refine wl_alloc ?_ (fun K hK => ?_)); rfl; refine owp_alloc (o := ⟨some 5, _, _, _, _, _⟩) rfl st ?_; apply Exists.intro; apply Exists.intro; refine ⟨?_, ?_⟩; (focus (first | (go_simp; done) | (go_simp; rfl))); (clear st; intro b5 w hb st; clear hb))
            | ((with_reducible refine wl_store ?_ (fun K hK => ?_)); rfl; refine owp_store rfl st ?_; apply Exists.intro; apply Exists.intro; refine ⟨?_, ?_, ?_⟩; (focus (go_simp; try rfl)); (focus (go_simp; try rfl)); (first | (with_reducible refine ⟨0, _, _, _, _, get0, rfl, rfl, ?_, ?_, ?_, ?_⟩) | (with_reducible refine ⟨1, _, _, _, _, get1, rfl, rfl, ?_, ?_, ?_, ?_⟩) | (with_reducible refine ⟨2, _, _, _, _, get2, rfl, rfl, ?_, ?_, ?_, ?_⟩) | (with_reducible refine ⟨3, _, _, _, _, get3, rfl, rfl, ?_, ?_, ?_, ?_⟩) | (with_reducible refine ⟨4, _, _, _, _, get4, rfl, rfl, ?_, ?_, ?_, ?_⟩) | (with_reducible refine ⟨5, _, _, _, _, get5, rfl, rfl, ?_, ?_, ?_, ?_⟩)); (kernel_rfl); (simp [Value.cells]); (rfl); (clear st; intro w st))); (try simp only [nsl, Value.cells, unB] at st); (try clear hc); have hc := st.facts; (try simp only [nfl, nft, Nat.reduceAdd] at hc))
      have st' := st.keep [0] (by decide) (by simp)
      go_roundg (n - (j + 1))
      case measure => omega
      case rel => exact ⟨j + 1, q + (20 + x.h.1.length + x.h.2.length + x.w.length + x.b.1.length + x.b.2.length + x.c.1.length + x.c.2.length + x.e.length), by omega, rfl, hw3, by rw [← HW.out]; exact HX, by go_num, by go_num, by simpa [pick] using st'⟩
    · obtain rfl : j = n := by omega
      have htk : weightC l = q := by rw [HQ.out, List.take_of_length_le (by have := HN.out.1; omega)]
      have HE := Lib.hid htk
      clear htk
      go_wp2_with fail
      go_ret
      exact ⟨by rw [HE.out]; rfl, st.ext0⟩
end Go.Proofs.YtekngjkjgmplpaaGreat

namespace Go.Proofs.YtekngjkjgmplpaaGreat
set_option linter.unusedSimpArgs false
set_option linter.unusedVariables false
open Go Go.RowKit
set_option maxRecDepth 100000 in
set_option maxHeartbeats 1000000 in
theorem cfirstGet_c {fr al : Nat → Prop} {w : World} {r b : Nat} {xs : List UInt8} (z : CredT) (st : Own fr al w [rdI r xs, blkI b (cC z)] w) (hl : xs.length ≤ 100000) :
    Calls Tryz.prog 50 #[.pointer (some ⟨r, 0, none⟩), .pointer (some ⟨b, 0, none⟩)] w (GetPost fr al w r b (rdCred xs) (cC z) cC) := by
  go_enter Tryz.func50, Tryz.ntmps50
  go_wp2_with fail
  obtain ⟨fr', al', st', back⟩ := st.sub [0] (by decide) (by simp)
  (try simp only [nsl, Value.cells, unB] at st')
  refine (credGet_c st' hl).mono ?_
  clear st'
  intro en w hen
  unfold RdC at hen
  cases hr : rdCred xs with
  | error e =>
    rw [hr] at hen
    obtain ⟨rfl, st'⟩ := hen
    replace st := back _ _ (by simp) st'
    clear back st'
    (try simp only [nsl, Value.cells, unB] at st)
    (try clear hc); have hc := st.facts; (try simp only [nfl, nft, Nat.reduceAdd] at hc)
    have HR := Lib.hid hr
    clear hr
    go_wp2_with fail
    refine ⟨rfl, ?_⟩
    unfold GetPost
    (try rw [HR.out])
    exact ⟨rfl, st⟩
  | ok p =>
    obtain ⟨x, ys⟩ := p
    rw [hr] at hen
    obtain ⟨v, M, rfl, ⟨rfl, rfl⟩, st'⟩ := hen
    replace st := back _ _ (by simp) st'
    clear back st'
    (try simp only [nsl, Value.cells, unB] at st)
    (try clear hc); have hc := st.facts; (try simp only [nfl, nft, Nat.reduceAdd] at hc)
    have HR := Lib.hid hr
    clear hr
    unfold cC at st
    unfold cV S
    (try simp only [nsl, Value.cells, unB] at st)
    (try clear hc); have hc := st.facts; (try simp only [nfl, nft, Nat.reduceAdd] at hc)
    go_wp2_with ((((with_reducible refine wl_store ?_ (fun K hK => ?_)); rfl; refine owp_store rfl st ?_; apply Exists.intro; apply Exists.intro; refine ⟨?_, ?_, ?_⟩; (focus (go_simp; try rfl)); (focus (go_simp; try rfl)); (first | (with_reducible refine ⟨0, _, _, _, _, get0, rfl, rfl, ?_, ?_, ?_, ?_⟩) | (with_reducible refine ⟨1, _, _, _, _, get1, rfl, rfl, ?_, ?_, ?_, ?_⟩) | (with_reducible refine ⟨2, _, _, _, _, get2, rfl, rfl, ?_, ?_, ?_, ?_⟩) | (with_reducible refine ⟨3, _, _, _, _, get3, rfl, rfl, ?_, ?_, ?_, ?_⟩) | (with_reducible refine ⟨4, _, _, _, _, get4, rfl, rfl, ?_, ?_, ?_, ?_⟩) | (with_reducible refine ⟨5, _, _, _, _, get5, rfl, rfl, ?_, ?_, ?_, ?_⟩)); (kernel_rfl); (simp [Value.cells]); (rfl); (clear st; intro w st))); (try simp only [nsl, Value.cells, unB] at st); (try clear hc); have hc := st.facts; (try simp only [nfl, nft, Nat.reduceAdd] at hc))
    go_end0
    unfold GetPost
    (try rw [HR.out])
    exact ⟨rfl, by simpa [S, cC] using st⟩
end Go.Proofs.YtekngjkjgmplpaaGreat

namespace Go.Proofs.YtekngjkjgmplpaaGreat
set_option linter.unusedSimpArgs false
set_option linter.unusedVariables false
open Go Go.RowKit
theorem penBytesRow_c {fr al : Nat → Prop} {w : World} {p : Nat} {xs : List UInt8} (st : Own fr al w [penI p xs] w) (hl : xs.length ≤ 100000000000000) :
    Calls Tryz.prog 44 #[.pointer (some ⟨p, 0, none⟩)] w fun e w' => ∃ a c, e = .returned (.slice a xs.length c) ∧ (xs.length ≤ c ∧ c ≤ maxLen) ∧ Own fr al w [penI p xs, rowI 5 1 (.slice a xs.length c) xs.length (xs.map B)] w' := by
  obtain ⟨g, hp⟩ := st.pen (i := 0) rfl
  refine (penBytes_own p g xs w hp hl).mono ?_
  rintro e w' ⟨v, rfl, h, hx⟩
  obtain ⟨a, m, c, rfl, h1, h2, h3⟩ := own_by h
  obtain rfl : m = xs.length := h3.1
  refine ⟨a, c, rfl, ⟨h1, h2⟩, ?_⟩
  have := st.new (I := rowI 5 1 (.slice a xs.length c) xs.length (xs.map B)) hx (e' := fun b => (Value.slice a xs.length c).ownBlock = some b) (s' := fun _ => False) ⟨h.mono (Nat.zero_le _), fun k hk => hk⟩ (fun b hb => ⟨(h.lt b hb).2, (h.lt b hb).1⟩) (fun _ q => q.elim) (fun _ _ q => q)
  simpa using this
theorem FreshI.by {w w' : World} {a : Option Addr} {n c : Nat} {xs : List UInt8} (h : FreshI w w' (rowI 5 1 (.slice a n c) n (xs.map B))) : (n ≤ c ∧ c ≤ maxLen) ∧ By w' a n xs := by
  obtain ⟨_, e, ⟨h1, _⟩, _⟩ := h
  obtain ⟨a', m, c', hv, h2, h3, h4⟩ := own_by h1
  injection hv with q1 q2 q3
  subst q1 q2 q3
  exact ⟨⟨h2, h3⟩, h4⟩
theorem Own.rowBy {fr al : Nat → Prop} {w0 w : World} {L : List It} (st : Own fr al w0 L w) {i : Nat} {a : Option Addr} {n c : Nat} {xs : List UInt8} (hi : L[i]? = some (rowI 5 1 (.slice a n c) n (xs.map B))) : (n ≤ c ∧ c ≤ maxLen) ∧ By w a n xs := by
  obtain ⟨a', m, c', hv, h2, h3, h4⟩ := own_by (st.row hi)
  injection hv with q1 q2 q3
  subst q1 q2 q3
  exact ⟨⟨h2, h3⟩, h4⟩
theorem Own.rowFl3 {α : Type} [Flt α] {fr al : Nat → Prop} {w0 w : World} {L : List It} (st : Own fr al w0 L w) {i n c : Nat} {a : Option Addr} {E : TypeId} {xs : List α} (hi : L[i]? = some (rowI E (Flt.k α) (.slice a n c) n (cellsL xs))) : (n ≤ c ∧ c ≤ maxLen) ∧ Fl w a n xs := by
  obtain ⟨a1, c1, hv, hc1, hfl⟩ := st.rowFl hi
  injection hv with hv1 _ hv3
  subst hv1 hv3
  exact ⟨hc1, hfl⟩
set_option maxRecDepth 100000 in
set_option maxHeartbeats 1000000 in
theorem credBytes_f (x : CredT) (W : World) (hl : CredL 100000 x) :
    Calls Tryz.prog 24 #[cV x] W fun e w' => ∃ a n c, e = .returned (.slice a n c) ∧ FreshI W w' (rowI 5 1 (.slice a n c) n ((credBy x).map B)) := by
  have HR := Lib.hid (fun W => credRight_any x W (by unfold CredL at hl; omega))
  have HE := Lib.hid (show credBy x = if credR x = true then credB x else [] from rfl)
  generalize credBy x = r at *
  cases hr : credR x with
  | false =>
    have H := Lib.hid hr
    obtain ⟨k, ⟨ho, hd⟩, nw, ⟨bo, bd⟩, ⟨co, cd⟩, we⟩ := x
    clear hl hr
    have st := Own.startOld W
    unfold cV S at *
    simp only at HR
    (try simp only [nsl, Value.cells, unB] at st)
    (try clear hc); have hc := st.facts; (try simp only [nfl, nft, Nat.reduceAdd] at hc)
    go_enter Tryz.func24, Tryz.ntmps24
    go_wp2_with ((((with_reducible refine wl_box ?_ (fun K hK => ?_)); rfl; refine owp_box (o := ⟨some 1, _, _, _, _, _⟩) rfl st ?_; apply Exists.intro; refine ⟨?_, ?_⟩; (focus (go_simp; try rfl)); (clear st; intro b1 w hb st; clear hb))); (try simp only [nsl, Value.cells, unB] at st); (try clear hc); have hc := st.facts; (try simp only [nfl, nft, Nat.reduceAdd] at hc))
    refine (HR.out _).mono ?_
    rintro en w ⟨rfl, hx⟩
    replace st := st.ext hx
    clear hx
    (try clear hc); have hc := st.facts; (try simp only [nfl, nft, Nat.reduceAdd] at hc)
    rw [H.out]
    go_wp2_with fail
    go_ret
    exact ⟨none, 0, 0, rfl, by rw [HE.out, H.out]; exact (st.row_nil 5 1).toFresh (i := 2) get2⟩
  | true =>
    obtain ⟨hh, hcs⟩ := credR_cases hr
    have H := Lib.hid hr
    obtain ⟨k, ⟨ho, hd⟩, nw, ⟨bo, bd⟩, ⟨co, cd⟩, we⟩ := x
    simp only at hh hcs
    have hb1 := roleB_len hh
    have HH := Lib.hid hh
    clear hl hr hh
    have st := Own.startOld W
    unfold cV S at *
    simp only at HR
    (try simp only [nsl, Value.cells, unB] at st)
    (try clear hc); have hc := st.facts; (try simp only [nfl, nft, Nat.reduceAdd] at hc)
    rcases hcs with ⟨rfl, hw, -, -, -⟩ | ⟨-, hbr, ⟨rfl, -, -⟩ | ⟨rfl, -, -, he⟩ | ⟨rfl, -, hcr, -⟩⟩
    · have hl2 := (nameR_len hw).2
      have hb2 : (numB nw.length).length ≤ 10 := numF_len 10 nw.length
      have hnk : (numB 1).length = 1 := by decide +kernel
      have HW := Lib.hid hw
      clear hw
      go_enter Tryz.func24, Tryz.ntmps24
      go_wp2_with ((((with_reducible refine wl_box ?_ (fun K hK => ?_)); rfl; refine owp_box (o := ⟨some 1, _, _, _, _, _⟩) rfl st ?_; apply Exists.intro; refine ⟨?_, ?_⟩; (focus (go_simp; try rfl)); (clear st; intro b1 w hb st; clear hb))); (try simp only [nsl, Value.cells, unB] at st); (try clear hc); have hc := st.facts; (try simp only [nfl, nft, Nat.reduceAdd] at hc))
      refine (HR.out _).mono ?_
      rintro en w ⟨rfl, hx⟩
      replace st := st.ext hx
      clear hx
      (try clear hc); have hc := st.facts; (try simp only [nfl, nft, Nat.reduceAdd] at hc)
      rw [H.out]
      go_wp2_with ((((with_reducible refine wl_box ?_ (fun K hK => ?_)); rfl; refine owp_box (o := ⟨some 8, _, _, _, _, _⟩) rfl st ?_; apply Exists.intro; refine ⟨?_, ?_⟩; (focus (go_simp; try rfl)); (clear st; intro b8 w hb st; clear hb))); (try simp only [nsl, Value.cells, unB] at st); (try clear hc); have hc := st.facts; (try simp only [nfl, nft, Nat.reduceAdd] at hc))
      replace st := st.newPen (i := 2) get2
      (try simp only [nsl, Value.cells, unB] at st)
      (try clear hc); have hc := st.facts; (try simp only [nfl, nft, Nat.reduceAdd] at hc)
      obtain ⟨fr', al', st', back⟩ := st.sub [2] (by decide) (by simp)
      (try simp only [nsl, Value.cells, unB] at st')
      refine (penNumber_c st' 1 (by decide) (by simp)).mono ?_
      clear st'
      rintro en w ⟨rfl, st'⟩
      replace st := back _ _ (by simp) st'
      clear back st'
      (try simp only [nsl, Value.cells, unB] at st)
      (try clear hc); have hc := st.facts; (try simp only [nfl, nft, Nat.reduceAdd] at hc)
      go_wp2_with fail
      (try rw [List.nil_append] at st)
      obtain ⟨fr', al', st', back⟩ := st.sub [2] (by decide) (by simp)
      (try simp only [nsl, Value.cells, unB] at st')
      refine (rolePut_yes st' (ho, hd) HH.out (by omega)).mono ?_
      clear st'
      rintro en w ⟨rfl, st'⟩
      replace st := back _ _ (by simp) st'
      clear back st'
      (try simp only [nsl, Value.cells, unB] at st)
      (try clear hc); have hc := st.facts; (try simp only [nfl, nft, Nat.reduceAdd] at hc)
      go_wp2_with fail
      obtain ⟨fr', al', st', back⟩ := st.sub [2] (by decide) (by simp)
      (try simp only [nsl, Value.cells, unB] at st')
      refine (namePut_yes st' nw HW.out (by simp; omega)).mono ?_
      clear st'
      rintro en w ⟨rfl, st'⟩
      replace st := back _ _ (by simp) st'
      clear back st'
      (try simp only [nsl, Value.cells, unB] at st)
      (try clear hc); have hc := st.facts; (try simp only [nfl, nft, Nat.reduceAdd] at hc)
      obtain ⟨u, hu⟩ : ∃ u, (numB 1 ++ roleB (ho, hd) ++ (numB nw.length ++ nw)) = u := ⟨_, rfl⟩
      rw [hu] at st
      have HU : Hid (r = u) := Lib.hid (by rw [HE.out, if_pos H.out, ← hu]; simp [credB])
      have hul : u.length ≤ 300 := by rw [← hu]; simp; omega
      clear hu
      go_wp2_with fail
      obtain ⟨fr', al', st', back⟩ := st.sub [2] (by decide) (by simp)
      (try simp only [nsl, Value.cells, unB] at st')
      refine (penBytesRow_c st' (by omega)).mono ?_
      clear st'
      rintro en w ⟨pa, pc, rfl, hpc, st'⟩
      replace st := back _ _ (by simp) st'
      clear back st'
      (try simp only [nsl, Value.cells, unB] at st)
      (try clear hc); have hc := st.facts; (try simp only [nfl, nft, Nat.reduceAdd] at hc)
      go_wp2_with fail
      go_ret
      exact ⟨_, _, _, rfl, by rw [HU.out]; exact st.toFresh (i := 3) get3⟩
    · have hb2 := roleB_len hbr
      have HW := Lib.hid hbr
      have hnk : (numB 2).length = 1 := by decide +kernel
      clear hbr
      go_enter Tryz.func24, Tryz.ntmps24
      go_wp2_with ((((with_reducible refine wl_box ?_ (fun K hK => ?_)); rfl; refine owp_box (o := ⟨some 1, _, _, _, _, _⟩) rfl st ?_; apply Exists.intro; refine ⟨?_, ?_⟩; (focus (go_simp; try rfl)); (clear st; intro b1 w hb st; clear hb))); (try simp only [nsl, Value.cells, unB] at st); (try clear hc); have hc := st.facts; (try simp only [nfl, nft, Nat.reduceAdd] at hc))
      refine (HR.out _).mono ?_
      rintro en w ⟨rfl, hx⟩
      replace st := st.ext hx
      clear hx
      (try clear hc); have hc := st.facts; (try simp only [nfl, nft, Nat.reduceAdd] at hc)
      rw [H.out]
      go_wp2_with ((((with_reducible refine wl_box ?_ (fun K hK => ?_)); rfl; refine owp_box (o := ⟨some 8, _, _, _, _, _⟩) rfl st ?_; apply Exists.intro; refine ⟨?_, ?_⟩; (focus (go_simp; try rfl)); (clear st; intro b8 w hb st; clear hb))); (try simp only [nsl, Value.cells, unB] at st); (try clear hc); have hc := st.facts; (try simp only [nfl, nft, Nat.reduceAdd] at hc))
      replace st := st.newPen (i := 2) get2
      (try simp only [nsl, Value.cells, unB] at st)
      (try clear hc); have hc := st.facts; (try simp only [nfl, nft, Nat.reduceAdd] at hc)
      obtain ⟨fr', al', st', back⟩ := st.sub [2] (by decide) (by simp)
      (try simp only [nsl, Value.cells, unB] at st')
      refine (penNumber_c st' 2 (by decide) (by simp)).mono ?_
      clear st'
      rintro en w ⟨rfl, st'⟩
      replace st := back _ _ (by simp) st'
      clear back st'
      (try simp only [nsl, Value.cells, unB] at st)
      (try clear hc); have hc := st.facts; (try simp only [nfl, nft, Nat.reduceAdd] at hc)
      go_wp2_with fail
      (try rw [List.nil_append] at st)
      obtain ⟨fr', al', st', back⟩ := st.sub [2] (by decide) (by simp)
      (try simp only [nsl, Value.cells, unB] at st')
      refine (rolePut_yes st' (ho, hd) HH.out (by omega)).mono ?_
      clear st'
      rintro en w ⟨rfl, st'⟩
      replace st := back _ _ (by simp) st'
      clear back st'
      (try simp only [nsl, Value.cells, unB] at st)
      (try clear hc); have hc := st.facts; (try simp only [nfl, nft, Nat.reduceAdd] at hc)
      go_wp2_with fail
      obtain ⟨fr', al', st', back⟩ := st.sub [2] (by decide) (by simp)
      (try simp only [nsl, Value.cells, unB] at st')
      refine (rolePut_yes st' (bo, bd) HW.out (by simp; omega)).mono ?_
      clear st'
      rintro en w ⟨rfl, st'⟩
      replace st := back _ _ (by simp) st'
      clear back st'
      (try simp only [nsl, Value.cells, unB] at st)
      (try clear hc); have hc := st.facts; (try simp only [nfl, nft, Nat.reduceAdd] at hc)
      obtain ⟨u, hu⟩ : ∃ u, (numB 2 ++ roleB (ho, hd) ++ roleB (bo, bd)) = u := ⟨_, rfl⟩
      rw [hu] at st
      have HU : Hid (r = u) := Lib.hid (by rw [HE.out, if_pos H.out, ← hu]; simp [credB])
      have hul : u.length ≤ 300 := by rw [← hu]; simp; omega
      clear hu
      go_wp2_with fail
      obtain ⟨fr', al', st', back⟩ := st.sub [2] (by decide) (by simp)
      (try simp only [nsl, Value.cells, unB] at st')
      refine (penBytesRow_c st' (by omega)).mono ?_
      clear st'
      rintro en w ⟨pa, pc, rfl, hpc, st'⟩
      replace st := back _ _ (by simp) st'
      clear back st'
      (try simp only [nsl, Value.cells, unB] at st)
      (try clear hc); have hc := st.facts; (try simp only [nfl, nft, Nat.reduceAdd] at hc)
      go_wp2_with fail
      go_ret
      exact ⟨_, _, _, rfl, by rw [HU.out]; exact st.toFresh (i := 3) get3⟩
    · have hb2 := roleB_len hbr
      have HW := Lib.hid hbr
      have HN := Lib.hid he
      have hl2 := (nameR_len he).2
      have hb3 : (numB we.length).length ≤ 10 := numF_len 10 we.length
      have hnk : (numB 3).length = 1 := by decide +kernel
      clear hbr he
      go_enter Tryz.func24, Tryz.ntmps24
      go_wp2_with ((((with_reducible refine wl_box ?_ (fun K hK => ?_)); rfl; refine owp_box (o := ⟨some 1, _, _, _, _, _⟩) rfl st ?_; apply Exists.intro; refine ⟨?_, ?_⟩; (focus (go_simp; try rfl)); (clear st; intro b1 w hb st; clear hb))); (try simp only [nsl, Value.cells, unB] at st); (try clear hc); have hc := st.facts; (try simp only [nfl, nft, Nat.reduceAdd] at hc))
      refine (HR.out _).mono ?_
      rintro en w ⟨rfl, hx⟩
      replace st := st.ext hx
      clear hx
      (try clear hc); have hc := st.facts; (try simp only [nfl, nft, Nat.reduceAdd] at hc)
      rw [H.out]
      go_wp2_with ((((with_reducible refine wl_box ?_ (fun K hK => ?_)); rfl; refine owp_box (o := ⟨some 8, _, _, _, _, _⟩) rfl st ?_; apply Exists.intro; refine ⟨?_, ?_⟩; (focus (go_simp; try rfl)); (clear st; intro b8 w hb st; clear hb))); (try simp only [nsl, Value.cells, unB] at st); (try clear hc); have hc := st.facts; (try simp only [nfl, nft, Nat.reduceAdd] at hc))
      replace st := st.newPen (i := 2) get2
      (try simp only [nsl, Value.cells, unB] at st)
      (try clear hc); have hc := st.facts; (try simp only [nfl, nft, Nat.reduceAdd] at hc)
      obtain ⟨fr', al', st', back⟩ := st.sub [2] (by decide) (by simp)
      (try simp only [nsl, Value.cells, unB] at st')
      refine (penNumber_c st' 3 (by decide) (by simp)).mono ?_
      clear st'
      rintro en w ⟨rfl, st'⟩
      replace st := back _ _ (by simp) st'
      clear back st'
      (try simp only [nsl, Value.cells, unB] at st)
      (try clear hc); have hc := st.facts; (try simp only [nfl, nft, Nat.reduceAdd] at hc)
      go_wp2_with fail
      (try rw [List.nil_append] at st)
      obtain ⟨fr', al', st', back⟩ := st.sub [2] (by decide) (by simp)
      (try simp only [nsl, Value.cells, unB] at st')
      refine (rolePut_yes st' (ho, hd) HH.out (by omega)).mono ?_
      clear st'
      rintro en w ⟨rfl, st'⟩
      replace st := back _ _ (by simp) st'
      clear back st'
      (try simp only [nsl, Value.cells, unB] at st)
      (try clear hc); have hc := st.facts; (try simp only [nfl, nft, Nat.reduceAdd] at hc)
      go_wp2_with fail
      obtain ⟨fr', al', st', back⟩ := st.sub [2] (by decide) (by simp)
      (try simp only [nsl, Value.cells, unB] at st')
      refine (rolePut_yes st' (bo, bd) HW.out (by simp; omega)).mono ?_
      clear st'
      rintro en w ⟨rfl, st'⟩
      replace st := back _ _ (by simp) st'
      clear back st'
      (try simp only [nsl, Value.cells, unB] at st)
      (try clear hc); have hc := st.facts; (try simp only [nfl, nft, Nat.reduceAdd] at hc)
      go_wp2_with fail
      obtain ⟨fr', al', st', back⟩ := st.sub [2] (by decide) (by simp)
      (try simp only [nsl, Value.cells, unB] at st')
      refine (namePut_yes st' we HN.out (by simp; omega)).mono ?_
      clear st'
      rintro en w ⟨rfl, st'⟩
      replace st := back _ _ (by simp) st'
      clear back st'
      (try simp only [nsl, Value.cells, unB] at st)
      (try clear hc); have hc := st.facts; (try simp only [nfl, nft, Nat.reduceAdd] at hc)
      obtain ⟨u, hu⟩ : ∃ u, (numB 3 ++ roleB (ho, hd) ++ roleB (bo, bd) ++ (numB we.length ++ we)) = u := ⟨_, rfl⟩
      rw [hu] at st
      have HU : Hid (r = u) := Lib.hid (by rw [HE.out, if_pos H.out, ← hu]; simp [credB])
      have hul : u.length ≤ 300 := by rw [← hu]; simp; omega
      clear hu
      go_wp2_with fail
      obtain ⟨fr', al', st', back⟩ := st.sub [2] (by decide) (by simp)
      (try simp only [nsl, Value.cells, unB] at st')
      refine (penBytesRow_c st' (by omega)).mono ?_
      clear st'
      rintro en w ⟨pa, pc, rfl, hpc, st'⟩
      replace st := back _ _ (by simp) st'
      clear back st'
      (try simp only [nsl, Value.cells, unB] at st)
      (try clear hc); have hc := st.facts; (try simp only [nfl, nft, Nat.reduceAdd] at hc)
      go_wp2_with fail
      go_ret
      exact ⟨_, _, _, rfl, by rw [HU.out]; exact st.toFresh (i := 3) get3⟩
    · have hb2 := roleB_len hbr
      have hb3 := roleB_len hcr
      have HW := Lib.hid hbr
      have HN := Lib.hid hcr
      have hnk : (numB 4).length = 1 := by decide +kernel
      clear hbr hcr
      go_enter Tryz.func24, Tryz.ntmps24
      go_wp2_with ((((with_reducible refine wl_box ?_ (fun K hK => ?_)); rfl; refine owp_box (o := ⟨some 1, _, _, _, _, _⟩) rfl st ?_; apply Exists.intro; refine ⟨?_, ?_⟩; (focus (go_simp; try rfl)); (clear st; intro b1 w hb st; clear hb))); (try simp only [nsl, Value.cells, unB] at st); (try clear hc); have hc := st.facts; (try simp only [nfl, nft, Nat.reduceAdd] at hc))
      refine (HR.out _).mono ?_
      rintro en w ⟨rfl, hx⟩
      replace st := st.ext hx
      clear hx
      (try clear hc); have hc := st.facts; (try simp only [nfl, nft, Nat.reduceAdd] at hc)
      rw [H.out]
      go_wp2_with ((((with_reducible refine wl_box ?_ (fun K hK => ?_)); rfl; refine owp_box (o := ⟨some 8, _, _, _, _, _⟩) rfl st ?_; apply Exists.intro; refine ⟨?_, ?_⟩; (focus (go_simp; try rfl)); (clear st; intro b8 w hb st; clear hb))); (try simp only [nsl, Value.cells, unB] at st); (try clear hc); have hc := st.facts; (try simp only [nfl, nft, Nat.reduceAdd] at hc))
      replace st := st.newPen (i := 2) get2
      (try simp only [nsl, Value.cells, unB] at st)
      (try clear hc); have hc := st.facts; (try simp only [nfl, nft, Nat.reduceAdd] at hc)
      obtain ⟨fr', al', st', back⟩ := st.sub [2] (by decide) (by simp)
      (try simp only [nsl, Value.cells, unB] at st')
      refine (penNumber_c st' 4 (by decide) (by simp)).mono ?_
      clear st'
      rintro en w ⟨rfl, st'⟩
      replace st := back _ _ (by simp) st'
      clear back st'
      (try simp only [nsl, Value.cells, unB] at st)
      (try clear hc); have hc := st.facts; (try simp only [nfl, nft, Nat.reduceAdd] at hc)
      go_wp2_with fail
      (try rw [List.nil_append] at st)
      obtain ⟨fr', al', st', back⟩ := st.sub [2] (by decide) (by simp)
      (try simp only [nsl, Value.cells, unB] at st')
      refine (rolePut_yes st' (ho, hd) HH.out (by omega)).mono ?_
      clear st'
      rintro en w ⟨rfl, st'⟩
      replace st := back _ _ (by simp) st'
      clear back st'
      (try simp only [nsl, Value.cells, unB] at st)
      (try clear hc); have hc := st.facts; (try simp only [nfl, nft, Nat.reduceAdd] at hc)
      go_wp2_with fail
      obtain ⟨fr', al', st', back⟩ := st.sub [2] (by decide) (by simp)
      (try simp only [nsl, Value.cells, unB] at st')
      refine (rolePut_yes st' (bo, bd) HW.out (by simp; omega)).mono ?_
      clear st'
      rintro en w ⟨rfl, st'⟩
      replace st := back _ _ (by simp) st'
      clear back st'
      (try simp only [nsl, Value.cells, unB] at st)
      (try clear hc); have hc := st.facts; (try simp only [nfl, nft, Nat.reduceAdd] at hc)
      go_wp2_with fail
      obtain ⟨fr', al', st', back⟩ := st.sub [2] (by decide) (by simp)
      (try simp only [nsl, Value.cells, unB] at st')
      refine (rolePut_yes st' (co, cd) HN.out (by simp; omega)).mono ?_
      clear st'
      rintro en w ⟨rfl, st'⟩
      replace st := back _ _ (by simp) st'
      clear back st'
      (try simp only [nsl, Value.cells, unB] at st)
      (try clear hc); have hc := st.facts; (try simp only [nfl, nft, Nat.reduceAdd] at hc)
      obtain ⟨u, hu⟩ : ∃ u, (numB 4 ++ roleB (ho, hd) ++ roleB (bo, bd) ++ roleB (co, cd)) = u := ⟨_, rfl⟩
      rw [hu] at st
      have HU : Hid (r = u) := Lib.hid (by rw [HE.out, if_pos H.out, ← hu]; simp [credB])
      have hul : u.length ≤ 300 := by rw [← hu]; simp; omega
      clear hu
      go_wp2_with fail
      obtain ⟨fr', al', st', back⟩ := st.sub [2] (by decide) (by simp)
      (try simp only [nsl, Value.cells, unB] at st')
      refine (penBytesRow_c st' (by omega)).mono ?_
      clear st'
      rintro en w ⟨pa, pc, rfl, hpc, st'⟩
      replace st := back _ _ (by simp) st'
      clear back st'
      (try simp only [nsl, Value.cells, unB] at st)
      (try clear hc); have hc := st.facts; (try simp only [nfl, nft, Nat.reduceAdd] at hc)
      go_wp2_with fail
      go_ret
      exact ⟨_, _, _, rfl, by rw [HU.out]; exact st.toFresh (i := 3) get3⟩
end Go.Proofs.YtekngjkjgmplpaaGreat

namespace Go.Proofs.YtekngjkjgmplpaaGreat
set_option linter.unusedSimpArgs false
set_option linter.unusedVariables false
open Go Go.RowKit
theorem rdCred_put {x : CredT} (h : credR x = true) : rdCred (credB x) = .ok (x, []) := by
  obtain ⟨h1, hc⟩ := credR_cases h
  obtain ⟨k, hh, w, b, c, e⟩ := x
  simp only at h1 hc
  have hn : ∀ (k : Nat) (ys : List UInt8), k ≤ 4 → rdNumber 9223372036854775807 (numB k ++ ys) = .ok (k, ys) := fun k ys hk => rdNumber_put 9223372036854775807 k ys (by omega) (by decide)
  rcases hc with ⟨rfl, q1, rfl, rfl, rfl⟩ | ⟨rfl, q2, ⟨rfl, rfl, rfl⟩ | ⟨rfl, rfl, _, q5⟩ | ⟨rfl, rfl, q5, _⟩⟩
  · have e0 : credB ⟨1, hh, w, nR, nR, []⟩ = numB 1 ++ (roleB hh ++ (numB w.length ++ w ++ [])) := by simp [credB]
    unfold rdCred
    rw [e0, hn 1 _ (by decide), bd_ok, if_neg (by decide), rdRole_puts hh _ h1, bd_ok, if_pos rfl, rdName_put w [] q1, bd_ok, okCr, if_pos h]
  · have e0 : credB ⟨2, hh, [], b, nR, []⟩ = numB 2 ++ (roleB hh ++ (roleB b ++ [])) := by simp [credB]
    unfold rdCred
    rw [e0, hn 2 _ (by decide), bd_ok, if_neg (by decide), rdRole_puts hh _ h1, bd_ok, if_neg (by decide), rdRole_puts b _ q2, bd_ok, if_pos rfl, okCr, if_pos h]
  · have e0 : credB ⟨3, hh, [], b, nR, e⟩ = numB 3 ++ (roleB hh ++ (roleB b ++ (numB e.length ++ e ++ []))) := by simp [credB]
    unfold rdCred
    rw [e0, hn 3 _ (by decide), bd_ok, if_neg (by decide), rdRole_puts hh _ h1, bd_ok, if_neg (by decide), rdRole_puts b _ q2, bd_ok, if_neg (by decide), if_pos rfl, rdName_put e [] q5, bd_ok, okCr, if_pos h]
  · have e0 : credB ⟨4, hh, [], b, c, []⟩ = numB 4 ++ (roleB hh ++ (roleB b ++ (roleB c ++ []))) := by simp [credB]
    unfold rdCred
    rw [e0, hn 4 _ (by decide), bd_ok, if_neg (by decide), rdRole_puts hh _ h1, bd_ok, if_neg (by decide), rdRole_puts b _ q2, bd_ok, if_neg (by decide), if_neg (by decide), rdRole_puts c _ q5, bd_ok, okCr, if_pos h]
theorem credSet_is (l out : List CredT) (h : out.Pairwise (fun x y => credLt x y = true) ∧ (∀ x ∈ out, x ∈ l ∧ credR x = true) ∧ ∀ x ∈ l, credR x = true → x ∈ out) : credSet l = out :=
  (credSet_set l).uniq credOrd ⟨h.1, fun x => ⟨h.2.1 x, fun q => h.2.2 x q.1 q.2⟩⟩
def cS1 : List UInt8 := [115, 104, 111, 112, 46, 100, 101, 97, 108, 32, 60, 45, 32, 115, 104, 111, 112, 46, 112, 97, 114, 116, 110, 101, 114, 46, 109, 101, 109, 98, 101, 114]
def cS2 : List UInt8 := [97, 46, 114, 32, 60, 45, 32, 98, 111, 98]
def cS3 : List UInt8 := [97, 46, 114, 32, 60, 45, 32, 99, 46, 116, 32, 38, 32, 98, 46, 115]
def cX : CredT := ⟨3, ([115, 104, 111, 112], [100, 101, 97, 108]), [], ([115, 104, 111, 112], [112, 97, 114, 116, 110, 101, 114]), ([], []), [109, 101, 109, 98, 101, 114]⟩
def dX : CredT := ⟨1, ([97], [114]), [98, 111, 98], ([], []), ([], []), []⟩
theorem cp1 : refP cS1 = some cX := by decide +kernel
theorem cp2 : refP cS2 = some dX := by decide +kernel
theorem cp3 : refP cS3 = none := by decide +kernel
theorem cs0 : credSet [cX, dX, cX] = [dX, cX] := credSet_is _ _ (by decide +kernel)
theorem cr2 : credR dX = true := by decide +kernel
theorem cb2 : credBy dX = [1, 1, 97, 1, 114, 3, 98, 111, 98] := by decide +kernel
theorem ct2 : credTy dX = cS2 := by decide +kernel
theorem ro1 : (credRo cX).length = 2 := by decide +kernel
theorem rd2 : rdCred [1, 1, 97, 1, 114, 3, 98, 111, 98] = .ok (dX, []) := by
  have := rdCred_put cr2
  rwa [show credB dX = [1, 1, 97, 1, 114, 3, 98, 111, 98] from by decide +kernel] at this
theorem cXL : CredL 100000 cX := by unfold CredL; decide
theorem dXL : CredL 100000 dX := by unfold CredL; decide
set_option maxRecDepth 100000 in
set_option maxHeartbeats 4000000 in
theorem credFirst_any (W : World) (hg : Glob W) : Calls Tryz.prog 15 #[] W fun e w' => e = .returned (.bool true) ∧ Ext W w' := by
  have hg1 := Lib.hid hg
  clear hg
  have st := Own.startOld W
  have HP1 := Lib.hid (fun W => credParse_any cS1 W (by decide))
  have HP2 := Lib.hid (fun W => credParse_any cS2 W (by decide))
  have HP3 := Lib.hid (fun W => credParse_any cS3 W (by decide))
  unfold refP1 at HP1 HP2 HP3
  rw [cp1] at HP1
  rw [cp2] at HP2
  rw [cp3] at HP3
  have HB := Lib.hid (fun W => credBytes_f dX W dXL)
  obtain ⟨u, hu⟩ : ∃ u, credBy dX = u := ⟨_, rfl⟩
  rw [hu] at HB
  have HU : Hid (u = [1, 1, 97, 1, 114, 3, 98, 111, 98]) := Lib.hid (hu.symm.trans cb2)
  have hul : u.length = 9 := by rw [HU.out]; rfl
  have HRU : Hid (rdCred u = .ok (dX, [])) := Lib.hid (by rw [HU.out]; exact rd2)
  clear hu
  unfold cV S cX cS1 at HP1
  unfold cV S dX cS2 at HP2
  unfold cV S zC cS3 at HP3
  unfold cV S dX at HB
  (try simp only [nsl, Value.cells, unB] at st)
  (try clear hc); have hc := st.facts; (try simp only [nfl, nft, Nat.reduceAdd] at hc)
  go_enter Tryz.func15, Tryz.ntmps15
  go_wp2_with ((first
        | ((with_reducible refine wl_alloc ?_ (fun K hK => ?_)); rfl; refine owp_alloc (o := ⟨some 1, _, _, _, _, _⟩) rfl st ?_; apply Exists.intro; apply Exists.intro; refine ⟨?_, ?_⟩; (focus (first | (go_simp; done) | (go_simp; rfl))); (clear st; intro b1 w hb st; clear hb))
        | ((with_reducible refine wl_store ?_ (fun K hK => ?_)); rfl; refine owp_store rfl st ?_; apply Exists.intro; apply Exists.intro; refine ⟨?_, ?_, ?_⟩; (focus (go_simp; try rfl)); (focus (go_simp; try rfl)); (first | (with_reducible refine ⟨0, _, _, _, _, get0, rfl, rfl, ?_, ?_, ?_, ?_⟩) | (with_reducible refine ⟨1, _, _, _, _, get1, rfl, rfl, ?_, ?_, ?_, ?_⟩) | (with_reducible refine ⟨2, _, _, _, _, get2, rfl, rfl, ?_, ?_, ?_, ?_⟩) | (with_reducible refine ⟨3, _, _, _, _, get3, rfl, rfl, ?_, ?_, ?_, ?_⟩) | (with_reducible refine ⟨4, _, _, _, _, get4, rfl, rfl, ?_, ?_, ?_, ?_⟩) | (with_reducible refine ⟨5, _, _, _, _, get5, rfl, rfl, ?_, ?_, ?_, ?_⟩) | (with_reducible refine ⟨6, _, _, _, _, get6, rfl, rfl, ?_, ?_, ?_, ?_⟩) | (with_reducible refine ⟨7, _, _, _, _, get7, rfl, rfl, ?_, ?_, ?_, ?_⟩)); (kernel_rfl); (simp [Value.cells]); (rfl); (clear st; intro w st))
        | ((with_reducible refine wl_alloc ?_ (fun K hK => ?_)); rfl; refine owp_alloc (o := ⟨some 3, _, _, _, _, _⟩) rfl st ?_; apply Exists.intro; apply Exists.intro; refine ⟨?_, ?_⟩; (focus (first | (go_simp; done) | (go_simp; rfl))); (clear st; intro b3 w hb st; clear hb))
        | ((with_reducible refine wl_alloc ?_ (fun K hK => ?_)); rfl; refine owp_alloc (o := ⟨some 5, _, _, _, _, _⟩) rfl st ?_; apply Exists.intro; apply Exists.intro; refine ⟨?_, ?_⟩; (focus (first | (go_simp; done) | (go_simp; rfl))); (clear st; intro b5 w hb st; clear hb))
        | ((with_reducible refine wl_alloc ?_ (fun K hK => ?_)); rfl; refine owp_alloc (o := ⟨some 8, _, _, _, _, _⟩) rfl st ?_; apply Exists.intro; apply Exists.intro; refine ⟨?_, ?_⟩; (focus (first | (go_simp; done) | (go_simp; rfl))); (clear st; intro b8 w hb st; clear hb))
        | ((with_reducible refine wl_buildSlice ?_ (fun K hK => ?_)); rfl; refine owp_buildSlice (o := ⟨some 31, _, _, _, _, _⟩) rfl st ?_; apply Exists.intro; apply Exists.intro; apply Exists.intro; apply Exists.intro; refine ⟨?_, ?_⟩; (focus (go_simp; (first | done | exact ⟨⟨rfl, rfl⟩, rfl⟩ | rfl))); (clear st; intro b31 w hb st; clear hb))
        | ((with_reducible refine wl_convert ?_ (fun K hK => ?_)); rfl; (first | (refine owp_bs (o := ⟨some 53, _, _, _, _, _⟩) rfl st 0 get0 rfl Tryz.underlying26 Tryz.underlying5 Tryz.underlying9 ?_) | (refine owp_bs (o := ⟨some 53, _, _, _, _, _⟩) rfl st 1 get1 rfl Tryz.underlying26 Tryz.underlying5 Tryz.underlying9 ?_) | (refine owp_bs (o := ⟨some 53, _, _, _, _, _⟩) rfl st 2 get2 rfl Tryz.underlying26 Tryz.underlying5 Tryz.underlying9 ?_) | (refine owp_bs (o := ⟨some 53, _, _, _, _, _⟩) rfl st 3 get3 rfl Tryz.underlying26 Tryz.underlying5 Tryz.underlying9 ?_) | (refine owp_bs (o := ⟨some 53, _, _, _, _, _⟩) rfl st 4 get4 rfl Tryz.underlying26 Tryz.underlying5 Tryz.underlying9 ?_) | (refine owp_bs (o := ⟨some 53, _, _, _, _, _⟩) rfl st 5 get5 rfl Tryz.underlying26 Tryz.underlying5 Tryz.underlying9 ?_) | (refine owp_bs (o := ⟨some 53, _, _, _, _, _⟩) rfl st 6 get6 rfl Tryz.underlying26 Tryz.underlying5 Tryz.underlying9 ?_) | (refine owp_bs (o := ⟨some 53, _, _, _, _, _⟩) rfl st 7 get7 rfl Tryz.underlying26 Tryz.underlying5 Tryz.underlying9 ?_)))); (try simp only [nsl, Value.cells, unB] at st); (try clear hc); have hc := st.facts; (try simp only [nfl, nft, Nat.reduceAdd] at hc))
  refine (HP1.out _ (hg1.out.ext st.ext0)).mono ?_
  rintro en w ⟨rfl, hx⟩
  replace st := st.ext hx
  clear hx
  (try clear hc); have hc := st.facts; (try simp only [nfl, nft, Nat.reduceAdd] at hc)
  go_wp2_with ((first
        | ((with_reducible refine wl_alloc ?_ (fun K hK => ?_)); rfl; refine owp_alloc (o := ⟨some 1, _, _, _, _, _⟩) rfl st ?_; apply Exists.intro; apply Exists.intro; refine ⟨?_, ?_⟩; (focus (first | (go_simp; done) | (go_simp; rfl))); (clear st; intro b1 w hb st; clear hb))
        | ((with_reducible refine wl_store ?_ (fun K hK => ?_)); rfl; refine owp_store rfl st ?_; apply Exists.intro; apply Exists.intro; refine ⟨?_, ?_, ?_⟩; (focus (go_simp; try rfl)); (focus (go_simp; try rfl)); (first | (with_reducible refine ⟨0, _, _, _, _, get0, rfl, rfl, ?_, ?_, ?_, ?_⟩) | (with_reducible refine ⟨1, _, _, _, _, get1, rfl, rfl, ?_, ?_, ?_, ?_⟩) | (with_reducible refine ⟨2, _, _, _, _, get2, rfl, rfl, ?_, ?_, ?_, ?_⟩) | (with_reducible refine ⟨3, _, _, _, _, get3, rfl, rfl, ?_, ?_, ?_, ?_⟩) | (with_reducible refine ⟨4, _, _, _, _, get4, rfl, rfl, ?_, ?_, ?_, ?_⟩) | (with_reducible refine ⟨5, _, _, _, _, get5, rfl, rfl, ?_, ?_, ?_, ?_⟩) | (with_reducible refine ⟨6, _, _, _, _, get6, rfl, rfl, ?_, ?_, ?_, ?_⟩) | (with_reducible refine ⟨7, _, _, _, _, get7, rfl, rfl, ?_, ?_, ?_, ?_⟩)); (kernel_rfl); (simp [Value.cells]); (rfl); (clear st; intro w st))
        | ((with_reducible refine wl_alloc ?_ (fun K hK => ?_)); rfl; refine owp_alloc (o := ⟨some 3, _, _, _, _, _⟩) rfl st ?_; apply Exists.intro; apply Exists.intro; refine ⟨?_, ?_⟩; (focus (first | (go_simp; done) | (go_simp; rfl))); (clear st; intro b3 w hb st; clear hb))
        | ((with_reducible refine wl_alloc ?_ (fun K hK => ?_)); rfl; refine owp_alloc (o := ⟨some 5, _, _, _, _, _⟩) rfl st ?_; apply Exists.intro; apply Exists.intro; refine ⟨?_, ?_⟩; (focus (first | (go_simp; done) | (go_simp; rfl))); (clear st; intro b5 w hb st; clear hb))
        | ((with_reducible refine wl_alloc ?_ (fun K hK => ?_)); rfl; refine owp_alloc (o := ⟨some 8, _, _, _, _, _⟩) rfl st ?_; apply Exists.intro; apply Exists.intro; refine ⟨?_, ?_⟩; (focus (first | (go_simp; done) | (go_simp; rfl))); (clear st; intro b8 w hb st; clear hb))
        | ((with_reducible refine wl_buildSlice ?_ (fun K hK => ?_)); rfl; refine owp_buildSlice (o := ⟨some 31, _, _, _, _, _⟩) rfl st ?_; apply Exists.intro; apply Exists.intro; apply Exists.intro; apply Exists.intro; refine ⟨?_, ?_⟩; (focus (go_simp; (first | done | exact ⟨⟨rfl, rfl⟩, rfl⟩ | rfl))); (clear st; intro b31 w hb st; clear hb))
        | ((with_reducible refine wl_convert ?_ (fun K hK => ?_)); rfl; (first | (refine owp_bs (o := ⟨some 53, _, _, _, _, _⟩) rfl st 0 get0 rfl Tryz.underlying26 Tryz.underlying5 Tryz.underlying9 ?_) | (refine owp_bs (o := ⟨some 53, _, _, _, _, _⟩) rfl st 1 get1 rfl Tryz.underlying26 Tryz.underlying5 Tryz.underlying9 ?_) | (refine owp_bs (o := ⟨some 53, _, _, _, _, _⟩) rfl st 2 get2 rfl Tryz.underlying26 Tryz.underlying5 Tryz.underlying9 ?_) | (refine owp_bs (o := ⟨some 53, _, _, _, _, _⟩) rfl st 3 get3 rfl Tryz.underlying26 Tryz.underlying5 Tryz.underlying9 ?_) | (refine owp_bs (o := ⟨some 53, _, _, _, _, _⟩) rfl st 4 get4 rfl Tryz.underlying26 Tryz.underlying5 Tryz.underlying9 ?_) | (refine owp_bs (o := ⟨some 53, _, _, _, _, _⟩) rfl st 5 get5 rfl Tryz.underlying26 Tryz.underlying5 Tryz.underlying9 ?_) | (refine owp_bs (o := ⟨some 53, _, _, _, _, _⟩) rfl st 6 get6 rfl Tryz.underlying26 Tryz.underlying5 Tryz.underlying9 ?_) | (refine owp_bs (o := ⟨some 53, _, _, _, _, _⟩) rfl st 7 get7 rfl Tryz.underlying26 Tryz.underlying5 Tryz.underlying9 ?_)))); (try simp only [nsl, Value.cells, unB] at st); (try clear hc); have hc := st.facts; (try simp only [nfl, nft, Nat.reduceAdd] at hc))
  refine (HP2.out _ (hg1.out.ext st.ext0)).mono ?_
  rintro en w ⟨rfl, hx⟩
  replace st := st.ext hx
  clear hx
  (try clear hc); have hc := st.facts; (try simp only [nfl, nft, Nat.reduceAdd] at hc)
  go_wp2_with ((first
        | ((with_reducible refine wl_alloc ?_ (fun K hK => ?_)); rfl; refine owp_alloc (o := ⟨some 1, _, _, _, _, _⟩) rfl st ?_; apply Exists.intro; apply Exists.intro; refine ⟨?_, ?_⟩; (focus (first | (go_simp; done) | (go_simp; rfl))); (clear st; intro b1 w hb st; clear hb))
        | ((with_reducible refine wl_store ?_ (fun K hK => ?_)); rfl; refine owp_store rfl st ?_; apply Exists.intro; apply Exists.intro; refine ⟨?_, ?_, ?_⟩; (focus (go_simp; try rfl)); (focus (go_simp; try rfl)); (first | (with_reducible refine ⟨0, _, _, _, _, get0, rfl, rfl, ?_, ?_, ?_, ?_⟩) | (with_reducible refine ⟨1, _, _, _, _, get1, rfl, rfl, ?_, ?_, ?_, ?_⟩) | (with_reducible refine ⟨2, _, _, _, _, get2, rfl, rfl, ?_, ?_, ?_, ?_⟩) | (with_reducible refine ⟨3, _, _, _, _, get3, rfl, rfl, ?_, ?_, ?_, ?_⟩) | (with_reducible refine ⟨4, _, _, _, _, get4, rfl, rfl, ?_, ?_, ?_, ?_⟩) | (with_reducible refine ⟨5, _, _, _, _, get5, rfl, rfl, ?_, ?_, ?_, ?_⟩) | (with_reducible refine ⟨6, _, _, _, _, get6, rfl, rfl, ?_, ?_, ?_, ?_⟩) | (with_reducible refine ⟨7, _, _, _, _, get7, rfl, rfl, ?_, ?_, ?_, ?_⟩)); (kernel_rfl); (simp [Value.cells]); (rfl); (clear st; intro w st))
        | ((with_reducible refine wl_alloc ?_ (fun K hK => ?_)); rfl; refine owp_alloc (o := ⟨some 3, _, _, _, _, _⟩) rfl st ?_; apply Exists.intro; apply Exists.intro; refine ⟨?_, ?_⟩; (focus (first | (go_simp; done) | (go_simp; rfl))); (clear st; intro b3 w hb st; clear hb))
        | ((with_reducible refine wl_alloc ?_ (fun K hK => ?_)); rfl; refine owp_alloc (o := ⟨some 5, _, _, _, _, _⟩) rfl st ?_; apply Exists.intro; apply Exists.intro; refine ⟨?_, ?_⟩; (focus (first | (go_simp; done) | (go_simp; rfl))); (clear st; intro b5 w hb st; clear hb))
        | ((with_reducible refine wl_alloc ?_ (fun K hK => ?_)); rfl; refine owp_alloc (o := ⟨some 8, _, _, _, _, _⟩) rfl st ?_; apply Exists.intro; apply Exists.intro; refine ⟨?_, ?_⟩; (focus (first | (go_simp; done) | (go_simp; rfl))); (clear st; intro b8 w hb st; clear hb))
        | ((with_reducible refine wl_buildSlice ?_ (fun K hK => ?_)); rfl; refine owp_buildSlice (o := ⟨some 31, _, _, _, _, _⟩) rfl st ?_; apply Exists.intro; apply Exists.intro; apply Exists.intro; apply Exists.intro; refine ⟨?_, ?_⟩; (focus (go_simp; (first | done | exact ⟨⟨rfl, rfl⟩, rfl⟩ | rfl))); (clear st; intro b31 w hb st; clear hb))
        | ((with_reducible refine wl_convert ?_ (fun K hK => ?_)); rfl; (first | (refine owp_bs (o := ⟨some 53, _, _, _, _, _⟩) rfl st 0 get0 rfl Tryz.underlying26 Tryz.underlying5 Tryz.underlying9 ?_) | (refine owp_bs (o := ⟨some 53, _, _, _, _, _⟩) rfl st 1 get1 rfl Tryz.underlying26 Tryz.underlying5 Tryz.underlying9 ?_) | (refine owp_bs (o := ⟨some 53, _, _, _, _, _⟩) rfl st 2 get2 rfl Tryz.underlying26 Tryz.underlying5 Tryz.underlying9 ?_) | (refine owp_bs (o := ⟨some 53, _, _, _, _, _⟩) rfl st 3 get3 rfl Tryz.underlying26 Tryz.underlying5 Tryz.underlying9 ?_) | (refine owp_bs (o := ⟨some 53, _, _, _, _, _⟩) rfl st 4 get4 rfl Tryz.underlying26 Tryz.underlying5 Tryz.underlying9 ?_) | (refine owp_bs (o := ⟨some 53, _, _, _, _, _⟩) rfl st 5 get5 rfl Tryz.underlying26 Tryz.underlying5 Tryz.underlying9 ?_) | (refine owp_bs (o := ⟨some 53, _, _, _, _, _⟩) rfl st 6 get6 rfl Tryz.underlying26 Tryz.underlying5 Tryz.underlying9 ?_) | (refine owp_bs (o := ⟨some 53, _, _, _, _, _⟩) rfl st 7 get7 rfl Tryz.underlying26 Tryz.underlying5 Tryz.underlying9 ?_)))); (try simp only [nsl, Value.cells, unB] at st); (try clear hc); have hc := st.facts; (try simp only [nfl, nft, Nat.reduceAdd] at hc))
  refine (HP3.out _ (hg1.out.ext st.ext0)).mono ?_
  rintro en w ⟨rfl, hx⟩
  replace st := st.ext hx
  clear hx
  (try clear hc); have hc := st.facts; (try simp only [nfl, nft, Nat.reduceAdd] at hc)
  go_wp2_with ((first
        | ((with_reducible refine wl_alloc ?_ (fun K hK => ?_)); rfl; refine owp_alloc (o := ⟨some 1, _, _, _, _, _⟩) rfl st ?_; apply Exists.intro; apply Exists.intro; refine ⟨?_, ?_⟩; (focus (first | (go_simp; done) | (go_simp; rfl))); (clear st; intro b1 w hb st; clear hb))
        | ((with_reducible refine wl_store ?_ (fun K hK => ?_)); rfl; refine owp_store rfl st ?_; apply Exists.intro; apply Exists.intro; refine ⟨?_, ?_, ?_⟩; (focus (go_simp; try rfl)); (focus (go_simp; try rfl)); (first | (with_reducible refine ⟨0, _, _, _, _, get0, rfl, rfl, ?_, ?_, ?_, ?_⟩) | (with_reducible refine ⟨1, _, _, _, _, get1, rfl, rfl, ?_, ?_, ?_, ?_⟩) | (with_reducible refine ⟨2, _, _, _, _, get2, rfl, rfl, ?_, ?_, ?_, ?_⟩) | (with_reducible refine ⟨3, _, _, _, _, get3, rfl, rfl, ?_, ?_, ?_, ?_⟩) | (with_reducible refine ⟨4, _, _, _, _, get4, rfl, rfl, ?_, ?_, ?_, ?_⟩) | (with_reducible refine ⟨5, _, _, _, _, get5, rfl, rfl, ?_, ?_, ?_, ?_⟩) | (with_reducible refine ⟨6, _, _, _, _, get6, rfl, rfl, ?_, ?_, ?_, ?_⟩) | (with_reducible refine ⟨7, _, _, _, _, get7, rfl, rfl, ?_, ?_, ?_, ?_⟩)); (kernel_rfl); (simp [Value.cells]); (rfl); (clear st; intro w st))
        | ((with_reducible refine wl_alloc ?_ (fun K hK => ?_)); rfl; refine owp_alloc (o := ⟨some 3, _, _, _, _, _⟩) rfl st ?_; apply Exists.intro; apply Exists.intro; refine ⟨?_, ?_⟩; (focus (first | (go_simp; done) | (go_simp; rfl))); (clear st; intro b3 w hb st; clear hb))
        | ((with_reducible refine wl_alloc ?_ (fun K hK => ?_)); rfl; refine owp_alloc (o := ⟨some 5, _, _, _, _, _⟩) rfl st ?_; apply Exists.intro; apply Exists.intro; refine ⟨?_, ?_⟩; (focus (first | (go_simp; done) | (go_simp; rfl))); (clear st; intro b5 w hb st; clear hb))
        | ((with_reducible refine wl_alloc ?_ (fun K hK => ?_)); rfl; refine owp_alloc (o := ⟨some 8, _, _, _, _, _⟩) rfl st ?_; apply Exists.intro; apply Exists.intro; refine ⟨?_, ?_⟩; (focus (first | (go_simp; done) | (go_simp; rfl))); (clear st; intro b8 w hb st; clear hb))
        | ((with_reducible refine wl_buildSlice ?_ (fun K hK => ?_)); rfl; refine owp_buildSlice (o := ⟨some 31, _, _, _, _, _⟩) rfl st ?_; apply Exists.intro; apply Exists.intro; apply Exists.intro; apply Exists.intro; refine ⟨?_, ?_⟩; (focus (go_simp; (first | done | exact ⟨⟨rfl, rfl⟩, rfl⟩ | rfl))); (clear st; intro b31 w hb st; clear hb))
        | ((with_reducible refine wl_convert ?_ (fun K hK => ?_)); rfl; (first | (refine owp_bs (o := ⟨some 53, _, _, _, _, _⟩) rfl st 0 get0 rfl Tryz.underlying26 Tryz.underlying5 Tryz.underlying9 ?_) | (refine owp_bs (o := ⟨some 53, _, _, _, _, _⟩) rfl st 1 get1 rfl Tryz.underlying26 Tryz.underlying5 Tryz.underlying9 ?_) | (refine owp_bs (o := ⟨some 53, _, _, _, _, _⟩) rfl st 2 get2 rfl Tryz.underlying26 Tryz.underlying5 Tryz.underlying9 ?_) | (refine owp_bs (o := ⟨some 53, _, _, _, _, _⟩) rfl st 3 get3 rfl Tryz.underlying26 Tryz.underlying5 Tryz.underlying9 ?_) | (refine owp_bs (o := ⟨some 53, _, _, _, _, _⟩) rfl st 4 get4 rfl Tryz.underlying26 Tryz.underlying5 Tryz.underlying9 ?_) | (refine owp_bs (o := ⟨some 53, _, _, _, _, _⟩) rfl st 5 get5 rfl Tryz.underlying26 Tryz.underlying5 Tryz.underlying9 ?_) | (refine owp_bs (o := ⟨some 53, _, _, _, _, _⟩) rfl st 6 get6 rfl Tryz.underlying26 Tryz.underlying5 Tryz.underlying9 ?_) | (refine owp_bs (o := ⟨some 53, _, _, _, _, _⟩) rfl st 7 get7 rfl Tryz.underlying26 Tryz.underlying5 Tryz.underlying9 ?_)))); (try simp only [nsl, Value.cells, unB] at st); (try clear hc); have hc := st.facts; (try simp only [nfl, nft, Nat.reduceAdd] at hc))
  refine (HB.out _).mono ?_
  rintro en w ⟨pa, pn, pc, rfl, hfr⟩
  have hpn : pn = 9 := hfr.by.2.1.trans hul
  subst hpn
  replace st := st.fresh hfr
  clear hfr
  (try simp only [nsl, Value.cells, unB] at st)
  (try clear hc); have hc := st.facts; (try simp only [nfl, nft, Nat.reduceAdd] at hc)
  go_wp2_with ((first
        | ((with_reducible refine wl_alloc ?_ (fun K hK => ?_)); rfl; refine owp_alloc (o := ⟨some 1, _, _, _, _, _⟩) rfl st ?_; apply Exists.intro; apply Exists.intro; refine ⟨?_, ?_⟩; (focus (first | (go_simp; done) | (go_simp; rfl))); (clear st; intro b1 w hb st; clear hb))
        | ((with_reducible refine wl_store ?_ (fun K hK => ?_)); rfl; refine owp_store rfl st ?_; apply Exists.intro; apply Exists.intro; refine ⟨?_, ?_, ?_⟩; (focus (go_simp; try rfl)); (focus (go_simp; try rfl)); (first | (with_reducible refine ⟨0, _, _, _, _, get0, rfl, rfl, ?_, ?_, ?_, ?_⟩) | (with_reducible refine ⟨1, _, _, _, _, get1, rfl, rfl, ?_, ?_, ?_, ?_⟩) | (with_reducible refine ⟨2, _, _, _, _, get2, rfl, rfl, ?_, ?_, ?_, ?_⟩) | (with_reducible refine ⟨3, _, _, _, _, get3, rfl, rfl, ?_, ?_, ?_, ?_⟩) | (with_reducible refine ⟨4, _, _, _, _, get4, rfl, rfl, ?_, ?_, ?_, ?_⟩) | (with_reducible refine ⟨5, _, _, _, _, get5, rfl, rfl, ?_, ?_, ?_, ?_⟩) | (with_reducible refine ⟨6, _, _, _, _, get6, rfl, rfl, ?_, ?_, ?_, ?_⟩) | (with_reducible refine ⟨7, _, _, _, _, get7, rfl, rfl, ?_, ?_, ?_, ?_⟩)); (kernel_rfl); (simp [Value.cells]); (rfl); (clear st; intro w st))
        | ((with_reducible refine wl_alloc ?_ (fun K hK => ?_)); rfl; refine owp_alloc (o := ⟨some 3, _, _, _, _, _⟩) rfl st ?_; apply Exists.intro; apply Exists.intro; refine ⟨?_, ?_⟩; (focus (first | (go_simp; done) | (go_simp; rfl))); (clear st; intro b3 w hb st; clear hb))
        | ((with_reducible refine wl_alloc ?_ (fun K hK => ?_)); rfl; refine owp_alloc (o := ⟨some 5, _, _, _, _, _⟩) rfl st ?_; apply Exists.intro; apply Exists.intro; refine ⟨?_, ?_⟩; (focus (first | (go_simp; done) | (go_simp; rfl))); (clear st; intro b5 w hb st; clear hb))
        | ((with_reducible refine wl_alloc ?_ (fun K hK => ?_)); rfl; refine owp_alloc (o := ⟨some 8, _, _, _, _, _⟩) rfl st ?_; apply Exists.intro; apply Exists.intro; refine ⟨?_, ?_⟩; (focus (first | (go_simp; done) | (go_simp; rfl))); (clear st; intro b8 w hb st; clear hb))
        | ((with_reducible refine wl_buildSlice ?_ (fun K hK => ?_)); rfl; refine owp_buildSlice (o := ⟨some 31, _, _, _, _, _⟩) rfl st ?_; apply Exists.intro; apply Exists.intro; apply Exists.intro; apply Exists.intro; refine ⟨?_, ?_⟩; (focus (go_simp; (first | done | exact ⟨⟨rfl, rfl⟩, rfl⟩ | rfl))); (clear st; intro b31 w hb st; clear hb))
        | ((with_reducible refine wl_convert ?_ (fun K hK => ?_)); rfl; (first | (refine owp_bs (o := ⟨some 53, _, _, _, _, _⟩) rfl st 0 get0 rfl Tryz.underlying26 Tryz.underlying5 Tryz.underlying9 ?_) | (refine owp_bs (o := ⟨some 53, _, _, _, _, _⟩) rfl st 1 get1 rfl Tryz.underlying26 Tryz.underlying5 Tryz.underlying9 ?_) | (refine owp_bs (o := ⟨some 53, _, _, _, _, _⟩) rfl st 2 get2 rfl Tryz.underlying26 Tryz.underlying5 Tryz.underlying9 ?_) | (refine owp_bs (o := ⟨some 53, _, _, _, _, _⟩) rfl st 3 get3 rfl Tryz.underlying26 Tryz.underlying5 Tryz.underlying9 ?_) | (refine owp_bs (o := ⟨some 53, _, _, _, _, _⟩) rfl st 4 get4 rfl Tryz.underlying26 Tryz.underlying5 Tryz.underlying9 ?_) | (refine owp_bs (o := ⟨some 53, _, _, _, _, _⟩) rfl st 5 get5 rfl Tryz.underlying26 Tryz.underlying5 Tryz.underlying9 ?_) | (refine owp_bs (o := ⟨some 53, _, _, _, _, _⟩) rfl st 6 get6 rfl Tryz.underlying26 Tryz.underlying5 Tryz.underlying9 ?_) | (refine owp_bs (o := ⟨some 53, _, _, _, _, _⟩) rfl st 7 get7 rfl Tryz.underlying26 Tryz.underlying5 Tryz.underlying9 ?_)))); (try simp only [nsl, Value.cells, unB] at st); (try clear hc); have hc := st.facts; (try simp only [nfl, nft, Nat.reduceAdd] at hc))
  refine (readGet_c st 5 get5 (st.rowBy (i := 4) get4).2 (st.rowBy (i := 4) get4).1 (by omega) 50 (fun _ _ => by kernel_rfl) (rdCred u) cC (fun fr al w r st => cfirstGet_c zC st (by omega))).mono ?_
  rintro en w ⟨r1, rfl, st'⟩
  rw [HRU.out] at st' ⊢
  simp only [gotE, gotZ, if_true, cC, dX, S] at st' ⊢
  clear st
  have st := st'.keep [1, 2, 3, 5, 6] (by decide) (by simp)
  clear st' HP1 HP2 HP3 HB
  simp only [pick, List.map_cons, List.map_nil, List.set, List.getElem?_cons_zero, List.getElem?_cons_succ, Option.getD_some] at st
  (try simp only [nsl, Value.cells, unB] at st)
  (try clear hc); have hc := st.facts; (try simp only [nfl, nft, Nat.reduceAdd] at hc)
  go_wp2_with ((first
        | ((with_reducible refine wl_alloc ?_ (fun K hK => ?_)); rfl; refine owp_alloc (o := ⟨some 1, _, _, _, _, _⟩) rfl st ?_; apply Exists.intro; apply Exists.intro; refine ⟨?_, ?_⟩; (focus (first | (go_simp; done) | (go_simp; rfl))); (clear st; intro b1 w hb st; clear hb))
        | ((with_reducible refine wl_store ?_ (fun K hK => ?_)); rfl; refine owp_store rfl st ?_; apply Exists.intro; apply Exists.intro; refine ⟨?_, ?_, ?_⟩; (focus (go_simp; try rfl)); (focus (go_simp; try rfl)); (first | (with_reducible refine ⟨0, _, _, _, _, get0, rfl, rfl, ?_, ?_, ?_, ?_⟩) | (with_reducible refine ⟨1, _, _, _, _, get1, rfl, rfl, ?_, ?_, ?_, ?_⟩) | (with_reducible refine ⟨2, _, _, _, _, get2, rfl, rfl, ?_, ?_, ?_, ?_⟩) | (with_reducible refine ⟨3, _, _, _, _, get3, rfl, rfl, ?_, ?_, ?_, ?_⟩) | (with_reducible refine ⟨4, _, _, _, _, get4, rfl, rfl, ?_, ?_, ?_, ?_⟩) | (with_reducible refine ⟨5, _, _, _, _, get5, rfl, rfl, ?_, ?_, ?_, ?_⟩) | (with_reducible refine ⟨6, _, _, _, _, get6, rfl, rfl, ?_, ?_, ?_, ?_⟩) | (with_reducible refine ⟨7, _, _, _, _, get7, rfl, rfl, ?_, ?_, ?_, ?_⟩)); (kernel_rfl); (simp [Value.cells]); (rfl); (clear st; intro w st))
        | ((with_reducible refine wl_alloc ?_ (fun K hK => ?_)); rfl; refine owp_alloc (o := ⟨some 3, _, _, _, _, _⟩) rfl st ?_; apply Exists.intro; apply Exists.intro; refine ⟨?_, ?_⟩; (focus (first | (go_simp; done) | (go_simp; rfl))); (clear st; intro b3 w hb st; clear hb))
        | ((with_reducible refine wl_alloc ?_ (fun K hK => ?_)); rfl; refine owp_alloc (o := ⟨some 5, _, _, _, _, _⟩) rfl st ?_; apply Exists.intro; apply Exists.intro; refine ⟨?_, ?_⟩; (focus (first | (go_simp; done) | (go_simp; rfl))); (clear st; intro b5 w hb st; clear hb))
        | ((with_reducible refine wl_alloc ?_ (fun K hK => ?_)); rfl; refine owp_alloc (o := ⟨some 8, _, _, _, _, _⟩) rfl st ?_; apply Exists.intro; apply Exists.intro; refine ⟨?_, ?_⟩; (focus (first | (go_simp; done) | (go_simp; rfl))); (clear st; intro b8 w hb st; clear hb))
        | ((with_reducible refine wl_buildSlice ?_ (fun K hK => ?_)); rfl; refine owp_buildSlice (o := ⟨some 31, _, _, _, _, _⟩) rfl st ?_; apply Exists.intro; apply Exists.intro; apply Exists.intro; apply Exists.intro; refine ⟨?_, ?_⟩; (focus (go_simp; (first | done | exact ⟨⟨rfl, rfl⟩, rfl⟩ | rfl))); (clear st; intro b31 w hb st; clear hb))
        | ((with_reducible refine wl_convert ?_ (fun K hK => ?_)); rfl; (first | (refine owp_bs (o := ⟨some 53, _, _, _, _, _⟩) rfl st 0 get0 rfl Tryz.underlying26 Tryz.underlying5 Tryz.underlying9 ?_) | (refine owp_bs (o := ⟨some 53, _, _, _, _, _⟩) rfl st 1 get1 rfl Tryz.underlying26 Tryz.underlying5 Tryz.underlying9 ?_) | (refine owp_bs (o := ⟨some 53, _, _, _, _, _⟩) rfl st 2 get2 rfl Tryz.underlying26 Tryz.underlying5 Tryz.underlying9 ?_) | (refine owp_bs (o := ⟨some 53, _, _, _, _, _⟩) rfl st 3 get3 rfl Tryz.underlying26 Tryz.underlying5 Tryz.underlying9 ?_) | (refine owp_bs (o := ⟨some 53, _, _, _, _, _⟩) rfl st 4 get4 rfl Tryz.underlying26 Tryz.underlying5 Tryz.underlying9 ?_) | (refine owp_bs (o := ⟨some 53, _, _, _, _, _⟩) rfl st 5 get5 rfl Tryz.underlying26 Tryz.underlying5 Tryz.underlying9 ?_) | (refine owp_bs (o := ⟨some 53, _, _, _, _, _⟩) rfl st 6 get6 rfl Tryz.underlying26 Tryz.underlying5 Tryz.underlying9 ?_) | (refine owp_bs (o := ⟨some 53, _, _, _, _, _⟩) rfl st 7 get7 rfl Tryz.underlying26 Tryz.underlying5 Tryz.underlying9 ?_)))); (try simp only [nsl, Value.cells, unB] at st); (try clear hc); have hc := st.facts; (try simp only [nfl, nft, Nat.reduceAdd] at hc))
  have hF := fl_lit (st.blk (i := 5) get5) ([cX, dX, cX] : List CredT) rfl
  have hL : ∀ x ∈ [cX, dX, cX], CredL 100000 x := fun x hx => by
    simp only [List.mem_cons, List.not_mem_nil, or_false] at hx
    rcases hx with rfl | rfl | rfl
    · exact cXL
    · exact dXL
    · exact cXL
  refine (credSet_any _ _ 3 _ _ hF (by decide) hL).mono ?_
  rintro en w ⟨va, vc, rfl, hnew⟩
  rw [cs0] at hnew ⊢
  replace st := st.fresh hnew
  clear hnew hF hL
  have e2 : ([dX, cX] : List CredT).length = 2 := rfl
  rw [e2] at st ⊢
  clear e2
  have HCX := Lib.hid (fun W => credRoles_any cX W cXL)
  have HTX := Lib.hid (fun W => credText_any dX W dXL)
  rw [ro1] at HCX
  rw [ct2] at HTX
  unfold cV S cX at HCX
  unfold cV S dX cS2 at HTX
  (try simp only [nsl, Value.cells, unB] at st)
  (try clear hc); have hc := st.facts; (try simp only [nfl, nft, Nat.reduceAdd] at hc)
  obtain ⟨g, cap, hv, hcap, _⟩ := st.rowAt (i := 6) get6 (by omega)
  injection hv with hv1 hv2 hv3
  subst hv1 hv3
  clear hv2
  have HUb : Hid (u = [1, 1, 97, 1, 114, 3, 98, 111, 98]) := HU
  go_wp2_with fail
  refine Rg4.wp_region4 (Rel := Ext) #[0, 1, 3, 7, 15, 31, 63, 127, 255, 511, 1023, 2047, 4095, 8191, 16383, 32767, 65535, 131071, 262143, 524287, 1048575, 2097151, 4194303, 8388607, 16777215, 33554431, 67108863, 134217727, 268435455, 268435455, 1073741823, 2147483647, 4294967295, 8589934591, 17179869183, 34359738367, 68719476735, 137438953471, 274877906943, 549755813887, 1099511627775, 274877906943, 4398046511103, 8796093022207, 17592186044415, 35184372088831, 35184372088831, 140737488355327, 281474976710655, 562949953421311, 1125899906842623, 2251799813685247, 4503599627370495, 9007199254740991, 18014398509481983, 36028797018963967, 72057594037927935, 144115188075855871, 288230376151711743, 576460752303423487, 1152921504606846975]
    [(47, .val (.bool true)), (57, .val (.string ⟨#[97, 46, 114, 32, 60, 45, 32, 98, 111, 98]⟩))] [51] [3, 8, 20, 28, 29, 40, 41, 46, 50, 56] (fun _ => True) [0, 1, 2, 3, 4, 5, 6, 7, 8, 9, 10, 11, 12, 13, 14, 15, 16, 17, 18, 19, 20, 21, 22, 23, 24, 25, 26, 27, 28, 29, 30, 31, 32, 33, 34, 35, 36, 37, 38, 39, 40, 41, 42, 43, 44, 45, 46, 47, 48, 49, 50, 51, 52, 53, 54, 55, 56, 57, 58, 59, 60] (by kernel_rfl) (by kernel_rfl) (by kernel_rfl) (by kernel_rfl) Ext.refl (fun _ _ _ => Ext.trans) (show Rg4.PB _ by repeat (first | with_reducible exact Rg4.pb_body | with_reducible exact Rg4.pb_bodyD rfl | with_reducible refine Rg4.pb_then ?_ | with_reducible refine Rg4.pb_inBlock ?_ | with_reducible refine Rg4.pb_noGoto ?_)) (trivial) ?_
  replace st := st.drew
  change Rg4.wp4 _ _ _ _ _ _ _ _ _ (World.drew _) _ _
  generalize World.drew _ = w at st ⊢
  (try clear hc); have hc := st.facts; (try simp only [nfl, nft, Nat.reduceAdd] at hc)
  iterate 2 (refine Rg4.w4_any (Rg4.want_none rfl) rfl ?_; apply Exists.intro; refine ⟨fun w' => ?_, ?_⟩; (focus (first | (go_simp; done) | (go_simp; first | rfl | (rw [if_neg] <;> first | rfl | omega) | (rw [if_pos] <;> first | rfl | omega)))); (try simp only [Rg4.nrm]))
  (first | (refine Rg4.w4_any (Rg4.wt rfl rfl rfl) rfl ?_; apply Exists.intro; refine ⟨fun w' => ?_, ?_⟩; (focus (first | (go_simp; done) | (go_simp; first | rfl | (rw [if_neg] <;> first | rfl | omega) | (rw [if_pos] <;> first | rfl | omega)))); (try simp only [Rg4.nrm])) | (refine Rg4.w4_skip (Rg4.uw rfl rfl rfl) ?_; (try simp only [Rg4.nrm])) | (refine Rg4.w4_skip (Rg4.un rfl rfl rfl) ?_; (try simp only [Rg4.nrm])))
  (first | (refine Rg4.w4_read (Rg4.wt rfl rfl rfl) rfl rfl ?_; apply Exists.intro; refine ⟨fun w' hw' hcl' => ?_, ?_⟩; focus (have st' := st.ext hw'; have hc' := st'.facts; (try simp only [nfl, nft, Nat.reduceAdd] at hc'); have r0 := st'.rowC (i := 6) get6 0 (.int .i64 1) rfl; have r1 := st'.rowC (i := 6) get6 1 (S [97]) rfl; have r2 := st'.rowC (i := 6) get6 2 (S [114]) rfl; have r3 := st'.rowC (i := 6) get6 3 (S [98, 111, 98]) rfl; have r4 := st'.rowC (i := 6) get6 4 (S []) rfl; have r5 := st'.rowC (i := 6) get6 5 (S []) rfl; have r6 := st'.rowC (i := 6) get6 6 (S []) rfl; have r7 := st'.rowC (i := 6) get6 7 (S []) rfl; have r8 := st'.rowC (i := 6) get6 8 (S []) rfl; unfold S at r1 r2 r3 r4 r5 r6 r7 r8; have q4 := conv_bs (P := Tryz.prog) (src := 26) (dst := 9) (c := pc) Tryz.underlying26 Tryz.underlying5 Tryz.underlying9 (st'.rowBy (i := 3) get3).2; unfold S at q4; rw [HUb.out] at q4; (focus (first | (go_simp; done) | (go_simp; first | rfl | (rw [if_neg] <;> first | rfl | omega) | (rw [if_pos] <;> first | rfl | omega))))); (try simp only [Rg4.nrm])) | (refine Rg4.w4_skip (Rg4.uw rfl rfl rfl) ?_; (try simp only [Rg4.nrm])) | (refine Rg4.w4_skip (Rg4.un rfl rfl rfl) ?_; (try simp only [Rg4.nrm])))
  (first | (refine Rg4.w4_any (Rg4.wt rfl rfl rfl) rfl ?_; apply Exists.intro; refine ⟨fun w' => ?_, ?_⟩; (focus (first | (go_simp; done) | (go_simp; first | rfl | (rw [if_neg] <;> first | rfl | omega) | (rw [if_pos] <;> first | rfl | omega)))); (try simp only [Rg4.nrm])) | (refine Rg4.w4_skip (Rg4.uw rfl rfl rfl) ?_; (try simp only [Rg4.nrm])) | (refine Rg4.w4_skip (Rg4.un rfl rfl rfl) ?_; (try simp only [Rg4.nrm])))
  iterate 2 (refine Rg4.w4_any (Rg4.want_none rfl) rfl ?_; apply Exists.intro; refine ⟨fun w' => ?_, ?_⟩; (focus (first | (go_simp; done) | (go_simp; first | rfl | (rw [if_neg] <;> first | rfl | omega) | (rw [if_pos] <;> first | rfl | omega)))); (try simp only [Rg4.nrm]))
  (first | (refine Rg4.w4_any (Rg4.wt rfl rfl rfl) rfl ?_; apply Exists.intro; refine ⟨fun w' => ?_, ?_⟩; (focus (first | (go_simp; done) | (go_simp; first | rfl | (rw [if_neg] <;> first | rfl | omega) | (rw [if_pos] <;> first | rfl | omega)))); (try simp only [Rg4.nrm])) | (refine Rg4.w4_skip (Rg4.uw rfl rfl rfl) ?_; (try simp only [Rg4.nrm])) | (refine Rg4.w4_skip (Rg4.un rfl rfl rfl) ?_; (try simp only [Rg4.nrm])))
  (first | (refine Rg4.w4_read (Rg4.wt rfl rfl rfl) rfl rfl ?_; apply Exists.intro; refine ⟨fun w' hw' hcl' => ?_, ?_⟩; focus (have st' := st.ext hw'; have hc' := st'.facts; (try simp only [nfl, nft, Nat.reduceAdd] at hc'); have r0 := st'.rowC (i := 6) get6 0 (.int .i64 1) rfl; have r1 := st'.rowC (i := 6) get6 1 (S [97]) rfl; have r2 := st'.rowC (i := 6) get6 2 (S [114]) rfl; have r3 := st'.rowC (i := 6) get6 3 (S [98, 111, 98]) rfl; have r4 := st'.rowC (i := 6) get6 4 (S []) rfl; have r5 := st'.rowC (i := 6) get6 5 (S []) rfl; have r6 := st'.rowC (i := 6) get6 6 (S []) rfl; have r7 := st'.rowC (i := 6) get6 7 (S []) rfl; have r8 := st'.rowC (i := 6) get6 8 (S []) rfl; unfold S at r1 r2 r3 r4 r5 r6 r7 r8; have q4 := conv_bs (P := Tryz.prog) (src := 26) (dst := 9) (c := pc) Tryz.underlying26 Tryz.underlying5 Tryz.underlying9 (st'.rowBy (i := 3) get3).2; unfold S at q4; rw [HUb.out] at q4; (focus (first | (go_simp; done) | (go_simp; first | rfl | (rw [if_neg] <;> first | rfl | omega) | (rw [if_pos] <;> first | rfl | omega))))); (try simp only [Rg4.nrm])) | (refine Rg4.w4_skip (Rg4.uw rfl rfl rfl) ?_; (try simp only [Rg4.nrm])) | (refine Rg4.w4_skip (Rg4.un rfl rfl rfl) ?_; (try simp only [Rg4.nrm])))
  (first | (refine Rg4.w4_any (Rg4.wt rfl rfl rfl) rfl ?_; apply Exists.intro; refine ⟨fun w' => ?_, ?_⟩; (focus (first | (go_simp; done) | (go_simp; first | rfl | (rw [if_neg] <;> first | rfl | omega) | (rw [if_pos] <;> first | rfl | omega)))); (try simp only [Rg4.nrm])) | (refine Rg4.w4_skip (Rg4.uw rfl rfl rfl) ?_; (try simp only [Rg4.nrm])) | (refine Rg4.w4_skip (Rg4.un rfl rfl rfl) ?_; (try simp only [Rg4.nrm])))
  iterate 2 (refine Rg4.w4_any (Rg4.want_none rfl) rfl ?_; apply Exists.intro; refine ⟨fun w' => ?_, ?_⟩; (focus (first | (go_simp; done) | (go_simp; first | rfl | (rw [if_neg] <;> first | rfl | omega) | (rw [if_pos] <;> first | rfl | omega)))); (try simp only [Rg4.nrm]))
  (first | (refine Rg4.w4_any (Rg4.wt rfl rfl rfl) rfl ?_; apply Exists.intro; refine ⟨fun w' => ?_, ?_⟩; (focus (first | (go_simp; done) | (go_simp; first | rfl | (rw [if_neg] <;> first | rfl | omega) | (rw [if_pos] <;> first | rfl | omega)))); (try simp only [Rg4.nrm])) | (refine Rg4.w4_skip (Rg4.uw rfl rfl rfl) ?_; (try simp only [Rg4.nrm])) | (refine Rg4.w4_skip (Rg4.un rfl rfl rfl) ?_; (try simp only [Rg4.nrm])))
  iterate 2 (refine Rg4.w4_any (Rg4.want_none rfl) rfl ?_; apply Exists.intro; refine ⟨fun w' => ?_, ?_⟩; (focus (first | (go_simp; done) | (go_simp; first | rfl | (rw [if_neg] <;> first | rfl | omega) | (rw [if_pos] <;> first | rfl | omega)))); (try simp only [Rg4.nrm]))
  iterate 2 (first | (refine Rg4.w4_any (Rg4.wt rfl rfl rfl) rfl ?_; apply Exists.intro; refine ⟨fun w' => ?_, ?_⟩; (focus (first | (go_simp; done) | (go_simp; first | rfl | (rw [if_neg] <;> first | rfl | omega) | (rw [if_pos] <;> first | rfl | omega)))); (try simp only [Rg4.nrm])) | (refine Rg4.w4_skip (Rg4.uw rfl rfl rfl) ?_; (try simp only [Rg4.nrm])) | (refine Rg4.w4_skip (Rg4.un rfl rfl rfl) ?_; (try simp only [Rg4.nrm])))
  iterate 2 (refine Rg4.w4_any (Rg4.want_none rfl) rfl ?_; apply Exists.intro; refine ⟨fun w' => ?_, ?_⟩; (focus (first | (go_simp; done) | (go_simp; first | rfl | (rw [if_neg] <;> first | rfl | omega) | (rw [if_pos] <;> first | rfl | omega)))); (try simp only [Rg4.nrm]))
  (first | (refine Rg4.w4_any (Rg4.wt rfl rfl rfl) rfl ?_; apply Exists.intro; refine ⟨fun w' => ?_, ?_⟩; (focus (first | (go_simp; done) | (go_simp; first | rfl | (rw [if_neg] <;> first | rfl | omega) | (rw [if_pos] <;> first | rfl | omega)))); (try simp only [Rg4.nrm])) | (refine Rg4.w4_skip (Rg4.uw rfl rfl rfl) ?_; (try simp only [Rg4.nrm])) | (refine Rg4.w4_skip (Rg4.un rfl rfl rfl) ?_; (try simp only [Rg4.nrm])))
  (first | (refine Rg4.w4_read (Rg4.wt rfl rfl rfl) rfl rfl ?_; apply Exists.intro; refine ⟨fun w' hw' hcl' => ?_, ?_⟩; focus (have st' := st.ext hw'; have hc' := st'.facts; (try simp only [nfl, nft, Nat.reduceAdd] at hc'); have r0 := st'.rowC (i := 6) get6 0 (.int .i64 1) rfl; have r1 := st'.rowC (i := 6) get6 1 (S [97]) rfl; have r2 := st'.rowC (i := 6) get6 2 (S [114]) rfl; have r3 := st'.rowC (i := 6) get6 3 (S [98, 111, 98]) rfl; have r4 := st'.rowC (i := 6) get6 4 (S []) rfl; have r5 := st'.rowC (i := 6) get6 5 (S []) rfl; have r6 := st'.rowC (i := 6) get6 6 (S []) rfl; have r7 := st'.rowC (i := 6) get6 7 (S []) rfl; have r8 := st'.rowC (i := 6) get6 8 (S []) rfl; unfold S at r1 r2 r3 r4 r5 r6 r7 r8; have q4 := conv_bs (P := Tryz.prog) (src := 26) (dst := 9) (c := pc) Tryz.underlying26 Tryz.underlying5 Tryz.underlying9 (st'.rowBy (i := 3) get3).2; unfold S at q4; rw [HUb.out] at q4; (focus (first | (go_simp; done) | (go_simp; first | rfl | (rw [if_neg] <;> first | rfl | omega) | (rw [if_pos] <;> first | rfl | omega))))); (try simp only [Rg4.nrm])) | (refine Rg4.w4_skip (Rg4.uw rfl rfl rfl) ?_; (try simp only [Rg4.nrm])) | (refine Rg4.w4_skip (Rg4.un rfl rfl rfl) ?_; (try simp only [Rg4.nrm])))
  (first | (refine Rg4.w4_any (Rg4.wt rfl rfl rfl) rfl ?_; apply Exists.intro; refine ⟨fun w' => ?_, ?_⟩; (focus (first | (go_simp; done) | (go_simp; first | rfl | (rw [if_neg] <;> first | rfl | omega) | (rw [if_pos] <;> first | rfl | omega)))); (try simp only [Rg4.nrm])) | (refine Rg4.w4_skip (Rg4.uw rfl rfl rfl) ?_; (try simp only [Rg4.nrm])) | (refine Rg4.w4_skip (Rg4.un rfl rfl rfl) ?_; (try simp only [Rg4.nrm])))
  iterate 2 (refine Rg4.w4_any (Rg4.want_none rfl) rfl ?_; apply Exists.intro; refine ⟨fun w' => ?_, ?_⟩; (focus (first | (go_simp; done) | (go_simp; first | rfl | (rw [if_neg] <;> first | rfl | omega) | (rw [if_pos] <;> first | rfl | omega)))); (try simp only [Rg4.nrm]))
  iterate 2 (first | (refine Rg4.w4_any (Rg4.wt rfl rfl rfl) rfl ?_; apply Exists.intro; refine ⟨fun w' => ?_, ?_⟩; (focus (first | (go_simp; done) | (go_simp; first | rfl | (rw [if_neg] <;> first | rfl | omega) | (rw [if_pos] <;> first | rfl | omega)))); (try simp only [Rg4.nrm])) | (refine Rg4.w4_skip (Rg4.uw rfl rfl rfl) ?_; (try simp only [Rg4.nrm])) | (refine Rg4.w4_skip (Rg4.un rfl rfl rfl) ?_; (try simp only [Rg4.nrm])))
  iterate 2 (refine Rg4.w4_any (Rg4.want_none rfl) rfl ?_; apply Exists.intro; refine ⟨fun w' => ?_, ?_⟩; (focus (first | (go_simp; done) | (go_simp; first | rfl | (rw [if_neg] <;> first | rfl | omega) | (rw [if_pos] <;> first | rfl | omega)))); (try simp only [Rg4.nrm]))
  iterate 2 (first | (refine Rg4.w4_read (Rg4.wt rfl rfl rfl) rfl rfl ?_; apply Exists.intro; refine ⟨fun w' hw' hcl' => ?_, ?_⟩; focus (have st' := st.ext hw'; have hc' := st'.facts; (try simp only [nfl, nft, Nat.reduceAdd] at hc'); have r0 := st'.rowC (i := 6) get6 0 (.int .i64 1) rfl; have r1 := st'.rowC (i := 6) get6 1 (S [97]) rfl; have r2 := st'.rowC (i := 6) get6 2 (S [114]) rfl; have r3 := st'.rowC (i := 6) get6 3 (S [98, 111, 98]) rfl; have r4 := st'.rowC (i := 6) get6 4 (S []) rfl; have r5 := st'.rowC (i := 6) get6 5 (S []) rfl; have r6 := st'.rowC (i := 6) get6 6 (S []) rfl; have r7 := st'.rowC (i := 6) get6 7 (S []) rfl; have r8 := st'.rowC (i := 6) get6 8 (S []) rfl; unfold S at r1 r2 r3 r4 r5 r6 r7 r8; have q4 := conv_bs (P := Tryz.prog) (src := 26) (dst := 9) (c := pc) Tryz.underlying26 Tryz.underlying5 Tryz.underlying9 (st'.rowBy (i := 3) get3).2; unfold S at q4; rw [HUb.out] at q4; (focus (first | (go_simp; done) | (go_simp; first | rfl | (rw [if_neg] <;> first | rfl | omega) | (rw [if_pos] <;> first | rfl | omega))))); (try simp only [Rg4.nrm])) | (refine Rg4.w4_skip (Rg4.uw rfl rfl rfl) ?_; (try simp only [Rg4.nrm])) | (refine Rg4.w4_skip (Rg4.un rfl rfl rfl) ?_; (try simp only [Rg4.nrm])))
  (first | (refine Rg4.w4_any (Rg4.wt rfl rfl rfl) rfl ?_; apply Exists.intro; refine ⟨fun w' => ?_, ?_⟩; (focus (first | (go_simp; done) | (go_simp; first | rfl | (rw [if_neg] <;> first | rfl | omega) | (rw [if_pos] <;> first | rfl | omega)))); (try simp only [Rg4.nrm])) | (refine Rg4.w4_skip (Rg4.uw rfl rfl rfl) ?_; (try simp only [Rg4.nrm])) | (refine Rg4.w4_skip (Rg4.un rfl rfl rfl) ?_; (try simp only [Rg4.nrm])))
  iterate 2 (refine Rg4.w4_any (Rg4.want_none rfl) rfl ?_; apply Exists.intro; refine ⟨fun w' => ?_, ?_⟩; (focus (first | (go_simp; done) | (go_simp; first | rfl | (rw [if_neg] <;> first | rfl | omega) | (rw [if_pos] <;> first | rfl | omega)))); (try simp only [Rg4.nrm]))
  iterate 3 (first | (refine Rg4.w4_any (Rg4.wt rfl rfl rfl) rfl ?_; apply Exists.intro; refine ⟨fun w' => ?_, ?_⟩; (focus (first | (go_simp; done) | (go_simp; first | rfl | (rw [if_neg] <;> first | rfl | omega) | (rw [if_pos] <;> first | rfl | omega)))); (try simp only [Rg4.nrm])) | (refine Rg4.w4_skip (Rg4.uw rfl rfl rfl) ?_; (try simp only [Rg4.nrm])) | (refine Rg4.w4_skip (Rg4.un rfl rfl rfl) ?_; (try simp only [Rg4.nrm])))
  iterate 2 (refine Rg4.w4_any (Rg4.want_none rfl) rfl ?_; apply Exists.intro; refine ⟨fun w' => ?_, ?_⟩; (focus (first | (go_simp; done) | (go_simp; first | rfl | (rw [if_neg] <;> first | rfl | omega) | (rw [if_pos] <;> first | rfl | omega)))); (try simp only [Rg4.nrm]))
  iterate 2 (first | (refine Rg4.w4_any (Rg4.wt rfl rfl rfl) rfl ?_; apply Exists.intro; refine ⟨fun w' => ?_, ?_⟩; (focus (first | (go_simp; done) | (go_simp; first | rfl | (rw [if_neg] <;> first | rfl | omega) | (rw [if_pos] <;> first | rfl | omega)))); (try simp only [Rg4.nrm])) | (refine Rg4.w4_skip (Rg4.uw rfl rfl rfl) ?_; (try simp only [Rg4.nrm])) | (refine Rg4.w4_skip (Rg4.un rfl rfl rfl) ?_; (try simp only [Rg4.nrm])))
  iterate 2 (first | (refine Rg4.w4_read (Rg4.wt rfl rfl rfl) rfl rfl ?_; apply Exists.intro; refine ⟨fun w' hw' hcl' => ?_, ?_⟩; focus (have st' := st.ext hw'; have hc' := st'.facts; (try simp only [nfl, nft, Nat.reduceAdd] at hc'); have r0 := st'.rowC (i := 6) get6 0 (.int .i64 1) rfl; have r1 := st'.rowC (i := 6) get6 1 (S [97]) rfl; have r2 := st'.rowC (i := 6) get6 2 (S [114]) rfl; have r3 := st'.rowC (i := 6) get6 3 (S [98, 111, 98]) rfl; have r4 := st'.rowC (i := 6) get6 4 (S []) rfl; have r5 := st'.rowC (i := 6) get6 5 (S []) rfl; have r6 := st'.rowC (i := 6) get6 6 (S []) rfl; have r7 := st'.rowC (i := 6) get6 7 (S []) rfl; have r8 := st'.rowC (i := 6) get6 8 (S []) rfl; unfold S at r1 r2 r3 r4 r5 r6 r7 r8; have q4 := conv_bs (P := Tryz.prog) (src := 26) (dst := 9) (c := pc) Tryz.underlying26 Tryz.underlying5 Tryz.underlying9 (st'.rowBy (i := 3) get3).2; unfold S at q4; rw [HUb.out] at q4; (focus (first | (go_simp; done) | (go_simp; first | rfl | (rw [if_neg] <;> first | rfl | omega) | (rw [if_pos] <;> first | rfl | omega))))); (try simp only [Rg4.nrm])) | (refine Rg4.w4_skip (Rg4.uw rfl rfl rfl) ?_; (try simp only [Rg4.nrm])) | (refine Rg4.w4_skip (Rg4.un rfl rfl rfl) ?_; (try simp only [Rg4.nrm])))
  (first | (refine Rg4.w4_any (Rg4.wt rfl rfl rfl) rfl ?_; apply Exists.intro; refine ⟨fun w' => ?_, ?_⟩; (focus (first | (go_simp; done) | (go_simp; first | rfl | (rw [if_neg] <;> first | rfl | omega) | (rw [if_pos] <;> first | rfl | omega)))); (try simp only [Rg4.nrm])) | (refine Rg4.w4_skip (Rg4.uw rfl rfl rfl) ?_; (try simp only [Rg4.nrm])) | (refine Rg4.w4_skip (Rg4.un rfl rfl rfl) ?_; (try simp only [Rg4.nrm])))
  iterate 2 (refine Rg4.w4_any (Rg4.want_none rfl) rfl ?_; apply Exists.intro; refine ⟨fun w' => ?_, ?_⟩; (focus (first | (go_simp; done) | (go_simp; first | rfl | (rw [if_neg] <;> first | rfl | omega) | (rw [if_pos] <;> first | rfl | omega)))); (try simp only [Rg4.nrm]))
  (first | (refine Rg4.w4_any (Rg4.wt rfl rfl rfl) rfl ?_; apply Exists.intro; refine ⟨fun w' => ?_, ?_⟩; (focus (first | (go_simp; done) | (go_simp; first | rfl | (rw [if_neg] <;> first | rfl | omega) | (rw [if_pos] <;> first | rfl | omega)))); (try simp only [Rg4.nrm])) | (refine Rg4.w4_skip (Rg4.uw rfl rfl rfl) ?_; (try simp only [Rg4.nrm])) | (refine Rg4.w4_skip (Rg4.un rfl rfl rfl) ?_; (try simp only [Rg4.nrm])))
  (first | (refine Rg4.w4_read (Rg4.wt rfl rfl rfl) rfl rfl ?_; apply Exists.intro; refine ⟨fun w' hw' hcl' => ?_, ?_⟩; focus (have st' := st.ext hw'; have hc' := st'.facts; (try simp only [nfl, nft, Nat.reduceAdd] at hc'); have r0 := st'.rowC (i := 6) get6 0 (.int .i64 1) rfl; have r1 := st'.rowC (i := 6) get6 1 (S [97]) rfl; have r2 := st'.rowC (i := 6) get6 2 (S [114]) rfl; have r3 := st'.rowC (i := 6) get6 3 (S [98, 111, 98]) rfl; have r4 := st'.rowC (i := 6) get6 4 (S []) rfl; have r5 := st'.rowC (i := 6) get6 5 (S []) rfl; have r6 := st'.rowC (i := 6) get6 6 (S []) rfl; have r7 := st'.rowC (i := 6) get6 7 (S []) rfl; have r8 := st'.rowC (i := 6) get6 8 (S []) rfl; unfold S at r1 r2 r3 r4 r5 r6 r7 r8; have q4 := conv_bs (P := Tryz.prog) (src := 26) (dst := 9) (c := pc) Tryz.underlying26 Tryz.underlying5 Tryz.underlying9 (st'.rowBy (i := 3) get3).2; unfold S at q4; rw [HUb.out] at q4; (focus (first | (go_simp; done) | (go_simp; first | rfl | (rw [if_neg] <;> first | rfl | omega) | (rw [if_pos] <;> first | rfl | omega))))); (try simp only [Rg4.nrm])) | (refine Rg4.w4_skip (Rg4.uw rfl rfl rfl) ?_; (try simp only [Rg4.nrm])) | (refine Rg4.w4_skip (Rg4.un rfl rfl rfl) ?_; (try simp only [Rg4.nrm])))
  refine Rg4.w4_some (Rg4.want_of 44 77 true rfl rfl rfl) rfl (fun w' hw' hcl' _ => ?_) ?_
  · refine Rg.relAt_call (by go_simp; exact ⟨rfl, rfl⟩) ?_
    have st' := st.ext hw'
    refine (credHas_any _ 2 _ [dX, cX] cX _ (st'.rowFl3 (α := CredT) (xs := [dX, cX]) (i := 6) get6).2 (by omega)).mono ?_
    rintro en w'' ⟨rfl, hx⟩
    exact ⟨_, rfl, hx, trivial, by rw [show decide (cX ∈ [dX, cX]) = true from by decide +kernel]; rfl⟩
  rintro v ⟨_, _, _, rfl⟩
  (try simp only [Rg4.nrm])
  iterate 2 (refine Rg4.w4_any (Rg4.want_none rfl) rfl ?_; apply Exists.intro; refine ⟨fun w' => ?_, ?_⟩; (focus (first | (go_simp; done) | (go_simp; first | rfl | (rw [if_neg] <;> first | rfl | omega) | (rw [if_pos] <;> first | rfl | omega)))); (try simp only [Rg4.nrm]))
  (first | (refine Rg4.w4_read (Rg4.wt rfl rfl rfl) rfl rfl ?_; apply Exists.intro; refine ⟨fun w' hw' hcl' => ?_, ?_⟩; focus (have st' := st.ext hw'; have hc' := st'.facts; (try simp only [nfl, nft, Nat.reduceAdd] at hc'); have r0 := st'.rowC (i := 6) get6 0 (.int .i64 1) rfl; have r1 := st'.rowC (i := 6) get6 1 (S [97]) rfl; have r2 := st'.rowC (i := 6) get6 2 (S [114]) rfl; have r3 := st'.rowC (i := 6) get6 3 (S [98, 111, 98]) rfl; have r4 := st'.rowC (i := 6) get6 4 (S []) rfl; have r5 := st'.rowC (i := 6) get6 5 (S []) rfl; have r6 := st'.rowC (i := 6) get6 6 (S []) rfl; have r7 := st'.rowC (i := 6) get6 7 (S []) rfl; have r8 := st'.rowC (i := 6) get6 8 (S []) rfl; unfold S at r1 r2 r3 r4 r5 r6 r7 r8; have q4 := conv_bs (P := Tryz.prog) (src := 26) (dst := 9) (c := pc) Tryz.underlying26 Tryz.underlying5 Tryz.underlying9 (st'.rowBy (i := 3) get3).2; unfold S at q4; rw [HUb.out] at q4; (focus (first | (go_simp; done) | (go_simp; first | rfl | (rw [if_neg] <;> first | rfl | omega) | (rw [if_pos] <;> first | rfl | omega))))); (try simp only [Rg4.nrm])) | (refine Rg4.w4_skip (Rg4.uw rfl rfl rfl) ?_; (try simp only [Rg4.nrm])) | (refine Rg4.w4_skip (Rg4.un rfl rfl rfl) ?_; (try simp only [Rg4.nrm])))
  refine Rg4.w4_bar (Rg4.want_of 49 82 true rfl rfl rfl) rfl (fun w' hw' hcl _ K hK => ?_)
  replace st := st.ext hw'
  clear hw'
  (try clear hc); have hc := st.facts; (try simp only [nfl, nft, Nat.reduceAdd] at hc)
  go_wp2_with fail
  refine (HCX.out _).mono ?_
  rintro en w ⟨wa, wc, rfl, hnew⟩
  replace st := st.fresh hnew
  clear hnew
  (try simp only [nsl, Value.cells, unB] at st)
  (try clear hc); have hc := st.facts; (try simp only [nfl, nft, Nat.reduceAdd] at hc)
  refine hK _ _ ⟨trivial, ?_⟩
  clear hK
  (try simp only [Rg4.nrm])
  iterate 2 (first | (refine Rg4.w4_any (Rg4.wt rfl rfl rfl) rfl ?_; apply Exists.intro; refine ⟨fun w' => ?_, ?_⟩; (focus (first | (go_simp; done) | (go_simp; first | rfl | (rw [if_neg] <;> first | rfl | omega) | (rw [if_pos] <;> first | rfl | omega)))); (try simp only [Rg4.nrm])) | (refine Rg4.w4_skip (Rg4.uw rfl rfl rfl) ?_; (try simp only [Rg4.nrm])) | (refine Rg4.w4_skip (Rg4.un rfl rfl rfl) ?_; (try simp only [Rg4.nrm])))
  iterate 2 (refine Rg4.w4_any (Rg4.want_none rfl) rfl ?_; apply Exists.intro; refine ⟨fun w' => ?_, ?_⟩; (focus (first | (go_simp; done) | (go_simp; first | rfl | (rw [if_neg] <;> first | rfl | omega) | (rw [if_pos] <;> first | rfl | omega)))); (try simp only [Rg4.nrm]))
  (first | (refine Rg4.w4_read (Rg4.wt rfl rfl rfl) rfl rfl ?_; apply Exists.intro; refine ⟨fun w' hw' hcl' => ?_, ?_⟩; focus (have st' := st.ext hw'; have hc' := st'.facts; (try simp only [nfl, nft, Nat.reduceAdd] at hc'); have r0 := st'.rowC (i := 6) get6 0 (.int .i64 1) rfl; have r1 := st'.rowC (i := 6) get6 1 (S [97]) rfl; have r2 := st'.rowC (i := 6) get6 2 (S [114]) rfl; have r3 := st'.rowC (i := 6) get6 3 (S [98, 111, 98]) rfl; have r4 := st'.rowC (i := 6) get6 4 (S []) rfl; have r5 := st'.rowC (i := 6) get6 5 (S []) rfl; have r6 := st'.rowC (i := 6) get6 6 (S []) rfl; have r7 := st'.rowC (i := 6) get6 7 (S []) rfl; have r8 := st'.rowC (i := 6) get6 8 (S []) rfl; unfold S at r1 r2 r3 r4 r5 r6 r7 r8; have q4 := conv_bs (P := Tryz.prog) (src := 26) (dst := 9) (c := pc) Tryz.underlying26 Tryz.underlying5 Tryz.underlying9 (st'.rowBy (i := 3) get3).2; unfold S at q4; rw [HUb.out] at q4; (focus (first | (go_simp; done) | (go_simp; first | rfl | (rw [if_neg] <;> first | rfl | omega) | (rw [if_pos] <;> first | rfl | omega))))); (try simp only [Rg4.nrm])) | (refine Rg4.w4_skip (Rg4.uw rfl rfl rfl) ?_; (try simp only [Rg4.nrm])) | (refine Rg4.w4_skip (Rg4.un rfl rfl rfl) ?_; (try simp only [Rg4.nrm])))
  refine Rg4.w4_some (Rg4.want_of 55 88 true rfl rfl rfl) rfl (fun w' hw' hcl' _ => ?_) ?_
  · refine Rg.relAt_call (by go_simp; exact ⟨rfl, rfl⟩) ?_
    refine (HTX.out _).mono ?_
    rintro en w'' ⟨rfl, hx⟩
    exact ⟨_, rfl, hx, trivial, rfl⟩
  rintro v ⟨_, _, _, rfl⟩
  (try simp only [Rg4.nrm])
  (first | (refine Rg4.w4_any (Rg4.wt rfl rfl rfl) rfl ?_; apply Exists.intro; refine ⟨fun w' => ?_, ?_⟩; (focus (first | (go_simp; done) | (go_simp; first | rfl | (rw [if_neg] <;> first | rfl | omega) | (rw [if_pos] <;> first | rfl | omega)))); (try simp only [Rg4.nrm])) | (refine Rg4.w4_skip (Rg4.uw rfl rfl rfl) ?_; (try simp only [Rg4.nrm])) | (refine Rg4.w4_skip (Rg4.un rfl rfl rfl) ?_; (try simp only [Rg4.nrm])))
  iterate 2 (refine Rg4.w4_any (Rg4.want_none rfl) rfl ?_; apply Exists.intro; refine ⟨fun w' => ?_, ?_⟩; (focus (first | (go_simp; done) | (go_simp; first | rfl | (rw [if_neg] <;> first | rfl | omega) | (rw [if_pos] <;> first | rfl | omega)))); (try simp only [Rg4.nrm]))
  refine Rg4.w4_nil (fun w' hw' hcl' _ => ?_); replace st := st.ext hw'; clear hw' hcl'; (try clear hc); have hc := st.facts; (try simp only [nfl, nft, Nat.reduceAdd] at hc)
  go_wp2_with fail
  go_ret
  exact ⟨rfl, st.ext0⟩
end Go.Proofs.YtekngjkjgmplpaaGreat

namespace Go.Proofs.YtekngjkjgmplpaaGreat
set_option linter.unusedSimpArgs false
set_option linter.unusedVariables false
open Go Go.RowKit
set_option maxRecDepth 100000 in
set_option maxHeartbeats 16000000 in
theorem credTells_all (x : CredT) (s : List UInt8) (W : World) (hg : Glob W) (hw : wtC x ≤ 100000000) (hs : s.length ≤ 9223372036854775807) :
    Calls Tryz.prog 5 #[cV x, S s] W fun e w' => e = .returned (.bool true) ∧ Ext W w' := by
  have HG := Lib.hid hg
  have HW : Hid (weightC [x] = wtC x) := Lib.hid (by simp [weightC])
  have HLL : Hid (wtC x ≤ 500 → CredL 100000 x) := Lib.hid (fun h => wtC_L (by omega))
  obtain ⟨wt, hwt⟩ : ∃ m, wtC x = m := ⟨_, rfl⟩
  rw [hwt] at HW hw HLL
  clear hwt hg
  have hsz : (⟨s.toArray⟩ : ByteArray).size = s.length := by simp [ByteArray.size]
  have HXV : Hid (cV x = .agg #[.int .i64 x.k, .string ⟨x.h.1.toArray⟩, .string ⟨x.h.2.toArray⟩, .string ⟨x.w.toArray⟩, .string ⟨x.b.1.toArray⟩, .string ⟨x.b.2.toArray⟩, .string ⟨x.c.1.toArray⟩, .string ⟨x.c.2.toArray⟩, .string ⟨x.e.toArray⟩]) := Lib.hid rfl
  have st := Own.startOld W
  by_cases h1 : 500 < wt
  · rw [HXV.out]
    unfold S
    (try simp only [nsl, Value.cells, unB] at st)
    (try clear hc); have hc := st.facts; (try simp only [nfl, nft, Nat.reduceAdd] at hc)
    go_enter Tryz.func5, Tryz.ntmps5
    go_wp2_with ((first
          | ((with_reducible refine wl_box ?_ (fun K hK => ?_)); rfl; refine owp_box (o := ⟨some 2, _, _, _, _, _⟩) rfl st ?_; apply Exists.intro; refine ⟨?_, ?_⟩; (focus (go_simp; try rfl)); (clear st; intro b2 w hb st; clear hb))
          | ((with_reducible refine wl_buildSlice ?_ (fun K hK => ?_)); rfl; refine owp_buildSlice (o := ⟨some 14, _, _, _, _, _⟩) rfl st ?_; apply Exists.intro; apply Exists.intro; apply Exists.intro; apply Exists.intro; refine ⟨?_, ?_⟩; (focus (go_simp; (first | done | exact ⟨⟨rfl, rfl⟩, rfl⟩ | rfl))); (clear st; intro b14 w hb st; clear hb))
          | ((with_reducible refine wl_alloc ?_ (fun K hK => ?_)); rfl; refine owp_alloc (o := ⟨some 7, _, _, _, _, _⟩) rfl st ?_; apply Exists.intro; apply Exists.intro; refine ⟨?_, ?_⟩; (focus (first | (go_simp; done) | (go_simp; rfl))); (clear st; intro b7 w hb st; clear hb))
          | ((with_reducible refine wl_store ?_ (fun K hK => ?_)); rfl; refine owp_store rfl st ?_; apply Exists.intro; apply Exists.intro; refine ⟨?_, ?_, ?_⟩; (focus (go_simp; try rfl)); (focus (go_simp; try rfl)); (first | (with_reducible refine ⟨0, _, _, _, _, get0, rfl, rfl, ?_, ?_, ?_, ?_⟩) | (with_reducible refine ⟨1, _, _, _, _, get1, rfl, rfl, ?_, ?_, ?_, ?_⟩) | (with_reducible refine ⟨2, _, _, _, _, get2, rfl, rfl, ?_, ?_, ?_, ?_⟩) | (with_reducible refine ⟨3, _, _, _, _, get3, rfl, rfl, ?_, ?_, ?_, ?_⟩) | (with_reducible refine ⟨4, _, _, _, _, get4, rfl, rfl, ?_, ?_, ?_, ?_⟩) | (with_reducible refine ⟨5, _, _, _, _, get5, rfl, rfl, ?_, ?_, ?_, ?_⟩) | (with_reducible refine ⟨6, _, _, _, _, get6, rfl, rfl, ?_, ?_, ?_, ?_⟩) | (with_reducible refine ⟨7, _, _, _, _, get7, rfl, rfl, ?_, ?_, ?_, ?_⟩)); (kernel_rfl); (simp [Value.cells]); (rfl); (clear st; intro w st))
          | ((with_reducible refine wl_alloc ?_ (fun K hK => ?_)); rfl; refine owp_alloc (o := ⟨some 9, _, _, _, _, _⟩) rfl st ?_; apply Exists.intro; apply Exists.intro; refine ⟨?_, ?_⟩; (focus (first | (go_simp; done) | (go_simp; rfl))); (clear st; intro b9 w hb st; clear hb))
          | ((with_reducible refine wl_convert ?_ (fun K hK => ?_)); rfl; (first | (refine owp_bs (o := ⟨some 52, _, _, _, _, _⟩) rfl st 0 get0 rfl Tryz.underlying26 Tryz.underlying5 Tryz.underlying9 ?_) | (refine owp_bs (o := ⟨some 52, _, _, _, _, _⟩) rfl st 1 get1 rfl Tryz.underlying26 Tryz.underlying5 Tryz.underlying9 ?_) | (refine owp_bs (o := ⟨some 52, _, _, _, _, _⟩) rfl st 2 get2 rfl Tryz.underlying26 Tryz.underlying5 Tryz.underlying9 ?_) | (refine owp_bs (o := ⟨some 52, _, _, _, _, _⟩) rfl st 3 get3 rfl Tryz.underlying26 Tryz.underlying5 Tryz.underlying9 ?_) | (refine owp_bs (o := ⟨some 52, _, _, _, _, _⟩) rfl st 4 get4 rfl Tryz.underlying26 Tryz.underlying5 Tryz.underlying9 ?_) | (refine owp_bs (o := ⟨some 52, _, _, _, _, _⟩) rfl st 5 get5 rfl Tryz.underlying26 Tryz.underlying5 Tryz.underlying9 ?_) | (refine owp_bs (o := ⟨some 52, _, _, _, _, _⟩) rfl st 6 get6 rfl Tryz.underlying26 Tryz.underlying5 Tryz.underlying9 ?_) | (refine owp_bs (o := ⟨some 52, _, _, _, _, _⟩) rfl st 7 get7 rfl Tryz.underlying26 Tryz.underlying5 Tryz.underlying9 ?_)))); (try simp only [nsl, Value.cells, unB] at st); (try clear hc); have hc := st.facts; (try simp only [nfl, nft, Nat.reduceAdd] at hc))
    refine (credFirst_any _ (HG.out.ext st.ext0)).mono ?_
    rintro en w ⟨rfl, hx⟩
    replace st := st.ext hx
    clear hx
    (try clear hc); have hc := st.facts; (try simp only [nfl, nft, Nat.reduceAdd] at hc)
    go_wp2_with ((first
          | ((with_reducible refine wl_box ?_ (fun K hK => ?_)); rfl; refine owp_box (o := ⟨some 2, _, _, _, _, _⟩) rfl st ?_; apply Exists.intro; refine ⟨?_, ?_⟩; (focus (go_simp; try rfl)); (clear st; intro b2 w hb st; clear hb))
          | ((with_reducible refine wl_buildSlice ?_ (fun K hK => ?_)); rfl; refine owp_buildSlice (o := ⟨some 14, _, _, _, _, _⟩) rfl st ?_; apply Exists.intro; apply Exists.intro; apply Exists.intro; apply Exists.intro; refine ⟨?_, ?_⟩; (focus (go_simp; (first | done | exact ⟨⟨rfl, rfl⟩, rfl⟩ | rfl))); (clear st; intro b14 w hb st; clear hb))
          | ((with_reducible refine wl_alloc ?_ (fun K hK => ?_)); rfl; refine owp_alloc (o := ⟨some 7, _, _, _, _, _⟩) rfl st ?_; apply Exists.intro; apply Exists.intro; refine ⟨?_, ?_⟩; (focus (first | (go_simp; done) | (go_simp; rfl))); (clear st; intro b7 w hb st; clear hb))
          | ((with_reducible refine wl_store ?_ (fun K hK => ?_)); rfl; refine owp_store rfl st ?_; apply Exists.intro; apply Exists.intro; refine ⟨?_, ?_, ?_⟩; (focus (go_simp; try rfl)); (focus (go_simp; try rfl)); (first | (with_reducible refine ⟨0, _, _, _, _, get0, rfl, rfl, ?_, ?_, ?_, ?_⟩) | (with_reducible refine ⟨1, _, _, _, _, get1, rfl, rfl, ?_, ?_, ?_, ?_⟩) | (with_reducible refine ⟨2, _, _, _, _, get2, rfl, rfl, ?_, ?_, ?_, ?_⟩) | (with_reducible refine ⟨3, _, _, _, _, get3, rfl, rfl, ?_, ?_, ?_, ?_⟩) | (with_reducible refine ⟨4, _, _, _, _, get4, rfl, rfl, ?_, ?_, ?_, ?_⟩) | (with_reducible refine ⟨5, _, _, _, _, get5, rfl, rfl, ?_, ?_, ?_, ?_⟩) | (with_reducible refine ⟨6, _, _, _, _, get6, rfl, rfl, ?_, ?_, ?_, ?_⟩) | (with_reducible refine ⟨7, _, _, _, _, get7, rfl, rfl, ?_, ?_, ?_, ?_⟩)); (kernel_rfl); (simp [Value.cells]); (rfl); (clear st; intro w st))
          | ((with_reducible refine wl_alloc ?_ (fun K hK => ?_)); rfl; refine owp_alloc (o := ⟨some 9, _, _, _, _, _⟩) rfl st ?_; apply Exists.intro; apply Exists.intro; refine ⟨?_, ?_⟩; (focus (first | (go_simp; done) | (go_simp; rfl))); (clear st; intro b9 w hb st; clear hb))
          | ((with_reducible refine wl_convert ?_ (fun K hK => ?_)); rfl; (first | (refine owp_bs (o := ⟨some 52, _, _, _, _, _⟩) rfl st 0 get0 rfl Tryz.underlying26 Tryz.underlying5 Tryz.underlying9 ?_) | (refine owp_bs (o := ⟨some 52, _, _, _, _, _⟩) rfl st 1 get1 rfl Tryz.underlying26 Tryz.underlying5 Tryz.underlying9 ?_) | (refine owp_bs (o := ⟨some 52, _, _, _, _, _⟩) rfl st 2 get2 rfl Tryz.underlying26 Tryz.underlying5 Tryz.underlying9 ?_) | (refine owp_bs (o := ⟨some 52, _, _, _, _, _⟩) rfl st 3 get3 rfl Tryz.underlying26 Tryz.underlying5 Tryz.underlying9 ?_) | (refine owp_bs (o := ⟨some 52, _, _, _, _, _⟩) rfl st 4 get4 rfl Tryz.underlying26 Tryz.underlying5 Tryz.underlying9 ?_) | (refine owp_bs (o := ⟨some 52, _, _, _, _, _⟩) rfl st 5 get5 rfl Tryz.underlying26 Tryz.underlying5 Tryz.underlying9 ?_) | (refine owp_bs (o := ⟨some 52, _, _, _, _, _⟩) rfl st 6 get6 rfl Tryz.underlying26 Tryz.underlying5 Tryz.underlying9 ?_) | (refine owp_bs (o := ⟨some 52, _, _, _, _, _⟩) rfl st 7 get7 rfl Tryz.underlying26 Tryz.underlying5 Tryz.underlying9 ?_)))); (try simp only [nsl, Value.cells, unB] at st); (try clear hc); have hc := st.facts; (try simp only [nfl, nft, Nat.reduceAdd] at hc))
    have hF := fl_lit (st.blk (i := 2) get2) ([x] : List CredT) rfl
    refine (credGreat_any _ 1 _ [x] _ hF (by rw [HW.out]; omega)).mono ?_
    rintro en w ⟨rfl, hx⟩
    replace st := st.ext hx
    clear hx
    (try clear hc); have hc := st.facts; (try simp only [nfl, nft, Nat.reduceAdd] at hc)
    rw [HW.out]
    clear hF
    go_wp2_with ((first
          | ((with_reducible refine wl_box ?_ (fun K hK => ?_)); rfl; refine owp_box (o := ⟨some 2, _, _, _, _, _⟩) rfl st ?_; apply Exists.intro; refine ⟨?_, ?_⟩; (focus (go_simp; try rfl)); (clear st; intro b2 w hb st; clear hb))
          | ((with_reducible refine wl_buildSlice ?_ (fun K hK => ?_)); rfl; refine owp_buildSlice (o := ⟨some 14, _, _, _, _, _⟩) rfl st ?_; apply Exists.intro; apply Exists.intro; apply Exists.intro; apply Exists.intro; refine ⟨?_, ?_⟩; (focus (go_simp; (first | done | exact ⟨⟨rfl, rfl⟩, rfl⟩ | rfl))); (clear st; intro b14 w hb st; clear hb))
          | ((with_reducible refine wl_alloc ?_ (fun K hK => ?_)); rfl; refine owp_alloc (o := ⟨some 7, _, _, _, _, _⟩) rfl st ?_; apply Exists.intro; apply Exists.intro; refine ⟨?_, ?_⟩; (focus (first | (go_simp; done) | (go_simp; rfl))); (clear st; intro b7 w hb st; clear hb))
          | ((with_reducible refine wl_store ?_ (fun K hK => ?_)); rfl; refine owp_store rfl st ?_; apply Exists.intro; apply Exists.intro; refine ⟨?_, ?_, ?_⟩; (focus (go_simp; try rfl)); (focus (go_simp; try rfl)); (first | (with_reducible refine ⟨0, _, _, _, _, get0, rfl, rfl, ?_, ?_, ?_, ?_⟩) | (with_reducible refine ⟨1, _, _, _, _, get1, rfl, rfl, ?_, ?_, ?_, ?_⟩) | (with_reducible refine ⟨2, _, _, _, _, get2, rfl, rfl, ?_, ?_, ?_, ?_⟩) | (with_reducible refine ⟨3, _, _, _, _, get3, rfl, rfl, ?_, ?_, ?_, ?_⟩) | (with_reducible refine ⟨4, _, _, _, _, get4, rfl, rfl, ?_, ?_, ?_, ?_⟩) | (with_reducible refine ⟨5, _, _, _, _, get5, rfl, rfl, ?_, ?_, ?_, ?_⟩) | (with_reducible refine ⟨6, _, _, _, _, get6, rfl, rfl, ?_, ?_, ?_, ?_⟩) | (with_reducible refine ⟨7, _, _, _, _, get7, rfl, rfl, ?_, ?_, ?_, ?_⟩)); (kernel_rfl); (simp [Value.cells]); (rfl); (clear st; intro w st))
          | ((with_reducible refine wl_alloc ?_ (fun K hK => ?_)); rfl; refine owp_alloc (o := ⟨some 9, _, _, _, _, _⟩) rfl st ?_; apply Exists.intro; apply Exists.intro; refine ⟨?_, ?_⟩; (focus (first | (go_simp; done) | (go_simp; rfl))); (clear st; intro b9 w hb st; clear hb))
          | ((with_reducible refine wl_convert ?_ (fun K hK => ?_)); rfl; (first | (refine owp_bs (o := ⟨some 52, _, _, _, _, _⟩) rfl st 0 get0 rfl Tryz.underlying26 Tryz.underlying5 Tryz.underlying9 ?_) | (refine owp_bs (o := ⟨some 52, _, _, _, _, _⟩) rfl st 1 get1 rfl Tryz.underlying26 Tryz.underlying5 Tryz.underlying9 ?_) | (refine owp_bs (o := ⟨some 52, _, _, _, _, _⟩) rfl st 2 get2 rfl Tryz.underlying26 Tryz.underlying5 Tryz.underlying9 ?_) | (refine owp_bs (o := ⟨some 52, _, _, _, _, _⟩) rfl st 3 get3 rfl Tryz.underlying26 Tryz.underlying5 Tryz.underlying9 ?_) | (refine owp_bs (o := ⟨some 52, _, _, _, _, _⟩) rfl st 4 get4 rfl Tryz.underlying26 Tryz.underlying5 Tryz.underlying9 ?_) | (refine owp_bs (o := ⟨some 52, _, _, _, _, _⟩) rfl st 5 get5 rfl Tryz.underlying26 Tryz.underlying5 Tryz.underlying9 ?_) | (refine owp_bs (o := ⟨some 52, _, _, _, _, _⟩) rfl st 6 get6 rfl Tryz.underlying26 Tryz.underlying5 Tryz.underlying9 ?_) | (refine owp_bs (o := ⟨some 52, _, _, _, _, _⟩) rfl st 7 get7 rfl Tryz.underlying26 Tryz.underlying5 Tryz.underlying9 ?_)))); (try simp only [nsl, Value.cells, unB] at st); (try clear hc); have hc := st.facts; (try simp only [nfl, nft, Nat.reduceAdd] at hc))
    go_ret
    exact ⟨rfl, st.ext0⟩
  by_cases h2 : 300 < s.length
  · rw [HXV.out]
    unfold S
    (try simp only [nsl, Value.cells, unB] at st)
    (try clear hc); have hc := st.facts; (try simp only [nfl, nft, Nat.reduceAdd] at hc)
    go_enter Tryz.func5, Tryz.ntmps5
    go_wp2_with ((first
          | ((with_reducible refine wl_box ?_ (fun K hK => ?_)); rfl; refine owp_box (o := ⟨some 2, _, _, _, _, _⟩) rfl st ?_; apply Exists.intro; refine ⟨?_, ?_⟩; (focus (go_simp; try rfl)); (clear st; intro b2 w hb st; clear hb))
          | ((with_reducible refine wl_buildSlice ?_ (fun K hK => ?_)); rfl; refine owp_buildSlice (o := ⟨some 14, _, _, _, _, _⟩) rfl st ?_; apply Exists.intro; apply Exists.intro; apply Exists.intro; apply Exists.intro; refine ⟨?_, ?_⟩; (focus (go_simp; (first | done | exact ⟨⟨rfl, rfl⟩, rfl⟩ | rfl))); (clear st; intro b14 w hb st; clear hb))
          | ((with_reducible refine wl_alloc ?_ (fun K hK => ?_)); rfl; refine owp_alloc (o := ⟨some 7, _, _, _, _, _⟩) rfl st ?_; apply Exists.intro; apply Exists.intro; refine ⟨?_, ?_⟩; (focus (first | (go_simp; done) | (go_simp; rfl))); (clear st; intro b7 w hb st; clear hb))
          | ((with_reducible refine wl_store ?_ (fun K hK => ?_)); rfl; refine owp_store rfl st ?_; apply Exists.intro; apply Exists.intro; refine ⟨?_, ?_, ?_⟩; (focus (go_simp; try rfl)); (focus (go_simp; try rfl)); (first | (with_reducible refine ⟨0, _, _, _, _, get0, rfl, rfl, ?_, ?_, ?_, ?_⟩) | (with_reducible refine ⟨1, _, _, _, _, get1, rfl, rfl, ?_, ?_, ?_, ?_⟩) | (with_reducible refine ⟨2, _, _, _, _, get2, rfl, rfl, ?_, ?_, ?_, ?_⟩) | (with_reducible refine ⟨3, _, _, _, _, get3, rfl, rfl, ?_, ?_, ?_, ?_⟩) | (with_reducible refine ⟨4, _, _, _, _, get4, rfl, rfl, ?_, ?_, ?_, ?_⟩) | (with_reducible refine ⟨5, _, _, _, _, get5, rfl, rfl, ?_, ?_, ?_, ?_⟩) | (with_reducible refine ⟨6, _, _, _, _, get6, rfl, rfl, ?_, ?_, ?_, ?_⟩) | (with_reducible refine ⟨7, _, _, _, _, get7, rfl, rfl, ?_, ?_, ?_, ?_⟩)); (kernel_rfl); (simp [Value.cells]); (rfl); (clear st; intro w st))
          | ((with_reducible refine wl_alloc ?_ (fun K hK => ?_)); rfl; refine owp_alloc (o := ⟨some 9, _, _, _, _, _⟩) rfl st ?_; apply Exists.intro; apply Exists.intro; refine ⟨?_, ?_⟩; (focus (first | (go_simp; done) | (go_simp; rfl))); (clear st; intro b9 w hb st; clear hb))
          | ((with_reducible refine wl_convert ?_ (fun K hK => ?_)); rfl; (first | (refine owp_bs (o := ⟨some 52, _, _, _, _, _⟩) rfl st 0 get0 rfl Tryz.underlying26 Tryz.underlying5 Tryz.underlying9 ?_) | (refine owp_bs (o := ⟨some 52, _, _, _, _, _⟩) rfl st 1 get1 rfl Tryz.underlying26 Tryz.underlying5 Tryz.underlying9 ?_) | (refine owp_bs (o := ⟨some 52, _, _, _, _, _⟩) rfl st 2 get2 rfl Tryz.underlying26 Tryz.underlying5 Tryz.underlying9 ?_) | (refine owp_bs (o := ⟨some 52, _, _, _, _, _⟩) rfl st 3 get3 rfl Tryz.underlying26 Tryz.underlying5 Tryz.underlying9 ?_) | (refine owp_bs (o := ⟨some 52, _, _, _, _, _⟩) rfl st 4 get4 rfl Tryz.underlying26 Tryz.underlying5 Tryz.underlying9 ?_) | (refine owp_bs (o := ⟨some 52, _, _, _, _, _⟩) rfl st 5 get5 rfl Tryz.underlying26 Tryz.underlying5 Tryz.underlying9 ?_) | (refine owp_bs (o := ⟨some 52, _, _, _, _, _⟩) rfl st 6 get6 rfl Tryz.underlying26 Tryz.underlying5 Tryz.underlying9 ?_) | (refine owp_bs (o := ⟨some 52, _, _, _, _, _⟩) rfl st 7 get7 rfl Tryz.underlying26 Tryz.underlying5 Tryz.underlying9 ?_)))); (try simp only [nsl, Value.cells, unB] at st); (try clear hc); have hc := st.facts; (try simp only [nfl, nft, Nat.reduceAdd] at hc))
    refine (credFirst_any _ (HG.out.ext st.ext0)).mono ?_
    rintro en w ⟨rfl, hx⟩
    replace st := st.ext hx
    clear hx
    (try clear hc); have hc := st.facts; (try simp only [nfl, nft, Nat.reduceAdd] at hc)
    go_wp2_with ((first
          | ((with_reducible refine wl_box ?_ (fun K hK => ?_)); rfl; refine owp_box (o := ⟨some 2, _, _, _, _, _⟩) rfl st ?_; apply Exists.intro; refine ⟨?_, ?_⟩; (focus (go_simp; try rfl)); (clear st; intro b2 w hb st; clear hb))
          | ((with_reducible refine wl_buildSlice ?_ (fun K hK => ?_)); rfl; refine owp_buildSlice (o := ⟨some 14, _, _, _, _, _⟩) rfl st ?_; apply Exists.intro; apply Exists.intro; apply Exists.intro; apply Exists.intro; refine ⟨?_, ?_⟩; (focus (go_simp; (first | done | exact ⟨⟨rfl, rfl⟩, rfl⟩ | rfl))); (clear st; intro b14 w hb st; clear hb))
          | ((with_reducible refine wl_alloc ?_ (fun K hK => ?_)); rfl; refine owp_alloc (o := ⟨some 7, _, _, _, _, _⟩) rfl st ?_; apply Exists.intro; apply Exists.intro; refine ⟨?_, ?_⟩; (focus (first | (go_simp; done) | (go_simp; rfl))); (clear st; intro b7 w hb st; clear hb))
          | ((with_reducible refine wl_store ?_ (fun K hK => ?_)); rfl; refine owp_store rfl st ?_; apply Exists.intro; apply Exists.intro; refine ⟨?_, ?_, ?_⟩; (focus (go_simp; try rfl)); (focus (go_simp; try rfl)); (first | (with_reducible refine ⟨0, _, _, _, _, get0, rfl, rfl, ?_, ?_, ?_, ?_⟩) | (with_reducible refine ⟨1, _, _, _, _, get1, rfl, rfl, ?_, ?_, ?_, ?_⟩) | (with_reducible refine ⟨2, _, _, _, _, get2, rfl, rfl, ?_, ?_, ?_, ?_⟩) | (with_reducible refine ⟨3, _, _, _, _, get3, rfl, rfl, ?_, ?_, ?_, ?_⟩) | (with_reducible refine ⟨4, _, _, _, _, get4, rfl, rfl, ?_, ?_, ?_, ?_⟩) | (with_reducible refine ⟨5, _, _, _, _, get5, rfl, rfl, ?_, ?_, ?_, ?_⟩) | (with_reducible refine ⟨6, _, _, _, _, get6, rfl, rfl, ?_, ?_, ?_, ?_⟩) | (with_reducible refine ⟨7, _, _, _, _, get7, rfl, rfl, ?_, ?_, ?_, ?_⟩)); (kernel_rfl); (simp [Value.cells]); (rfl); (clear st; intro w st))
          | ((with_reducible refine wl_alloc ?_ (fun K hK => ?_)); rfl; refine owp_alloc (o := ⟨some 9, _, _, _, _, _⟩) rfl st ?_; apply Exists.intro; apply Exists.intro; refine ⟨?_, ?_⟩; (focus (first | (go_simp; done) | (go_simp; rfl))); (clear st; intro b9 w hb st; clear hb))
          | ((with_reducible refine wl_convert ?_ (fun K hK => ?_)); rfl; (first | (refine owp_bs (o := ⟨some 52, _, _, _, _, _⟩) rfl st 0 get0 rfl Tryz.underlying26 Tryz.underlying5 Tryz.underlying9 ?_) | (refine owp_bs (o := ⟨some 52, _, _, _, _, _⟩) rfl st 1 get1 rfl Tryz.underlying26 Tryz.underlying5 Tryz.underlying9 ?_) | (refine owp_bs (o := ⟨some 52, _, _, _, _, _⟩) rfl st 2 get2 rfl Tryz.underlying26 Tryz.underlying5 Tryz.underlying9 ?_) | (refine owp_bs (o := ⟨some 52, _, _, _, _, _⟩) rfl st 3 get3 rfl Tryz.underlying26 Tryz.underlying5 Tryz.underlying9 ?_) | (refine owp_bs (o := ⟨some 52, _, _, _, _, _⟩) rfl st 4 get4 rfl Tryz.underlying26 Tryz.underlying5 Tryz.underlying9 ?_) | (refine owp_bs (o := ⟨some 52, _, _, _, _, _⟩) rfl st 5 get5 rfl Tryz.underlying26 Tryz.underlying5 Tryz.underlying9 ?_) | (refine owp_bs (o := ⟨some 52, _, _, _, _, _⟩) rfl st 6 get6 rfl Tryz.underlying26 Tryz.underlying5 Tryz.underlying9 ?_) | (refine owp_bs (o := ⟨some 52, _, _, _, _, _⟩) rfl st 7 get7 rfl Tryz.underlying26 Tryz.underlying5 Tryz.underlying9 ?_)))); (try simp only [nsl, Value.cells, unB] at st); (try clear hc); have hc := st.facts; (try simp only [nfl, nft, Nat.reduceAdd] at hc))
    have hF := fl_lit (st.blk (i := 2) get2) ([x] : List CredT) rfl
    refine (credGreat_any _ 1 _ [x] _ hF (by rw [HW.out]; omega)).mono ?_
    rintro en w ⟨rfl, hx⟩
    replace st := st.ext hx
    clear hx
    (try clear hc); have hc := st.facts; (try simp only [nfl, nft, Nat.reduceAdd] at hc)
    rw [HW.out]
    clear hF
    go_wp2_with ((first
          | ((with_reducible refine wl_box ?_ (fun K hK => ?_)); rfl; refine owp_box (o := ⟨some 2, _, _, _, _, _⟩) rfl st ?_; apply Exists.intro; refine ⟨?_, ?_⟩; (focus (go_simp; try rfl)); (clear st; intro b2 w hb st; clear hb))
          | ((with_reducible refine wl_buildSlice ?_ (fun K hK => ?_)); rfl; refine owp_buildSlice (o := ⟨some 14, _, _, _, _, _⟩) rfl st ?_; apply Exists.intro; apply Exists.intro; apply Exists.intro; apply Exists.intro; refine ⟨?_, ?_⟩; (focus (go_simp; (first | done | exact ⟨⟨rfl, rfl⟩, rfl⟩ | rfl))); (clear st; intro b14 w hb st; clear hb))
          | ((with_reducible refine wl_alloc ?_ (fun K hK => ?_)); rfl; refine owp_alloc (o := ⟨some 7, _, _, _, _, _⟩) rfl st ?_; apply Exists.intro; apply Exists.intro; refine ⟨?_, ?_⟩; (focus (first | (go_simp; done) | (go_simp; rfl))); (clear st; intro b7 w hb st; clear hb))
          | ((with_reducible refine wl_store ?_ (fun K hK => ?_)); rfl; refine owp_store rfl st ?_; apply Exists.intro; apply Exists.intro; refine ⟨?_, ?_, ?_⟩; (focus (go_simp; try rfl)); (focus (go_simp; try rfl)); (first | (with_reducible refine ⟨0, _, _, _, _, get0, rfl, rfl, ?_, ?_, ?_, ?_⟩) | (with_reducible refine ⟨1, _, _, _, _, get1, rfl, rfl, ?_, ?_, ?_, ?_⟩) | (with_reducible refine ⟨2, _, _, _, _, get2, rfl, rfl, ?_, ?_, ?_, ?_⟩) | (with_reducible refine ⟨3, _, _, _, _, get3, rfl, rfl, ?_, ?_, ?_, ?_⟩) | (with_reducible refine ⟨4, _, _, _, _, get4, rfl, rfl, ?_, ?_, ?_, ?_⟩) | (with_reducible refine ⟨5, _, _, _, _, get5, rfl, rfl, ?_, ?_, ?_, ?_⟩) | (with_reducible refine ⟨6, _, _, _, _, get6, rfl, rfl, ?_, ?_, ?_, ?_⟩) | (with_reducible refine ⟨7, _, _, _, _, get7, rfl, rfl, ?_, ?_, ?_, ?_⟩)); (kernel_rfl); (simp [Value.cells]); (rfl); (clear st; intro w st))
          | ((with_reducible refine wl_alloc ?_ (fun K hK => ?_)); rfl; refine owp_alloc (o := ⟨some 9, _, _, _, _, _⟩) rfl st ?_; apply Exists.intro; apply Exists.intro; refine ⟨?_, ?_⟩; (focus (first | (go_simp; done) | (go_simp; rfl))); (clear st; intro b9 w hb st; clear hb))
          | ((with_reducible refine wl_convert ?_ (fun K hK => ?_)); rfl; (first | (refine owp_bs (o := ⟨some 52, _, _, _, _, _⟩) rfl st 0 get0 rfl Tryz.underlying26 Tryz.underlying5 Tryz.underlying9 ?_) | (refine owp_bs (o := ⟨some 52, _, _, _, _, _⟩) rfl st 1 get1 rfl Tryz.underlying26 Tryz.underlying5 Tryz.underlying9 ?_) | (refine owp_bs (o := ⟨some 52, _, _, _, _, _⟩) rfl st 2 get2 rfl Tryz.underlying26 Tryz.underlying5 Tryz.underlying9 ?_) | (refine owp_bs (o := ⟨some 52, _, _, _, _, _⟩) rfl st 3 get3 rfl Tryz.underlying26 Tryz.underlying5 Tryz.underlying9 ?_) | (refine owp_bs (o := ⟨some 52, _, _, _, _, _⟩) rfl st 4 get4 rfl Tryz.underlying26 Tryz.underlying5 Tryz.underlying9 ?_) | (refine owp_bs (o := ⟨some 52, _, _, _, _, _⟩) rfl st 5 get5 rfl Tryz.underlying26 Tryz.underlying5 Tryz.underlying9 ?_) | (refine owp_bs (o := ⟨some 52, _, _, _, _, _⟩) rfl st 6 get6 rfl Tryz.underlying26 Tryz.underlying5 Tryz.underlying9 ?_) | (refine owp_bs (o := ⟨some 52, _, _, _, _, _⟩) rfl st 7 get7 rfl Tryz.underlying26 Tryz.underlying5 Tryz.underlying9 ?_)))); (try simp only [nsl, Value.cells, unB] at st); (try clear hc); have hc := st.facts; (try simp only [nfl, nft, Nat.reduceAdd] at hc))
    go_ret
    exact ⟨rfl, st.ext0⟩
  have hl := HLL.out (by omega)
  have hl1 : x.h.1.length ≤ 1000000 ∧ x.h.2.length ≤ 1000000 ∧ x.w.length ≤ 1000000 ∧ x.b.1.length ≤ 1000000 ∧ x.b.2.length ≤ 1000000 ∧ x.c.1.length ≤ 1000000 ∧ x.c.2.length ≤ 1000000 ∧ x.e.length ≤ 1000000 := by unfold CredL at hl; omega
  have HRR := Lib.hid (fun W => refCredRight_any x W hl1)
  have HR := Lib.hid (fun W => credRight_any x W (by unfold CredL at hl; omega))
  have HRT := Lib.hid (fun W hr => refText_r x W hl hr)
  have HRB := Lib.hid (fun W hr => refCredBytes_any x W hr)
  have HT := Lib.hid (fun W => credText_any x W hl)
  have HB := Lib.hid (fun W => credBytes_f x W hl)
  have HRo := Lib.hid (fun W => credRoles_any x W hl)
  have HRr := Lib.hid (fun W => refRoles_any x W hl)
  have HP := Lib.hid (fun W hg => credParse_any s W (by omega) hg)
  have HQ := Lib.hid (fun W => refCParse_any s W (by omega))
  have HTY : Hid (credTy x = if credR x = true then credTx x else []) := Lib.hid rfl
  have HBY : Hid (credBy x = if credR x = true then credB x else []) := Lib.hid rfl
  have HRL : Hid ((credRo x).length ≤ 9000000000000000000) := Lib.hid (by unfold credRo; split <;> (try split) <;> (try split) <;> simp)
  clear hl hl1
  generalize credRo x = ro at *
  generalize credTx x = T at *
  generalize credB x = U at *
  obtain ⟨ty, hty⟩ : ∃ t, credTy x = t := ⟨_, rfl⟩
  obtain ⟨bu, hbu⟩ : ∃ t, credBy x = t := ⟨_, rfl⟩
  rw [hty] at HT HTY
  rw [hbu] at HB HBY
  obtain ⟨mr, hmr⟩ : ∃ t, credR x = t := ⟨_, rfl⟩
  rw [hmr] at HRR HR HRT HRB HTY HBY
  clear hty hbu hmr
  obtain ⟨z, hz⟩ : ∃ z, refP1 s = z := ⟨_, rfl⟩
  obtain ⟨iz, hiz⟩ : ∃ z, (refP s).isSome = z := ⟨_, rfl⟩
  rw [hz, hiz] at HP HQ
  clear hz hiz
  have hbb : (iz == iz) = true := by simp
  have HZV : Hid (cV z = .agg #[.int .i64 z.k, .string ⟨z.h.1.toArray⟩, .string ⟨z.h.2.toArray⟩, .string ⟨z.w.toArray⟩, .string ⟨z.b.1.toArray⟩, .string ⟨z.b.2.toArray⟩, .string ⟨z.c.1.toArray⟩, .string ⟨z.c.2.toArray⟩, .string ⟨z.e.toArray⟩]) := Lib.hid rfl
  rw [HZV.out] at HP HQ
  rw [HXV.out] at HRR HR HRT HRB HT HB HRo HRr ⊢
  unfold S at HP HQ HRT HRB HT
  unfold S
  (try simp only [nsl, Value.cells, unB] at st)
  (try clear hc); have hc := st.facts; (try simp only [nfl, nft, Nat.reduceAdd] at hc)
  cases mr with
  | true =>
    obtain rfl : ty = T := HTY.out.trans (if_pos (by trivial))
    obtain rfl : bu = U := HBY.out.trans (if_pos (by trivial))
    have htt : (ty == ty) = true := by simp
    have huu : (bu == bu) = true := by simp
    go_enter Tryz.func5, Tryz.ntmps5
    go_wp2_with ((first
          | ((with_reducible refine wl_box ?_ (fun K hK => ?_)); rfl; refine owp_box (o := ⟨some 2, _, _, _, _, _⟩) rfl st ?_; apply Exists.intro; refine ⟨?_, ?_⟩; (focus (go_simp; try rfl)); (clear st; intro b2 w hb st; clear hb))
          | ((with_reducible refine wl_buildSlice ?_ (fun K hK => ?_)); rfl; refine owp_buildSlice (o := ⟨some 14, _, _, _, _, _⟩) rfl st ?_; apply Exists.intro; apply Exists.intro; apply Exists.intro; apply Exists.intro; refine ⟨?_, ?_⟩; (focus (go_simp; (first | done | exact ⟨⟨rfl, rfl⟩, rfl⟩ | rfl))); (clear st; intro b14 w hb st; clear hb))
          | ((with_reducible refine wl_alloc ?_ (fun K hK => ?_)); rfl; refine owp_alloc (o := ⟨some 7, _, _, _, _, _⟩) rfl st ?_; apply Exists.intro; apply Exists.intro; refine ⟨?_, ?_⟩; (focus (first | (go_simp; done) | (go_simp; rfl))); (clear st; intro b7 w hb st; clear hb))
          | ((with_reducible refine wl_store ?_ (fun K hK => ?_)); rfl; refine owp_store rfl st ?_; apply Exists.intro; apply Exists.intro; refine ⟨?_, ?_, ?_⟩; (focus (go_simp; try rfl)); (focus (go_simp; try rfl)); (first | (with_reducible refine ⟨0, _, _, _, _, get0, rfl, rfl, ?_, ?_, ?_, ?_⟩) | (with_reducible refine ⟨1, _, _, _, _, get1, rfl, rfl, ?_, ?_, ?_, ?_⟩) | (with_reducible refine ⟨2, _, _, _, _, get2, rfl, rfl, ?_, ?_, ?_, ?_⟩) | (with_reducible refine ⟨3, _, _, _, _, get3, rfl, rfl, ?_, ?_, ?_, ?_⟩) | (with_reducible refine ⟨4, _, _, _, _, get4, rfl, rfl, ?_, ?_, ?_, ?_⟩) | (with_reducible refine ⟨5, _, _, _, _, get5, rfl, rfl, ?_, ?_, ?_, ?_⟩) | (with_reducible refine ⟨6, _, _, _, _, get6, rfl, rfl, ?_, ?_, ?_, ?_⟩) | (with_reducible refine ⟨7, _, _, _, _, get7, rfl, rfl, ?_, ?_, ?_, ?_⟩)); (kernel_rfl); (simp [Value.cells]); (rfl); (clear st; intro w st))
          | ((with_reducible refine wl_alloc ?_ (fun K hK => ?_)); rfl; refine owp_alloc (o := ⟨some 9, _, _, _, _, _⟩) rfl st ?_; apply Exists.intro; apply Exists.intro; refine ⟨?_, ?_⟩; (focus (first | (go_simp; done) | (go_simp; rfl))); (clear st; intro b9 w hb st; clear hb))
          | ((with_reducible refine wl_convert ?_ (fun K hK => ?_)); rfl; (first | (refine owp_bs (o := ⟨some 52, _, _, _, _, _⟩) rfl st 0 get0 rfl Tryz.underlying26 Tryz.underlying5 Tryz.underlying9 ?_) | (refine owp_bs (o := ⟨some 52, _, _, _, _, _⟩) rfl st 1 get1 rfl Tryz.underlying26 Tryz.underlying5 Tryz.underlying9 ?_) | (refine owp_bs (o := ⟨some 52, _, _, _, _, _⟩) rfl st 2 get2 rfl Tryz.underlying26 Tryz.underlying5 Tryz.underlying9 ?_) | (refine owp_bs (o := ⟨some 52, _, _, _, _, _⟩) rfl st 3 get3 rfl Tryz.underlying26 Tryz.underlying5 Tryz.underlying9 ?_) | (refine owp_bs (o := ⟨some 52, _, _, _, _, _⟩) rfl st 4 get4 rfl Tryz.underlying26 Tryz.underlying5 Tryz.underlying9 ?_) | (refine owp_bs (o := ⟨some 52, _, _, _, _, _⟩) rfl st 5 get5 rfl Tryz.underlying26 Tryz.underlying5 Tryz.underlying9 ?_) | (refine owp_bs (o := ⟨some 52, _, _, _, _, _⟩) rfl st 6 get6 rfl Tryz.underlying26 Tryz.underlying5 Tryz.underlying9 ?_) | (refine owp_bs (o := ⟨some 52, _, _, _, _, _⟩) rfl st 7 get7 rfl Tryz.underlying26 Tryz.underlying5 Tryz.underlying9 ?_)))); (try simp only [nsl, Value.cells, unB] at st); (try clear hc); have hc := st.facts; (try simp only [nfl, nft, Nat.reduceAdd] at hc))
    refine (credFirst_any _ (HG.out.ext st.ext0)).mono ?_
    rintro en w ⟨rfl, hx⟩
    replace st := st.ext hx
    clear hx
    (try clear hc); have hc := st.facts; (try simp only [nfl, nft, Nat.reduceAdd] at hc)
    go_wp2_with ((first
          | ((with_reducible refine wl_box ?_ (fun K hK => ?_)); rfl; refine owp_box (o := ⟨some 2, _, _, _, _, _⟩) rfl st ?_; apply Exists.intro; refine ⟨?_, ?_⟩; (focus (go_simp; try rfl)); (clear st; intro b2 w hb st; clear hb))
          | ((with_reducible refine wl_buildSlice ?_ (fun K hK => ?_)); rfl; refine owp_buildSlice (o := ⟨some 14, _, _, _, _, _⟩) rfl st ?_; apply Exists.intro; apply Exists.intro; apply Exists.intro; apply Exists.intro; refine ⟨?_, ?_⟩; (focus (go_simp; (first | done | exact ⟨⟨rfl, rfl⟩, rfl⟩ | rfl))); (clear st; intro b14 w hb st; clear hb))
          | ((with_reducible refine wl_alloc ?_ (fun K hK => ?_)); rfl; refine owp_alloc (o := ⟨some 7, _, _, _, _, _⟩) rfl st ?_; apply Exists.intro; apply Exists.intro; refine ⟨?_, ?_⟩; (focus (first | (go_simp; done) | (go_simp; rfl))); (clear st; intro b7 w hb st; clear hb))
          | ((with_reducible refine wl_store ?_ (fun K hK => ?_)); rfl; refine owp_store rfl st ?_; apply Exists.intro; apply Exists.intro; refine ⟨?_, ?_, ?_⟩; (focus (go_simp; try rfl)); (focus (go_simp; try rfl)); (first | (with_reducible refine ⟨0, _, _, _, _, get0, rfl, rfl, ?_, ?_, ?_, ?_⟩) | (with_reducible refine ⟨1, _, _, _, _, get1, rfl, rfl, ?_, ?_, ?_, ?_⟩) | (with_reducible refine ⟨2, _, _, _, _, get2, rfl, rfl, ?_, ?_, ?_, ?_⟩) | (with_reducible refine ⟨3, _, _, _, _, get3, rfl, rfl, ?_, ?_, ?_, ?_⟩) | (with_reducible refine ⟨4, _, _, _, _, get4, rfl, rfl, ?_, ?_, ?_, ?_⟩) | (with_reducible refine ⟨5, _, _, _, _, get5, rfl, rfl, ?_, ?_, ?_, ?_⟩) | (with_reducible refine ⟨6, _, _, _, _, get6, rfl, rfl, ?_, ?_, ?_, ?_⟩) | (with_reducible refine ⟨7, _, _, _, _, get7, rfl, rfl, ?_, ?_, ?_, ?_⟩)); (kernel_rfl); (simp [Value.cells]); (rfl); (clear st; intro w st))
          | ((with_reducible refine wl_alloc ?_ (fun K hK => ?_)); rfl; refine owp_alloc (o := ⟨some 9, _, _, _, _, _⟩) rfl st ?_; apply Exists.intro; apply Exists.intro; refine ⟨?_, ?_⟩; (focus (first | (go_simp; done) | (go_simp; rfl))); (clear st; intro b9 w hb st; clear hb))
          | ((with_reducible refine wl_convert ?_ (fun K hK => ?_)); rfl; (first | (refine owp_bs (o := ⟨some 52, _, _, _, _, _⟩) rfl st 0 get0 rfl Tryz.underlying26 Tryz.underlying5 Tryz.underlying9 ?_) | (refine owp_bs (o := ⟨some 52, _, _, _, _, _⟩) rfl st 1 get1 rfl Tryz.underlying26 Tryz.underlying5 Tryz.underlying9 ?_) | (refine owp_bs (o := ⟨some 52, _, _, _, _, _⟩) rfl st 2 get2 rfl Tryz.underlying26 Tryz.underlying5 Tryz.underlying9 ?_) | (refine owp_bs (o := ⟨some 52, _, _, _, _, _⟩) rfl st 3 get3 rfl Tryz.underlying26 Tryz.underlying5 Tryz.underlying9 ?_) | (refine owp_bs (o := ⟨some 52, _, _, _, _, _⟩) rfl st 4 get4 rfl Tryz.underlying26 Tryz.underlying5 Tryz.underlying9 ?_) | (refine owp_bs (o := ⟨some 52, _, _, _, _, _⟩) rfl st 5 get5 rfl Tryz.underlying26 Tryz.underlying5 Tryz.underlying9 ?_) | (refine owp_bs (o := ⟨some 52, _, _, _, _, _⟩) rfl st 6 get6 rfl Tryz.underlying26 Tryz.underlying5 Tryz.underlying9 ?_) | (refine owp_bs (o := ⟨some 52, _, _, _, _, _⟩) rfl st 7 get7 rfl Tryz.underlying26 Tryz.underlying5 Tryz.underlying9 ?_)))); (try simp only [nsl, Value.cells, unB] at st); (try clear hc); have hc := st.facts; (try simp only [nfl, nft, Nat.reduceAdd] at hc))
    have hF := fl_lit (st.blk (i := 2) get2) ([x] : List CredT) rfl
    refine (credGreat_any _ 1 _ [x] _ hF (by rw [HW.out]; omega)).mono ?_
    rintro en w ⟨rfl, hx⟩
    replace st := st.ext hx
    clear hx
    (try clear hc); have hc := st.facts; (try simp only [nfl, nft, Nat.reduceAdd] at hc)
    rw [HW.out]
    clear hF
    go_wp2_with ((first
          | ((with_reducible refine wl_box ?_ (fun K hK => ?_)); rfl; refine owp_box (o := ⟨some 2, _, _, _, _, _⟩) rfl st ?_; apply Exists.intro; refine ⟨?_, ?_⟩; (focus (go_simp; try rfl)); (clear st; intro b2 w hb st; clear hb))
          | ((with_reducible refine wl_buildSlice ?_ (fun K hK => ?_)); rfl; refine owp_buildSlice (o := ⟨some 14, _, _, _, _, _⟩) rfl st ?_; apply Exists.intro; apply Exists.intro; apply Exists.intro; apply Exists.intro; refine ⟨?_, ?_⟩; (focus (go_simp; (first | done | exact ⟨⟨rfl, rfl⟩, rfl⟩ | rfl))); (clear st; intro b14 w hb st; clear hb))
          | ((with_reducible refine wl_alloc ?_ (fun K hK => ?_)); rfl; refine owp_alloc (o := ⟨some 7, _, _, _, _, _⟩) rfl st ?_; apply Exists.intro; apply Exists.intro; refine ⟨?_, ?_⟩; (focus (first | (go_simp; done) | (go_simp; rfl))); (clear st; intro b7 w hb st; clear hb))
          | ((with_reducible refine wl_store ?_ (fun K hK => ?_)); rfl; refine owp_store rfl st ?_; apply Exists.intro; apply Exists.intro; refine ⟨?_, ?_, ?_⟩; (focus (go_simp; try rfl)); (focus (go_simp; try rfl)); (first | (with_reducible refine ⟨0, _, _, _, _, get0, rfl, rfl, ?_, ?_, ?_, ?_⟩) | (with_reducible refine ⟨1, _, _, _, _, get1, rfl, rfl, ?_, ?_, ?_, ?_⟩) | (with_reducible refine ⟨2, _, _, _, _, get2, rfl, rfl, ?_, ?_, ?_, ?_⟩) | (with_reducible refine ⟨3, _, _, _, _, get3, rfl, rfl, ?_, ?_, ?_, ?_⟩) | (with_reducible refine ⟨4, _, _, _, _, get4, rfl, rfl, ?_, ?_, ?_, ?_⟩) | (with_reducible refine ⟨5, _, _, _, _, get5, rfl, rfl, ?_, ?_, ?_, ?_⟩) | (with_reducible refine ⟨6, _, _, _, _, get6, rfl, rfl, ?_, ?_, ?_, ?_⟩) | (with_reducible refine ⟨7, _, _, _, _, get7, rfl, rfl, ?_, ?_, ?_, ?_⟩)); (kernel_rfl); (simp [Value.cells]); (rfl); (clear st; intro w st))
          | ((with_reducible refine wl_alloc ?_ (fun K hK => ?_)); rfl; refine owp_alloc (o := ⟨some 9, _, _, _, _, _⟩) rfl st ?_; apply Exists.intro; apply Exists.intro; refine ⟨?_, ?_⟩; (focus (first | (go_simp; done) | (go_simp; rfl))); (clear st; intro b9 w hb st; clear hb))
          | ((with_reducible refine wl_convert ?_ (fun K hK => ?_)); rfl; (first | (refine owp_bs (o := ⟨some 52, _, _, _, _, _⟩) rfl st 0 get0 rfl Tryz.underlying26 Tryz.underlying5 Tryz.underlying9 ?_) | (refine owp_bs (o := ⟨some 52, _, _, _, _, _⟩) rfl st 1 get1 rfl Tryz.underlying26 Tryz.underlying5 Tryz.underlying9 ?_) | (refine owp_bs (o := ⟨some 52, _, _, _, _, _⟩) rfl st 2 get2 rfl Tryz.underlying26 Tryz.underlying5 Tryz.underlying9 ?_) | (refine owp_bs (o := ⟨some 52, _, _, _, _, _⟩) rfl st 3 get3 rfl Tryz.underlying26 Tryz.underlying5 Tryz.underlying9 ?_) | (refine owp_bs (o := ⟨some 52, _, _, _, _, _⟩) rfl st 4 get4 rfl Tryz.underlying26 Tryz.underlying5 Tryz.underlying9 ?_) | (refine owp_bs (o := ⟨some 52, _, _, _, _, _⟩) rfl st 5 get5 rfl Tryz.underlying26 Tryz.underlying5 Tryz.underlying9 ?_) | (refine owp_bs (o := ⟨some 52, _, _, _, _, _⟩) rfl st 6 get6 rfl Tryz.underlying26 Tryz.underlying5 Tryz.underlying9 ?_) | (refine owp_bs (o := ⟨some 52, _, _, _, _, _⟩) rfl st 7 get7 rfl Tryz.underlying26 Tryz.underlying5 Tryz.underlying9 ?_)))); (try simp only [nsl, Value.cells, unB] at st); (try clear hc); have hc := st.facts; (try simp only [nfl, nft, Nat.reduceAdd] at hc))
    refine (HRR.out _).mono ?_
    rintro en w ⟨rfl, hx⟩
    replace st := st.ext hx
    clear hx
    (try clear hc); have hc := st.facts; (try simp only [nfl, nft, Nat.reduceAdd] at hc)
    go_wp2_with ((first
          | ((with_reducible refine wl_box ?_ (fun K hK => ?_)); rfl; refine owp_box (o := ⟨some 2, _, _, _, _, _⟩) rfl st ?_; apply Exists.intro; refine ⟨?_, ?_⟩; (focus (go_simp; try rfl)); (clear st; intro b2 w hb st; clear hb))
          | ((with_reducible refine wl_buildSlice ?_ (fun K hK => ?_)); rfl; refine owp_buildSlice (o := ⟨some 14, _, _, _, _, _⟩) rfl st ?_; apply Exists.intro; apply Exists.intro; apply Exists.intro; apply Exists.intro; refine ⟨?_, ?_⟩; (focus (go_simp; (first | done | exact ⟨⟨rfl, rfl⟩, rfl⟩ | rfl))); (clear st; intro b14 w hb st; clear hb))
          | ((with_reducible refine wl_alloc ?_ (fun K hK => ?_)); rfl; refine owp_alloc (o := ⟨some 7, _, _, _, _, _⟩) rfl st ?_; apply Exists.intro; apply Exists.intro; refine ⟨?_, ?_⟩; (focus (first | (go_simp; done) | (go_simp; rfl))); (clear st; intro b7 w hb st; clear hb))
          | ((with_reducible refine wl_store ?_ (fun K hK => ?_)); rfl; refine owp_store rfl st ?_; apply Exists.intro; apply Exists.intro; refine ⟨?_, ?_, ?_⟩; (focus (go_simp; try rfl)); (focus (go_simp; try rfl)); (first | (with_reducible refine ⟨0, _, _, _, _, get0, rfl, rfl, ?_, ?_, ?_, ?_⟩) | (with_reducible refine ⟨1, _, _, _, _, get1, rfl, rfl, ?_, ?_, ?_, ?_⟩) | (with_reducible refine ⟨2, _, _, _, _, get2, rfl, rfl, ?_, ?_, ?_, ?_⟩) | (with_reducible refine ⟨3, _, _, _, _, get3, rfl, rfl, ?_, ?_, ?_, ?_⟩) | (with_reducible refine ⟨4, _, _, _, _, get4, rfl, rfl, ?_, ?_, ?_, ?_⟩) | (with_reducible refine ⟨5, _, _, _, _, get5, rfl, rfl, ?_, ?_, ?_, ?_⟩) | (with_reducible refine ⟨6, _, _, _, _, get6, rfl, rfl, ?_, ?_, ?_, ?_⟩) | (with_reducible refine ⟨7, _, _, _, _, get7, rfl, rfl, ?_, ?_, ?_, ?_⟩)); (kernel_rfl); (simp [Value.cells]); (rfl); (clear st; intro w st))
          | ((with_reducible refine wl_alloc ?_ (fun K hK => ?_)); rfl; refine owp_alloc (o := ⟨some 9, _, _, _, _, _⟩) rfl st ?_; apply Exists.intro; apply Exists.intro; refine ⟨?_, ?_⟩; (focus (first | (go_simp; done) | (go_simp; rfl))); (clear st; intro b9 w hb st; clear hb))
          | ((with_reducible refine wl_convert ?_ (fun K hK => ?_)); rfl; (first | (refine owp_bs (o := ⟨some 52, _, _, _, _, _⟩) rfl st 0 get0 rfl Tryz.underlying26 Tryz.underlying5 Tryz.underlying9 ?_) | (refine owp_bs (o := ⟨some 52, _, _, _, _, _⟩) rfl st 1 get1 rfl Tryz.underlying26 Tryz.underlying5 Tryz.underlying9 ?_) | (refine owp_bs (o := ⟨some 52, _, _, _, _, _⟩) rfl st 2 get2 rfl Tryz.underlying26 Tryz.underlying5 Tryz.underlying9 ?_) | (refine owp_bs (o := ⟨some 52, _, _, _, _, _⟩) rfl st 3 get3 rfl Tryz.underlying26 Tryz.underlying5 Tryz.underlying9 ?_) | (refine owp_bs (o := ⟨some 52, _, _, _, _, _⟩) rfl st 4 get4 rfl Tryz.underlying26 Tryz.underlying5 Tryz.underlying9 ?_) | (refine owp_bs (o := ⟨some 52, _, _, _, _, _⟩) rfl st 5 get5 rfl Tryz.underlying26 Tryz.underlying5 Tryz.underlying9 ?_) | (refine owp_bs (o := ⟨some 52, _, _, _, _, _⟩) rfl st 6 get6 rfl Tryz.underlying26 Tryz.underlying5 Tryz.underlying9 ?_) | (refine owp_bs (o := ⟨some 52, _, _, _, _, _⟩) rfl st 7 get7 rfl Tryz.underlying26 Tryz.underlying5 Tryz.underlying9 ?_)))); (try simp only [nsl, Value.cells, unB] at st); (try clear hc); have hc := st.facts; (try simp only [nfl, nft, Nat.reduceAdd] at hc))
    refine Rg4.wp_region4_eq #[0, 1, 0, 7, 15, 31] [1, 3] [0] (fun W' => Blk W' b2 [.int .i64 x.k, .string ⟨x.h.1.toArray⟩, .string ⟨x.h.2.toArray⟩, .string ⟨x.w.toArray⟩, .string ⟨x.b.1.toArray⟩, .string ⟨x.b.2.toArray⟩, .string ⟨x.c.1.toArray⟩, .string ⟨x.c.2.toArray⟩, .string ⟨x.e.toArray⟩]) [0, 2, 1, 3, 4, 5] (by kernel_rfl) (by kernel_rfl) (by kernel_rfl) (by kernel_rfl) (show Rg4.PB _ by repeat (first | with_reducible exact Rg4.pb_body | with_reducible exact Rg4.pb_bodyD rfl | with_reducible refine Rg4.pb_then ?_ | with_reducible refine Rg4.pb_inBlock ?_ | with_reducible refine Rg4.pb_noGoto ?_)) (st.drew.blk (i := 1) get1) ?_
    replace st := st.drew
    change Rg4.wp4 _ _ _ _ _ _ _ _ _ (World.drew _) _ _
    generalize World.drew _ = w at st ⊢
    (try clear hc); have hc := st.facts; (try simp only [nfl, nft, Nat.reduceAdd] at hc)
    (refine Rg4.w4_read (Rg4.want_none rfl) rfl rfl ?_; apply Exists.intro; refine ⟨fun w' hw' hcl' => ?_, ?_⟩; focus (subst hw'; (focus (first | (go_simp; done) | (go_simp; first | rfl | (rw [if_neg] <;> first | rfl | omega) | (rw [if_pos] <;> first | rfl | omega))))); (try simp only [Rg4.nrm]))
    (refine Rg4.w4_cl (Rg4.want_none rfl) rfl ?_; apply Exists.intro; refine ⟨fun w' hcl => ?_, ?_⟩; (focus (have q0 := Blk.cell hcl 0; have q1 := Blk.cell hcl 1; have q2 := Blk.cell hcl 2; have q3 := Blk.cell hcl 3; have q4 := Blk.cell hcl 4; have q5 := Blk.cell hcl 5; have q6 := Blk.cell hcl 6; have q7 := Blk.cell hcl 7; have q8 := Blk.cell hcl 8; (try simp at q0 q1 q2 q3 q4 q5 q6 q7 q8); (focus (first | (go_simp; done) | (go_simp; first | rfl | (rw [if_neg] <;> first | rfl | omega) | (rw [if_pos] <;> first | rfl | omega)))))); (try simp only [Rg4.nrm]))
    refine Rg4.w4_bar (Rg4.want_none rfl) rfl (fun w' hw' hcl _ K hK => ?_)
    subst hw'
    go_wp2_with fail
    refine (HRT.out _ (by trivial)).mono ?_
    rintro en w ⟨rfl, hx⟩
    replace st := st.ext hx
    clear hx
    (try simp only [nsl, Value.cells, unB] at st)
    (try clear hc); have hc := st.facts; (try simp only [nfl, nft, Nat.reduceAdd] at hc)
    refine hK _ _ ⟨st.blk (i := 1) get1, ?_⟩
    clear hK
    (try simp only [Rg4.nrm])

    refine Rg4.w4_bar (Rg4.want_none rfl) rfl (fun w' hw' hcl _ K hK => ?_)
    subst hw'
    go_wp2_with fail
    refine (HRB.out _ (by trivial)).mono ?_
    rintro en w ⟨rfl, hx⟩
    replace st := st.ext hx
    clear hx
    (try simp only [nsl, Value.cells, unB] at st)
    (try clear hc); have hc := st.facts; (try simp only [nfl, nft, Nat.reduceAdd] at hc)
    refine hK _ _ ⟨st.blk (i := 1) get1, ?_⟩
    clear hK
    (try simp only [Rg4.nrm])
    iterate 2 (refine Rg4.w4_any (Rg4.want_none rfl) rfl ?_; apply Exists.intro; refine ⟨fun w' => ?_, ?_⟩; (focus (first | (go_simp; done) | (go_simp; first | rfl | (rw [if_neg] <;> first | rfl | omega) | (rw [if_pos] <;> first | rfl | omega)))); (try simp only [Rg4.nrm]))
    refine Rg4.w4_nil (fun w' hw' hcl' _ => ?_); subst hw'; clear hcl'
    go_wp2_with ((first
          | ((with_reducible refine wl_box ?_ (fun K hK => ?_)); rfl; refine owp_box (o := ⟨some 2, _, _, _, _, _⟩) rfl st ?_; apply Exists.intro; refine ⟨?_, ?_⟩; (focus (go_simp; try rfl)); (clear st; intro b2 w hb st; clear hb))
          | ((with_reducible refine wl_buildSlice ?_ (fun K hK => ?_)); rfl; refine owp_buildSlice (o := ⟨some 14, _, _, _, _, _⟩) rfl st ?_; apply Exists.intro; apply Exists.intro; apply Exists.intro; apply Exists.intro; refine ⟨?_, ?_⟩; (focus (go_simp; (first | done | exact ⟨⟨rfl, rfl⟩, rfl⟩ | rfl))); (clear st; intro b14 w hb st; clear hb))
          | ((with_reducible refine wl_alloc ?_ (fun K hK => ?_)); rfl; refine owp_alloc (o := ⟨some 7, _, _, _, _, _⟩) rfl st ?_; apply Exists.intro; apply Exists.intro; refine ⟨?_, ?_⟩; (focus (first | (go_simp; done) | (go_simp; rfl))); (clear st; intro b7 w hb st; clear hb))
          | ((with_reducible refine wl_store ?_ (fun K hK => ?_)); rfl; refine owp_store rfl st ?_; apply Exists.intro; apply Exists.intro; refine ⟨?_, ?_, ?_⟩; (focus (go_simp; try rfl)); (focus (go_simp; try rfl)); (first | (with_reducible refine ⟨0, _, _, _, _, get0, rfl, rfl, ?_, ?_, ?_, ?_⟩) | (with_reducible refine ⟨1, _, _, _, _, get1, rfl, rfl, ?_, ?_, ?_, ?_⟩) | (with_reducible refine ⟨2, _, _, _, _, get2, rfl, rfl, ?_, ?_, ?_, ?_⟩) | (with_reducible refine ⟨3, _, _, _, _, get3, rfl, rfl, ?_, ?_, ?_, ?_⟩) | (with_reducible refine ⟨4, _, _, _, _, get4, rfl, rfl, ?_, ?_, ?_, ?_⟩) | (with_reducible refine ⟨5, _, _, _, _, get5, rfl, rfl, ?_, ?_, ?_, ?_⟩) | (with_reducible refine ⟨6, _, _, _, _, get6, rfl, rfl, ?_, ?_, ?_, ?_⟩) | (with_reducible refine ⟨7, _, _, _, _, get7, rfl, rfl, ?_, ?_, ?_, ?_⟩)); (kernel_rfl); (simp [Value.cells]); (rfl); (clear st; intro w st))
          | ((with_reducible refine wl_alloc ?_ (fun K hK => ?_)); rfl; refine owp_alloc (o := ⟨some 9, _, _, _, _, _⟩) rfl st ?_; apply Exists.intro; apply Exists.intro; refine ⟨?_, ?_⟩; (focus (first | (go_simp; done) | (go_simp; rfl))); (clear st; intro b9 w hb st; clear hb))
          | ((with_reducible refine wl_convert ?_ (fun K hK => ?_)); rfl; (first | (refine owp_bs (o := ⟨some 52, _, _, _, _, _⟩) rfl st 0 get0 rfl Tryz.underlying26 Tryz.underlying5 Tryz.underlying9 ?_) | (refine owp_bs (o := ⟨some 52, _, _, _, _, _⟩) rfl st 1 get1 rfl Tryz.underlying26 Tryz.underlying5 Tryz.underlying9 ?_) | (refine owp_bs (o := ⟨some 52, _, _, _, _, _⟩) rfl st 2 get2 rfl Tryz.underlying26 Tryz.underlying5 Tryz.underlying9 ?_) | (refine owp_bs (o := ⟨some 52, _, _, _, _, _⟩) rfl st 3 get3 rfl Tryz.underlying26 Tryz.underlying5 Tryz.underlying9 ?_) | (refine owp_bs (o := ⟨some 52, _, _, _, _, _⟩) rfl st 4 get4 rfl Tryz.underlying26 Tryz.underlying5 Tryz.underlying9 ?_) | (refine owp_bs (o := ⟨some 52, _, _, _, _, _⟩) rfl st 5 get5 rfl Tryz.underlying26 Tryz.underlying5 Tryz.underlying9 ?_) | (refine owp_bs (o := ⟨some 52, _, _, _, _, _⟩) rfl st 6 get6 rfl Tryz.underlying26 Tryz.underlying5 Tryz.underlying9 ?_) | (refine owp_bs (o := ⟨some 52, _, _, _, _, _⟩) rfl st 7 get7 rfl Tryz.underlying26 Tryz.underlying5 Tryz.underlying9 ?_)))); (try simp only [nsl, Value.cells, unB] at st); (try clear hc); have hc := st.facts; (try simp only [nfl, nft, Nat.reduceAdd] at hc))
    refine (HP.out _ (HG.out.ext st.ext0)).mono ?_
    rintro en w ⟨rfl, hx⟩
    replace st := st.ext hx
    clear hx
    (try clear hc); have hc := st.facts; (try simp only [nfl, nft, Nat.reduceAdd] at hc)
    go_wp2_with ((first
          | ((with_reducible refine wl_box ?_ (fun K hK => ?_)); rfl; refine owp_box (o := ⟨some 2, _, _, _, _, _⟩) rfl st ?_; apply Exists.intro; refine ⟨?_, ?_⟩; (focus (go_simp; try rfl)); (clear st; intro b2 w hb st; clear hb))
          | ((with_reducible refine wl_buildSlice ?_ (fun K hK => ?_)); rfl; refine owp_buildSlice (o := ⟨some 14, _, _, _, _, _⟩) rfl st ?_; apply Exists.intro; apply Exists.intro; apply Exists.intro; apply Exists.intro; refine ⟨?_, ?_⟩; (focus (go_simp; (first | done | exact ⟨⟨rfl, rfl⟩, rfl⟩ | rfl))); (clear st; intro b14 w hb st; clear hb))
          | ((with_reducible refine wl_alloc ?_ (fun K hK => ?_)); rfl; refine owp_alloc (o := ⟨some 7, _, _, _, _, _⟩) rfl st ?_; apply Exists.intro; apply Exists.intro; refine ⟨?_, ?_⟩; (focus (first | (go_simp; done) | (go_simp; rfl))); (clear st; intro b7 w hb st; clear hb))
          | ((with_reducible refine wl_store ?_ (fun K hK => ?_)); rfl; refine owp_store rfl st ?_; apply Exists.intro; apply Exists.intro; refine ⟨?_, ?_, ?_⟩; (focus (go_simp; try rfl)); (focus (go_simp; try rfl)); (first | (with_reducible refine ⟨0, _, _, _, _, get0, rfl, rfl, ?_, ?_, ?_, ?_⟩) | (with_reducible refine ⟨1, _, _, _, _, get1, rfl, rfl, ?_, ?_, ?_, ?_⟩) | (with_reducible refine ⟨2, _, _, _, _, get2, rfl, rfl, ?_, ?_, ?_, ?_⟩) | (with_reducible refine ⟨3, _, _, _, _, get3, rfl, rfl, ?_, ?_, ?_, ?_⟩) | (with_reducible refine ⟨4, _, _, _, _, get4, rfl, rfl, ?_, ?_, ?_, ?_⟩) | (with_reducible refine ⟨5, _, _, _, _, get5, rfl, rfl, ?_, ?_, ?_, ?_⟩) | (with_reducible refine ⟨6, _, _, _, _, get6, rfl, rfl, ?_, ?_, ?_, ?_⟩) | (with_reducible refine ⟨7, _, _, _, _, get7, rfl, rfl, ?_, ?_, ?_, ?_⟩)); (kernel_rfl); (simp [Value.cells]); (rfl); (clear st; intro w st))
          | ((with_reducible refine wl_alloc ?_ (fun K hK => ?_)); rfl; refine owp_alloc (o := ⟨some 9, _, _, _, _, _⟩) rfl st ?_; apply Exists.intro; apply Exists.intro; refine ⟨?_, ?_⟩; (focus (first | (go_simp; done) | (go_simp; rfl))); (clear st; intro b9 w hb st; clear hb))
          | ((with_reducible refine wl_convert ?_ (fun K hK => ?_)); rfl; (first | (refine owp_bs (o := ⟨some 52, _, _, _, _, _⟩) rfl st 0 get0 rfl Tryz.underlying26 Tryz.underlying5 Tryz.underlying9 ?_) | (refine owp_bs (o := ⟨some 52, _, _, _, _, _⟩) rfl st 1 get1 rfl Tryz.underlying26 Tryz.underlying5 Tryz.underlying9 ?_) | (refine owp_bs (o := ⟨some 52, _, _, _, _, _⟩) rfl st 2 get2 rfl Tryz.underlying26 Tryz.underlying5 Tryz.underlying9 ?_) | (refine owp_bs (o := ⟨some 52, _, _, _, _, _⟩) rfl st 3 get3 rfl Tryz.underlying26 Tryz.underlying5 Tryz.underlying9 ?_) | (refine owp_bs (o := ⟨some 52, _, _, _, _, _⟩) rfl st 4 get4 rfl Tryz.underlying26 Tryz.underlying5 Tryz.underlying9 ?_) | (refine owp_bs (o := ⟨some 52, _, _, _, _, _⟩) rfl st 5 get5 rfl Tryz.underlying26 Tryz.underlying5 Tryz.underlying9 ?_) | (refine owp_bs (o := ⟨some 52, _, _, _, _, _⟩) rfl st 6 get6 rfl Tryz.underlying26 Tryz.underlying5 Tryz.underlying9 ?_) | (refine owp_bs (o := ⟨some 52, _, _, _, _, _⟩) rfl st 7 get7 rfl Tryz.underlying26 Tryz.underlying5 Tryz.underlying9 ?_)))); (try simp only [nsl, Value.cells, unB] at st); (try clear hc); have hc := st.facts; (try simp only [nfl, nft, Nat.reduceAdd] at hc))
    refine (HQ.out _).mono ?_
    rintro en w ⟨rfl, hx⟩
    replace st := st.ext hx
    clear hx
    (try clear hc); have hc := st.facts; (try simp only [nfl, nft, Nat.reduceAdd] at hc)
    go_wp2_with ((first
          | ((with_reducible refine wl_box ?_ (fun K hK => ?_)); rfl; refine owp_box (o := ⟨some 2, _, _, _, _, _⟩) rfl st ?_; apply Exists.intro; refine ⟨?_, ?_⟩; (focus (go_simp; try rfl)); (clear st; intro b2 w hb st; clear hb))
          | ((with_reducible refine wl_buildSlice ?_ (fun K hK => ?_)); rfl; refine owp_buildSlice (o := ⟨some 14, _, _, _, _, _⟩) rfl st ?_; apply Exists.intro; apply Exists.intro; apply Exists.intro; apply Exists.intro; refine ⟨?_, ?_⟩; (focus (go_simp; (first | done | exact ⟨⟨rfl, rfl⟩, rfl⟩ | rfl))); (clear st; intro b14 w hb st; clear hb))
          | ((with_reducible refine wl_alloc ?_ (fun K hK => ?_)); rfl; refine owp_alloc (o := ⟨some 7, _, _, _, _, _⟩) rfl st ?_; apply Exists.intro; apply Exists.intro; refine ⟨?_, ?_⟩; (focus (first | (go_simp; done) | (go_simp; rfl))); (clear st; intro b7 w hb st; clear hb))
          | ((with_reducible refine wl_store ?_ (fun K hK => ?_)); rfl; refine owp_store rfl st ?_; apply Exists.intro; apply Exists.intro; refine ⟨?_, ?_, ?_⟩; (focus (go_simp; try rfl)); (focus (go_simp; try rfl)); (first | (with_reducible refine ⟨0, _, _, _, _, get0, rfl, rfl, ?_, ?_, ?_, ?_⟩) | (with_reducible refine ⟨1, _, _, _, _, get1, rfl, rfl, ?_, ?_, ?_, ?_⟩) | (with_reducible refine ⟨2, _, _, _, _, get2, rfl, rfl, ?_, ?_, ?_, ?_⟩) | (with_reducible refine ⟨3, _, _, _, _, get3, rfl, rfl, ?_, ?_, ?_, ?_⟩) | (with_reducible refine ⟨4, _, _, _, _, get4, rfl, rfl, ?_, ?_, ?_, ?_⟩) | (with_reducible refine ⟨5, _, _, _, _, get5, rfl, rfl, ?_, ?_, ?_, ?_⟩) | (with_reducible refine ⟨6, _, _, _, _, get6, rfl, rfl, ?_, ?_, ?_, ?_⟩) | (with_reducible refine ⟨7, _, _, _, _, get7, rfl, rfl, ?_, ?_, ?_, ?_⟩)); (kernel_rfl); (simp [Value.cells]); (rfl); (clear st; intro w st))
          | ((with_reducible refine wl_alloc ?_ (fun K hK => ?_)); rfl; refine owp_alloc (o := ⟨some 9, _, _, _, _, _⟩) rfl st ?_; apply Exists.intro; apply Exists.intro; refine ⟨?_, ?_⟩; (focus (first | (go_simp; done) | (go_simp; rfl))); (clear st; intro b9 w hb st; clear hb))
          | ((with_reducible refine wl_convert ?_ (fun K hK => ?_)); rfl; (first | (refine owp_bs (o := ⟨some 52, _, _, _, _, _⟩) rfl st 0 get0 rfl Tryz.underlying26 Tryz.underlying5 Tryz.underlying9 ?_) | (refine owp_bs (o := ⟨some 52, _, _, _, _, _⟩) rfl st 1 get1 rfl Tryz.underlying26 Tryz.underlying5 Tryz.underlying9 ?_) | (refine owp_bs (o := ⟨some 52, _, _, _, _, _⟩) rfl st 2 get2 rfl Tryz.underlying26 Tryz.underlying5 Tryz.underlying9 ?_) | (refine owp_bs (o := ⟨some 52, _, _, _, _, _⟩) rfl st 3 get3 rfl Tryz.underlying26 Tryz.underlying5 Tryz.underlying9 ?_) | (refine owp_bs (o := ⟨some 52, _, _, _, _, _⟩) rfl st 4 get4 rfl Tryz.underlying26 Tryz.underlying5 Tryz.underlying9 ?_) | (refine owp_bs (o := ⟨some 52, _, _, _, _, _⟩) rfl st 5 get5 rfl Tryz.underlying26 Tryz.underlying5 Tryz.underlying9 ?_) | (refine owp_bs (o := ⟨some 52, _, _, _, _, _⟩) rfl st 6 get6 rfl Tryz.underlying26 Tryz.underlying5 Tryz.underlying9 ?_) | (refine owp_bs (o := ⟨some 52, _, _, _, _, _⟩) rfl st 7 get7 rfl Tryz.underlying26 Tryz.underlying5 Tryz.underlying9 ?_)))); (try simp only [nsl, Value.cells, unB] at st); (try clear hc); have hc := st.facts; (try simp only [nfl, nft, Nat.reduceAdd] at hc))
    refine Rg4.wp_region4_eq #[0, 1, 0, 7, 15, 31, 63, 127, 63, 511, 1023, 2047, 4095, 8191, 16383, 4095, 65535, 131071, 262143, 524287, 524287, 2097151, 4194303, 8388607, 16777215, 16777215, 67108863, 134217727, 268435455, 536870911, 1073741823, 536870911, 4294967295, 8589934591, 17179869183, 34359738367] [1, 3, 7, 13, 30, 32, 33] [0, 6, 12, 14, 19, 20, 29] (fun W' => Blk W' b2 [.int .i64 x.k, .string ⟨x.h.1.toArray⟩, .string ⟨x.h.2.toArray⟩, .string ⟨x.w.toArray⟩, .string ⟨x.b.1.toArray⟩, .string ⟨x.b.2.toArray⟩, .string ⟨x.c.1.toArray⟩, .string ⟨x.c.2.toArray⟩, .string ⟨x.e.toArray⟩]) [0, 2, 1, 3, 4, 5, 6, 8, 7, 9, 10, 11, 12, 15, 13, 14, 16, 17, 18, 19, 20, 21, 22, 23, 24, 25, 26, 27, 28, 29, 31, 30, 32, 33, 34, 35] (by kernel_rfl) (by kernel_rfl) (by kernel_rfl) (by kernel_rfl) (show Rg4.PB _ by repeat (first | with_reducible exact Rg4.pb_body | with_reducible exact Rg4.pb_bodyD rfl | with_reducible refine Rg4.pb_then ?_ | with_reducible refine Rg4.pb_inBlock ?_ | with_reducible refine Rg4.pb_noGoto ?_)) (st.drew.blk (i := 1) get1) ?_
    replace st := st.drew
    change Rg4.wp4 _ _ _ _ _ _ _ _ _ (World.drew _) _ _
    generalize World.drew _ = w at st ⊢
    (try clear hc); have hc := st.facts; (try simp only [nfl, nft, Nat.reduceAdd] at hc)
    (refine Rg4.w4_read (Rg4.want_none rfl) rfl rfl ?_; apply Exists.intro; refine ⟨fun w' hw' hcl' => ?_, ?_⟩; focus (subst hw'; (try (have z4 := conv_bs (P := Tryz.prog) (src := 26) (dst := 9) (c := pc) Tryz.underlying26 Tryz.underlying5 Tryz.underlying9 (st.by (i := 5) get5); unfold S at z4)); (focus (first | (go_simp; done) | (go_simp; first | rfl | (rw [if_neg] <;> first | rfl | omega) | (rw [if_pos] <;> first | rfl | omega))))); (try simp only [Rg4.nrm]))
    (refine Rg4.w4_cl (Rg4.want_none rfl) rfl ?_; apply Exists.intro; refine ⟨fun w' hcl => ?_, ?_⟩; (focus (have q0 := Blk.cell hcl 0; have q1 := Blk.cell hcl 1; have q2 := Blk.cell hcl 2; have q3 := Blk.cell hcl 3; have q4 := Blk.cell hcl 4; have q5 := Blk.cell hcl 5; have q6 := Blk.cell hcl 6; have q7 := Blk.cell hcl 7; have q8 := Blk.cell hcl 8; (try simp at q0 q1 q2 q3 q4 q5 q6 q7 q8); (focus (first | (go_simp; done) | (go_simp; first | rfl | (rw [if_neg] <;> first | rfl | omega) | (rw [if_pos] <;> first | rfl | omega)))))); (try simp only [Rg4.nrm]))
    refine Rg4.w4_bar (Rg4.want_none rfl) rfl (fun w' hw' hcl _ K hK => ?_)
    subst hw'
    go_wp2_with fail
    refine (HR.out _).mono ?_
    rintro en w ⟨rfl, hx⟩
    replace st := st.ext hx
    clear hx
    (try simp only [nsl, Value.cells, unB] at st)
    (try clear hc); have hc := st.facts; (try simp only [nfl, nft, Nat.reduceAdd] at hc)
    refine hK _ _ ⟨st.blk (i := 1) get1, ?_⟩
    clear hK
    (try simp only [Rg4.nrm])

    refine Rg4.w4_bar (Rg4.want_none rfl) rfl (fun w' hw' hcl _ K hK => ?_)
    subst hw'
    go_wp2_with fail
    refine (HRR.out _).mono ?_
    rintro en w ⟨rfl, hx⟩
    replace st := st.ext hx
    clear hx
    (try simp only [nsl, Value.cells, unB] at st)
    (try clear hc); have hc := st.facts; (try simp only [nfl, nft, Nat.reduceAdd] at hc)
    refine hK _ _ ⟨st.blk (i := 1) get1, ?_⟩
    clear hK
    (try simp only [Rg4.nrm])
    iterate 2 (refine Rg4.w4_any (Rg4.want_none rfl) rfl ?_; apply Exists.intro; refine ⟨fun w' => ?_, ?_⟩; (focus (first | (go_simp; done) | (go_simp; first | rfl | (rw [if_neg] <;> first | rfl | omega) | (rw [if_pos] <;> first | rfl | omega)))); (try simp only [Rg4.nrm]))
    (first | (refine Rg4.w4_read (Rg4.wt rfl rfl rfl) rfl rfl ?_; apply Exists.intro; refine ⟨fun w' hw' hcl' => ?_, ?_⟩; focus (subst hw'; (try (have z4 := conv_bs (P := Tryz.prog) (src := 26) (dst := 9) (c := pc) Tryz.underlying26 Tryz.underlying5 Tryz.underlying9 (st.by (i := 5) get5); unfold S at z4)); (focus (first | (go_simp; done) | (go_simp; first | rfl | (rw [if_neg] <;> first | rfl | omega) | (rw [if_pos] <;> first | rfl | omega))))); (try simp only [Rg4.nrm])) | (refine Rg4.w4_skip (Rg4.uw rfl rfl rfl) ?_; (try simp only [Rg4.nrm])) | (refine Rg4.w4_skip (Rg4.un rfl rfl rfl) ?_; (try simp only [Rg4.nrm])))
    (first | (refine Rg4.w4_any (Rg4.wt rfl rfl rfl) rfl ?_; apply Exists.intro; refine ⟨fun w' => ?_, ?_⟩; (focus (first | (go_simp; done) | (go_simp; first | rfl | (rw [if_neg] <;> first | rfl | omega) | (rw [if_pos] <;> first | rfl | omega)))); (try simp only [Rg4.nrm])) | (refine Rg4.w4_skip (Rg4.uw rfl rfl rfl) ?_; (try simp only [Rg4.nrm])) | (refine Rg4.w4_skip (Rg4.un rfl rfl rfl) ?_; (try simp only [Rg4.nrm])))
    refine Rg4.w4_bar (Rg4.want_of 5 43 true rfl rfl rfl) rfl (fun w' hw' hcl _ K hK => ?_)
    subst hw'
    go_wp2_with fail
    refine (HT.out _).mono ?_
    rintro en w ⟨rfl, hx⟩
    replace st := st.ext hx
    clear hx
    (try simp only [nsl, Value.cells, unB] at st)
    (try clear hc); have hc := st.facts; (try simp only [nfl, nft, Nat.reduceAdd] at hc)
    refine hK _ _ ⟨st.blk (i := 1) get1, ?_⟩
    clear hK
    (try simp only [Rg4.nrm])
    (first | (refine Rg4.w4_any (Rg4.wt rfl rfl rfl) rfl ?_; apply Exists.intro; refine ⟨fun w' => ?_, ?_⟩; (focus (first | (go_simp; done) | (go_simp; first | rfl | (rw [if_neg] <;> first | rfl | omega) | (rw [if_pos] <;> first | rfl | omega)))); (try simp only [Rg4.nrm])) | (refine Rg4.w4_skip (Rg4.uw rfl rfl rfl) ?_; (try simp only [Rg4.nrm])) | (refine Rg4.w4_skip (Rg4.un rfl rfl rfl) ?_; (try simp only [Rg4.nrm])))
    iterate 2 (refine Rg4.w4_any (Rg4.want_none rfl) rfl ?_; apply Exists.intro; refine ⟨fun w' => ?_, ?_⟩; (focus (first | (go_simp; done) | (go_simp; first | rfl | (rw [if_neg] <;> first | rfl | omega) | (rw [if_pos] <;> first | rfl | omega)))); (try simp only [Rg4.nrm]))
    (first | (refine Rg4.w4_read (Rg4.wt rfl rfl rfl) rfl rfl ?_; apply Exists.intro; refine ⟨fun w' hw' hcl' => ?_, ?_⟩; focus (subst hw'; (try (have z4 := conv_bs (P := Tryz.prog) (src := 26) (dst := 9) (c := pc) Tryz.underlying26 Tryz.underlying5 Tryz.underlying9 (st.by (i := 5) get5); unfold S at z4)); (focus (first | (go_simp; done) | (go_simp; first | rfl | (rw [if_neg] <;> first | rfl | omega) | (rw [if_pos] <;> first | rfl | omega))))); (try simp only [Rg4.nrm])) | (refine Rg4.w4_skip (Rg4.uw rfl rfl rfl) ?_; (try simp only [Rg4.nrm])) | (refine Rg4.w4_skip (Rg4.un rfl rfl rfl) ?_; (try simp only [Rg4.nrm])))
    (first | (refine Rg4.w4_any (Rg4.wt rfl rfl rfl) rfl ?_; apply Exists.intro; refine ⟨fun w' => ?_, ?_⟩; (focus (first | (go_simp; done) | (go_simp; first | rfl | (rw [if_neg] <;> first | rfl | omega) | (rw [if_pos] <;> first | rfl | omega)))); (try simp only [Rg4.nrm])) | (refine Rg4.w4_skip (Rg4.uw rfl rfl rfl) ?_; (try simp only [Rg4.nrm])) | (refine Rg4.w4_skip (Rg4.un rfl rfl rfl) ?_; (try simp only [Rg4.nrm])))
    refine Rg4.w4_bar (Rg4.want_of 11 49 true rfl rfl rfl) rfl (fun w' hw' hcl _ K hK => ?_)
    subst hw'
    go_wp2_with fail
    refine (HB.out _).mono ?_
    rintro en w ⟨pa, pn, pc, rfl, hfr⟩
    have hqn : pn = bu.length := (hfr.by).2.1
    subst hqn
    replace st := st.fresh hfr
    clear hfr
    replace st := st.freezeRow (i := 5) (xs := bu) get5
    (try simp only [List.length_nil] at st ⊢)
    (try simp only [nsl, Value.cells, unB] at st)
    (try clear hc); have hc := st.facts; (try simp only [nfl, nft, Nat.reduceAdd] at hc)
    refine hK _ _ ⟨st.blk (i := 1) get1, ?_⟩
    clear hK
    (try simp only [Rg4.nrm])
    (first | (refine Rg4.w4_read (Rg4.wt rfl rfl rfl) rfl rfl ?_; apply Exists.intro; refine ⟨fun w' hw' hcl' => ?_, ?_⟩; focus (subst hw'; (try (have z4 := conv_bs (P := Tryz.prog) (src := 26) (dst := 9) (c := pc) Tryz.underlying26 Tryz.underlying5 Tryz.underlying9 (st.by (i := 5) get5); unfold S at z4)); (focus (first | (go_simp; done) | (go_simp; first | rfl | (rw [if_neg] <;> first | rfl | omega) | (rw [if_pos] <;> first | rfl | omega))))); (try simp only [Rg4.nrm])) | (refine Rg4.w4_skip (Rg4.uw rfl rfl rfl) ?_; (try simp only [Rg4.nrm])) | (refine Rg4.w4_skip (Rg4.un rfl rfl rfl) ?_; (try simp only [Rg4.nrm])))
    (first | (refine Rg4.w4_any (Rg4.wt rfl rfl rfl) rfl ?_; apply Exists.intro; refine ⟨fun w' => ?_, ?_⟩; (focus (first | (go_simp; done) | (go_simp; first | rfl | (rw [if_neg] <;> first | rfl | omega) | (rw [if_pos] <;> first | rfl | omega)))); (try simp only [Rg4.nrm])) | (refine Rg4.w4_skip (Rg4.uw rfl rfl rfl) ?_; (try simp only [Rg4.nrm])) | (refine Rg4.w4_skip (Rg4.un rfl rfl rfl) ?_; (try simp only [Rg4.nrm])))
    iterate 2 (refine Rg4.w4_any (Rg4.want_none rfl) rfl ?_; apply Exists.intro; refine ⟨fun w' => ?_, ?_⟩; (focus (first | (go_simp; done) | (go_simp; first | rfl | (rw [if_neg] <;> first | rfl | omega) | (rw [if_pos] <;> first | rfl | omega)))); (try simp only [Rg4.nrm]))
    iterate 2 (first | (refine Rg4.w4_read (Rg4.wt rfl rfl rfl) rfl rfl ?_; apply Exists.intro; refine ⟨fun w' hw' hcl' => ?_, ?_⟩; focus (subst hw'; (try (have z4 := conv_bs (P := Tryz.prog) (src := 26) (dst := 9) (c := pc) Tryz.underlying26 Tryz.underlying5 Tryz.underlying9 (st.by (i := 5) get5); unfold S at z4)); (focus (first | (go_simp; done) | (go_simp; first | rfl | (rw [if_neg] <;> first | rfl | omega) | (rw [if_pos] <;> first | rfl | omega))))); (try simp only [Rg4.nrm])) | (refine Rg4.w4_skip (Rg4.uw rfl rfl rfl) ?_; (try simp only [Rg4.nrm])) | (refine Rg4.w4_skip (Rg4.un rfl rfl rfl) ?_; (try simp only [Rg4.nrm])))
    (first | (refine Rg4.w4_any (Rg4.wt rfl rfl rfl) rfl ?_; apply Exists.intro; refine ⟨fun w' => ?_, ?_⟩; (focus (first | (go_simp; done) | (go_simp; first | rfl | (rw [if_neg] <;> first | rfl | omega) | (rw [if_pos] <;> first | rfl | omega)))); (try simp only [Rg4.nrm])) | (refine Rg4.w4_skip (Rg4.uw rfl rfl rfl) ?_; (try simp only [Rg4.nrm])) | (refine Rg4.w4_skip (Rg4.un rfl rfl rfl) ?_; (try simp only [Rg4.nrm])))
    iterate 2 (refine Rg4.w4_any (Rg4.want_none rfl) rfl ?_; apply Exists.intro; refine ⟨fun w' => ?_, ?_⟩; (focus (first | (go_simp; done) | (go_simp; first | rfl | (rw [if_neg] <;> first | rfl | omega) | (rw [if_pos] <;> first | rfl | omega)))); (try simp only [Rg4.nrm]))
    iterate 3 (first | (refine Rg4.w4_any (Rg4.wt rfl rfl rfl) rfl ?_; apply Exists.intro; refine ⟨fun w' => ?_, ?_⟩; (focus (first | (go_simp; done) | (go_simp; first | rfl | (rw [if_neg] <;> first | rfl | omega) | (rw [if_pos] <;> first | rfl | omega)))); (try simp only [Rg4.nrm])) | (refine Rg4.w4_skip (Rg4.uw rfl rfl rfl) ?_; (try simp only [Rg4.nrm])) | (refine Rg4.w4_skip (Rg4.un rfl rfl rfl) ?_; (try simp only [Rg4.nrm])))
    iterate 2 (refine Rg4.w4_any (Rg4.want_none rfl) rfl ?_; apply Exists.intro; refine ⟨fun w' => ?_, ?_⟩; (focus (first | (go_simp; done) | (go_simp; first | rfl | (rw [if_neg] <;> first | rfl | omega) | (rw [if_pos] <;> first | rfl | omega)))); (try simp only [Rg4.nrm]))
    (first | (refine Rg4.w4_read (Rg4.wt rfl rfl rfl) rfl rfl ?_; apply Exists.intro; refine ⟨fun w' hw' hcl' => ?_, ?_⟩; focus (subst hw'; (try (have z4 := conv_bs (P := Tryz.prog) (src := 26) (dst := 9) (c := pc) Tryz.underlying26 Tryz.underlying5 Tryz.underlying9 (st.by (i := 5) get5); unfold S at z4)); (focus (first | (go_simp; done) | (go_simp; first | rfl | (rw [if_neg] <;> first | rfl | omega) | (rw [if_pos] <;> first | rfl | omega))))); (try simp only [Rg4.nrm])) | (refine Rg4.w4_skip (Rg4.uw rfl rfl rfl) ?_; (try simp only [Rg4.nrm])) | (refine Rg4.w4_skip (Rg4.un rfl rfl rfl) ?_; (try simp only [Rg4.nrm])))
    (first | (refine Rg4.w4_cl (Rg4.wt rfl rfl rfl) rfl ?_; apply Exists.intro; refine ⟨fun w' hcl => ?_, ?_⟩; (focus (have q0 := Blk.cell hcl 0; have q1 := Blk.cell hcl 1; have q2 := Blk.cell hcl 2; have q3 := Blk.cell hcl 3; have q4 := Blk.cell hcl 4; have q5 := Blk.cell hcl 5; have q6 := Blk.cell hcl 6; have q7 := Blk.cell hcl 7; have q8 := Blk.cell hcl 8; (try simp at q0 q1 q2 q3 q4 q5 q6 q7 q8); (focus (first | (go_simp; done) | (go_simp; first | rfl | (rw [if_neg] <;> first | rfl | omega) | (rw [if_pos] <;> first | rfl | omega)))))); (try simp only [Rg4.nrm])) | (refine Rg4.w4_skip (Rg4.uw rfl rfl rfl) ?_; (try simp only [Rg4.nrm])) | (refine Rg4.w4_skip (Rg4.un rfl rfl rfl) ?_; (try simp only [Rg4.nrm])))
    refine Rg4.w4_bar (Rg4.want_of 28 66 true rfl rfl rfl) rfl (fun w' hw' hcl _ K hK => ?_)
    subst hw'
    go_wp2_with fail
    refine (HRo.out _).mono ?_
    rintro en w ⟨ra, rc, rfl, hfr⟩
    replace st := st.fresh hfr
    clear hfr
    (try simp only [nsl, Value.cells, unB] at st)
    (try clear hc); have hc := st.facts; (try simp only [nfl, nft, Nat.reduceAdd] at hc)
    refine hK _ _ ⟨st.blk (i := 1) get1, ?_⟩
    clear hK
    (try simp only [Rg4.nrm])

    refine Rg4.w4_bar (Rg4.want_of 28 66 true rfl rfl rfl) rfl (fun w' hw' hcl _ K hK => ?_)
    subst hw'
    go_wp2_with fail
    refine (HRr.out _).mono ?_
    rintro en w ⟨sa, sc, rfl, hfr⟩
    replace st := st.fresh hfr
    clear hfr
    (try simp only [nsl, Value.cells, unB] at st)
    (try clear hc); have hc := st.facts; (try simp only [nfl, nft, Nat.reduceAdd] at hc)
    refine hK _ _ ⟨st.blk (i := 1) get1, ?_⟩
    clear hK
    (try simp only [Rg4.nrm])

    refine Rg4.w4_bar (Rg4.want_of 28 66 true rfl rfl rfl) rfl (fun w' hw' hcl _ K hK => ?_)
    subst hw'
    go_wp2_with fail
    have f1 := (st.rowFl3 (α := Role) (i := 6) get6).2
    have f2 := (st.rowFl3 (α := Role) (i := 7) get7).2
    refine (refRoleSame_any _ _ _ _ _ _ _ _ _ f1 f2 HRL.out HRL.out).mono ?_
    rintro en w ⟨rfl, hx⟩
    replace st := st.ext hx
    clear hx f1 f2
    rw [decide_eq_true rfl]
    (try simp only [nsl, Value.cells, unB] at st)
    (try clear hc); have hc := st.facts; (try simp only [nfl, nft, Nat.reduceAdd] at hc)
    refine hK _ _ ⟨st.blk (i := 1) get1, ?_⟩
    clear hK
    (try simp only [Rg4.nrm])
    iterate 2 (refine Rg4.w4_any (Rg4.want_none rfl) rfl ?_; apply Exists.intro; refine ⟨fun w' => ?_, ?_⟩; (focus (first | (go_simp; done) | (go_simp; first | rfl | (rw [if_neg] <;> first | rfl | omega) | (rw [if_pos] <;> first | rfl | omega)))); (try simp only [Rg4.nrm]))
    refine Rg4.w4_nil (fun w' hw' hcl' _ => ?_); subst hw'; clear hcl'
    go_wp2_with ((first
          | ((with_reducible refine wl_box ?_ (fun K hK => ?_)); rfl; refine owp_box (o := ⟨some 2, _, _, _, _, _⟩) rfl st ?_; apply Exists.intro; refine ⟨?_, ?_⟩; (focus (go_simp; try rfl)); (clear st; intro b2 w hb st; clear hb))
          | ((with_reducible refine wl_buildSlice ?_ (fun K hK => ?_)); rfl; refine owp_buildSlice (o := ⟨some 14, _, _, _, _, _⟩) rfl st ?_; apply Exists.intro; apply Exists.intro; apply Exists.intro; apply Exists.intro; refine ⟨?_, ?_⟩; (focus (go_simp; (first | done | exact ⟨⟨rfl, rfl⟩, rfl⟩ | rfl))); (clear st; intro b14 w hb st; clear hb))
          | ((with_reducible refine wl_alloc ?_ (fun K hK => ?_)); rfl; refine owp_alloc (o := ⟨some 7, _, _, _, _, _⟩) rfl st ?_; apply Exists.intro; apply Exists.intro; refine ⟨?_, ?_⟩; (focus (first | (go_simp; done) | (go_simp; rfl))); (clear st; intro b7 w hb st; clear hb))
          | ((with_reducible refine wl_store ?_ (fun K hK => ?_)); rfl; refine owp_store rfl st ?_; apply Exists.intro; apply Exists.intro; refine ⟨?_, ?_, ?_⟩; (focus (go_simp; try rfl)); (focus (go_simp; try rfl)); (first | (with_reducible refine ⟨0, _, _, _, _, get0, rfl, rfl, ?_, ?_, ?_, ?_⟩) | (with_reducible refine ⟨1, _, _, _, _, get1, rfl, rfl, ?_, ?_, ?_, ?_⟩) | (with_reducible refine ⟨2, _, _, _, _, get2, rfl, rfl, ?_, ?_, ?_, ?_⟩) | (with_reducible refine ⟨3, _, _, _, _, get3, rfl, rfl, ?_, ?_, ?_, ?_⟩) | (with_reducible refine ⟨4, _, _, _, _, get4, rfl, rfl, ?_, ?_, ?_, ?_⟩) | (with_reducible refine ⟨5, _, _, _, _, get5, rfl, rfl, ?_, ?_, ?_, ?_⟩) | (with_reducible refine ⟨6, _, _, _, _, get6, rfl, rfl, ?_, ?_, ?_, ?_⟩) | (with_reducible refine ⟨7, _, _, _, _, get7, rfl, rfl, ?_, ?_, ?_, ?_⟩)); (kernel_rfl); (simp [Value.cells]); (rfl); (clear st; intro w st))
          | ((with_reducible refine wl_alloc ?_ (fun K hK => ?_)); rfl; refine owp_alloc (o := ⟨some 9, _, _, _, _, _⟩) rfl st ?_; apply Exists.intro; apply Exists.intro; refine ⟨?_, ?_⟩; (focus (first | (go_simp; done) | (go_simp; rfl))); (clear st; intro b9 w hb st; clear hb))
          | ((with_reducible refine wl_convert ?_ (fun K hK => ?_)); rfl; (first | (refine owp_bs (o := ⟨some 52, _, _, _, _, _⟩) rfl st 0 get0 rfl Tryz.underlying26 Tryz.underlying5 Tryz.underlying9 ?_) | (refine owp_bs (o := ⟨some 52, _, _, _, _, _⟩) rfl st 1 get1 rfl Tryz.underlying26 Tryz.underlying5 Tryz.underlying9 ?_) | (refine owp_bs (o := ⟨some 52, _, _, _, _, _⟩) rfl st 2 get2 rfl Tryz.underlying26 Tryz.underlying5 Tryz.underlying9 ?_) | (refine owp_bs (o := ⟨some 52, _, _, _, _, _⟩) rfl st 3 get3 rfl Tryz.underlying26 Tryz.underlying5 Tryz.underlying9 ?_) | (refine owp_bs (o := ⟨some 52, _, _, _, _, _⟩) rfl st 4 get4 rfl Tryz.underlying26 Tryz.underlying5 Tryz.underlying9 ?_) | (refine owp_bs (o := ⟨some 52, _, _, _, _, _⟩) rfl st 5 get5 rfl Tryz.underlying26 Tryz.underlying5 Tryz.underlying9 ?_) | (refine owp_bs (o := ⟨some 52, _, _, _, _, _⟩) rfl st 6 get6 rfl Tryz.underlying26 Tryz.underlying5 Tryz.underlying9 ?_) | (refine owp_bs (o := ⟨some 52, _, _, _, _, _⟩) rfl st 7 get7 rfl Tryz.underlying26 Tryz.underlying5 Tryz.underlying9 ?_)))); (try simp only [nsl, Value.cells, unB] at st); (try clear hc); have hc := st.facts; (try simp only [nfl, nft, Nat.reduceAdd] at hc))
    go_ret
    exact ⟨rfl, st.ext0⟩
  | false =>
    obtain rfl : ty = [] := HTY.out.trans (if_neg (by decide))
    obtain rfl : bu = [] := HBY.out.trans (if_neg (by decide))
    go_enter Tryz.func5, Tryz.ntmps5
    go_wp2_with ((first
          | ((with_reducible refine wl_box ?_ (fun K hK => ?_)); rfl; refine owp_box (o := ⟨some 2, _, _, _, _, _⟩) rfl st ?_; apply Exists.intro; refine ⟨?_, ?_⟩; (focus (go_simp; try rfl)); (clear st; intro b2 w hb st; clear hb))
          | ((with_reducible refine wl_buildSlice ?_ (fun K hK => ?_)); rfl; refine owp_buildSlice (o := ⟨some 14, _, _, _, _, _⟩) rfl st ?_; apply Exists.intro; apply Exists.intro; apply Exists.intro; apply Exists.intro; refine ⟨?_, ?_⟩; (focus (go_simp; (first | done | exact ⟨⟨rfl, rfl⟩, rfl⟩ | rfl))); (clear st; intro b14 w hb st; clear hb))
          | ((with_reducible refine wl_alloc ?_ (fun K hK => ?_)); rfl; refine owp_alloc (o := ⟨some 7, _, _, _, _, _⟩) rfl st ?_; apply Exists.intro; apply Exists.intro; refine ⟨?_, ?_⟩; (focus (first | (go_simp; done) | (go_simp; rfl))); (clear st; intro b7 w hb st; clear hb))
          | ((with_reducible refine wl_store ?_ (fun K hK => ?_)); rfl; refine owp_store rfl st ?_; apply Exists.intro; apply Exists.intro; refine ⟨?_, ?_, ?_⟩; (focus (go_simp; try rfl)); (focus (go_simp; try rfl)); (first | (with_reducible refine ⟨0, _, _, _, _, get0, rfl, rfl, ?_, ?_, ?_, ?_⟩) | (with_reducible refine ⟨1, _, _, _, _, get1, rfl, rfl, ?_, ?_, ?_, ?_⟩) | (with_reducible refine ⟨2, _, _, _, _, get2, rfl, rfl, ?_, ?_, ?_, ?_⟩) | (with_reducible refine ⟨3, _, _, _, _, get3, rfl, rfl, ?_, ?_, ?_, ?_⟩) | (with_reducible refine ⟨4, _, _, _, _, get4, rfl, rfl, ?_, ?_, ?_, ?_⟩) | (with_reducible refine ⟨5, _, _, _, _, get5, rfl, rfl, ?_, ?_, ?_, ?_⟩) | (with_reducible refine ⟨6, _, _, _, _, get6, rfl, rfl, ?_, ?_, ?_, ?_⟩) | (with_reducible refine ⟨7, _, _, _, _, get7, rfl, rfl, ?_, ?_, ?_, ?_⟩)); (kernel_rfl); (simp [Value.cells]); (rfl); (clear st; intro w st))
          | ((with_reducible refine wl_alloc ?_ (fun K hK => ?_)); rfl; refine owp_alloc (o := ⟨some 9, _, _, _, _, _⟩) rfl st ?_; apply Exists.intro; apply Exists.intro; refine ⟨?_, ?_⟩; (focus (first | (go_simp; done) | (go_simp; rfl))); (clear st; intro b9 w hb st; clear hb))
          | ((with_reducible refine wl_convert ?_ (fun K hK => ?_)); rfl; (first | (refine owp_bs (o := ⟨some 52, _, _, _, _, _⟩) rfl st 0 get0 rfl Tryz.underlying26 Tryz.underlying5 Tryz.underlying9 ?_) | (refine owp_bs (o := ⟨some 52, _, _, _, _, _⟩) rfl st 1 get1 rfl Tryz.underlying26 Tryz.underlying5 Tryz.underlying9 ?_) | (refine owp_bs (o := ⟨some 52, _, _, _, _, _⟩) rfl st 2 get2 rfl Tryz.underlying26 Tryz.underlying5 Tryz.underlying9 ?_) | (refine owp_bs (o := ⟨some 52, _, _, _, _, _⟩) rfl st 3 get3 rfl Tryz.underlying26 Tryz.underlying5 Tryz.underlying9 ?_) | (refine owp_bs (o := ⟨some 52, _, _, _, _, _⟩) rfl st 4 get4 rfl Tryz.underlying26 Tryz.underlying5 Tryz.underlying9 ?_) | (refine owp_bs (o := ⟨some 52, _, _, _, _, _⟩) rfl st 5 get5 rfl Tryz.underlying26 Tryz.underlying5 Tryz.underlying9 ?_) | (refine owp_bs (o := ⟨some 52, _, _, _, _, _⟩) rfl st 6 get6 rfl Tryz.underlying26 Tryz.underlying5 Tryz.underlying9 ?_) | (refine owp_bs (o := ⟨some 52, _, _, _, _, _⟩) rfl st 7 get7 rfl Tryz.underlying26 Tryz.underlying5 Tryz.underlying9 ?_)))); (try simp only [nsl, Value.cells, unB] at st); (try clear hc); have hc := st.facts; (try simp only [nfl, nft, Nat.reduceAdd] at hc))
    refine (credFirst_any _ (HG.out.ext st.ext0)).mono ?_
    rintro en w ⟨rfl, hx⟩
    replace st := st.ext hx
    clear hx
    (try clear hc); have hc := st.facts; (try simp only [nfl, nft, Nat.reduceAdd] at hc)
    go_wp2_with ((first
          | ((with_reducible refine wl_box ?_ (fun K hK => ?_)); rfl; refine owp_box (o := ⟨some 2, _, _, _, _, _⟩) rfl st ?_; apply Exists.intro; refine ⟨?_, ?_⟩; (focus (go_simp; try rfl)); (clear st; intro b2 w hb st; clear hb))
          | ((with_reducible refine wl_buildSlice ?_ (fun K hK => ?_)); rfl; refine owp_buildSlice (o := ⟨some 14, _, _, _, _, _⟩) rfl st ?_; apply Exists.intro; apply Exists.intro; apply Exists.intro; apply Exists.intro; refine ⟨?_, ?_⟩; (focus (go_simp; (first | done | exact ⟨⟨rfl, rfl⟩, rfl⟩ | rfl))); (clear st; intro b14 w hb st; clear hb))
          | ((with_reducible refine wl_alloc ?_ (fun K hK => ?_)); rfl; refine owp_alloc (o := ⟨some 7, _, _, _, _, _⟩) rfl st ?_; apply Exists.intro; apply Exists.intro; refine ⟨?_, ?_⟩; (focus (first | (go_simp; done) | (go_simp; rfl))); (clear st; intro b7 w hb st; clear hb))
          | ((with_reducible refine wl_store ?_ (fun K hK => ?_)); rfl; refine owp_store rfl st ?_; apply Exists.intro; apply Exists.intro; refine ⟨?_, ?_, ?_⟩; (focus (go_simp; try rfl)); (focus (go_simp; try rfl)); (first | (with_reducible refine ⟨0, _, _, _, _, get0, rfl, rfl, ?_, ?_, ?_, ?_⟩) | (with_reducible refine ⟨1, _, _, _, _, get1, rfl, rfl, ?_, ?_, ?_, ?_⟩) | (with_reducible refine ⟨2, _, _, _, _, get2, rfl, rfl, ?_, ?_, ?_, ?_⟩) | (with_reducible refine ⟨3, _, _, _, _, get3, rfl, rfl, ?_, ?_, ?_, ?_⟩) | (with_reducible refine ⟨4, _, _, _, _, get4, rfl, rfl, ?_, ?_, ?_, ?_⟩) | (with_reducible refine ⟨5, _, _, _, _, get5, rfl, rfl, ?_, ?_, ?_, ?_⟩) | (with_reducible refine ⟨6, _, _, _, _, get6, rfl, rfl, ?_, ?_, ?_, ?_⟩) | (with_reducible refine ⟨7, _, _, _, _, get7, rfl, rfl, ?_, ?_, ?_, ?_⟩)); (kernel_rfl); (simp [Value.cells]); (rfl); (clear st; intro w st))
          | ((with_reducible refine wl_alloc ?_ (fun K hK => ?_)); rfl; refine owp_alloc (o := ⟨some 9, _, _, _, _, _⟩) rfl st ?_; apply Exists.intro; apply Exists.intro; refine ⟨?_, ?_⟩; (focus (first | (go_simp; done) | (go_simp; rfl))); (clear st; intro b9 w hb st; clear hb))
          | ((with_reducible refine wl_convert ?_ (fun K hK => ?_)); rfl; (first | (refine owp_bs (o := ⟨some 52, _, _, _, _, _⟩) rfl st 0 get0 rfl Tryz.underlying26 Tryz.underlying5 Tryz.underlying9 ?_) | (refine owp_bs (o := ⟨some 52, _, _, _, _, _⟩) rfl st 1 get1 rfl Tryz.underlying26 Tryz.underlying5 Tryz.underlying9 ?_) | (refine owp_bs (o := ⟨some 52, _, _, _, _, _⟩) rfl st 2 get2 rfl Tryz.underlying26 Tryz.underlying5 Tryz.underlying9 ?_) | (refine owp_bs (o := ⟨some 52, _, _, _, _, _⟩) rfl st 3 get3 rfl Tryz.underlying26 Tryz.underlying5 Tryz.underlying9 ?_) | (refine owp_bs (o := ⟨some 52, _, _, _, _, _⟩) rfl st 4 get4 rfl Tryz.underlying26 Tryz.underlying5 Tryz.underlying9 ?_) | (refine owp_bs (o := ⟨some 52, _, _, _, _, _⟩) rfl st 5 get5 rfl Tryz.underlying26 Tryz.underlying5 Tryz.underlying9 ?_) | (refine owp_bs (o := ⟨some 52, _, _, _, _, _⟩) rfl st 6 get6 rfl Tryz.underlying26 Tryz.underlying5 Tryz.underlying9 ?_) | (refine owp_bs (o := ⟨some 52, _, _, _, _, _⟩) rfl st 7 get7 rfl Tryz.underlying26 Tryz.underlying5 Tryz.underlying9 ?_)))); (try simp only [nsl, Value.cells, unB] at st); (try clear hc); have hc := st.facts; (try simp only [nfl, nft, Nat.reduceAdd] at hc))
    have hF := fl_lit (st.blk (i := 2) get2) ([x] : List CredT) rfl
    refine (credGreat_any _ 1 _ [x] _ hF (by rw [HW.out]; omega)).mono ?_
    rintro en w ⟨rfl, hx⟩
    replace st := st.ext hx
    clear hx
    (try clear hc); have hc := st.facts; (try simp only [nfl, nft, Nat.reduceAdd] at hc)
    rw [HW.out]
    clear hF
    go_wp2_with ((first
          | ((with_reducible refine wl_box ?_ (fun K hK => ?_)); rfl; refine owp_box (o := ⟨some 2, _, _, _, _, _⟩) rfl st ?_; apply Exists.intro; refine ⟨?_, ?_⟩; (focus (go_simp; try rfl)); (clear st; intro b2 w hb st; clear hb))
          | ((with_reducible refine wl_buildSlice ?_ (fun K hK => ?_)); rfl; refine owp_buildSlice (o := ⟨some 14, _, _, _, _, _⟩) rfl st ?_; apply Exists.intro; apply Exists.intro; apply Exists.intro; apply Exists.intro; refine ⟨?_, ?_⟩; (focus (go_simp; (first | done | exact ⟨⟨rfl, rfl⟩, rfl⟩ | rfl))); (clear st; intro b14 w hb st; clear hb))
          | ((with_reducible refine wl_alloc ?_ (fun K hK => ?_)); rfl; refine owp_alloc (o := ⟨some 7, _, _, _, _, _⟩) rfl st ?_; apply Exists.intro; apply Exists.intro; refine ⟨?_, ?_⟩; (focus (first | (go_simp; done) | (go_simp; rfl))); (clear st; intro b7 w hb st; clear hb))
          | ((with_reducible refine wl_store ?_ (fun K hK => ?_)); rfl; refine owp_store rfl st ?_; apply Exists.intro; apply Exists.intro; refine ⟨?_, ?_, ?_⟩; (focus (go_simp; try rfl)); (focus (go_simp; try rfl)); (first | (with_reducible refine ⟨0, _, _, _, _, get0, rfl, rfl, ?_, ?_, ?_, ?_⟩) | (with_reducible refine ⟨1, _, _, _, _, get1, rfl, rfl, ?_, ?_, ?_, ?_⟩) | (with_reducible refine ⟨2, _, _, _, _, get2, rfl, rfl, ?_, ?_, ?_, ?_⟩) | (with_reducible refine ⟨3, _, _, _, _, get3, rfl, rfl, ?_, ?_, ?_, ?_⟩) | (with_reducible refine ⟨4, _, _, _, _, get4, rfl, rfl, ?_, ?_, ?_, ?_⟩) | (with_reducible refine ⟨5, _, _, _, _, get5, rfl, rfl, ?_, ?_, ?_, ?_⟩) | (with_reducible refine ⟨6, _, _, _, _, get6, rfl, rfl, ?_, ?_, ?_, ?_⟩) | (with_reducible refine ⟨7, _, _, _, _, get7, rfl, rfl, ?_, ?_, ?_, ?_⟩)); (kernel_rfl); (simp [Value.cells]); (rfl); (clear st; intro w st))
          | ((with_reducible refine wl_alloc ?_ (fun K hK => ?_)); rfl; refine owp_alloc (o := ⟨some 9, _, _, _, _, _⟩) rfl st ?_; apply Exists.intro; apply Exists.intro; refine ⟨?_, ?_⟩; (focus (first | (go_simp; done) | (go_simp; rfl))); (clear st; intro b9 w hb st; clear hb))
          | ((with_reducible refine wl_convert ?_ (fun K hK => ?_)); rfl; (first | (refine owp_bs (o := ⟨some 52, _, _, _, _, _⟩) rfl st 0 get0 rfl Tryz.underlying26 Tryz.underlying5 Tryz.underlying9 ?_) | (refine owp_bs (o := ⟨some 52, _, _, _, _, _⟩) rfl st 1 get1 rfl Tryz.underlying26 Tryz.underlying5 Tryz.underlying9 ?_) | (refine owp_bs (o := ⟨some 52, _, _, _, _, _⟩) rfl st 2 get2 rfl Tryz.underlying26 Tryz.underlying5 Tryz.underlying9 ?_) | (refine owp_bs (o := ⟨some 52, _, _, _, _, _⟩) rfl st 3 get3 rfl Tryz.underlying26 Tryz.underlying5 Tryz.underlying9 ?_) | (refine owp_bs (o := ⟨some 52, _, _, _, _, _⟩) rfl st 4 get4 rfl Tryz.underlying26 Tryz.underlying5 Tryz.underlying9 ?_) | (refine owp_bs (o := ⟨some 52, _, _, _, _, _⟩) rfl st 5 get5 rfl Tryz.underlying26 Tryz.underlying5 Tryz.underlying9 ?_) | (refine owp_bs (o := ⟨some 52, _, _, _, _, _⟩) rfl st 6 get6 rfl Tryz.underlying26 Tryz.underlying5 Tryz.underlying9 ?_) | (refine owp_bs (o := ⟨some 52, _, _, _, _, _⟩) rfl st 7 get7 rfl Tryz.underlying26 Tryz.underlying5 Tryz.underlying9 ?_)))); (try simp only [nsl, Value.cells, unB] at st); (try clear hc); have hc := st.facts; (try simp only [nfl, nft, Nat.reduceAdd] at hc))
    refine (HRR.out _).mono ?_
    rintro en w ⟨rfl, hx⟩
    replace st := st.ext hx
    clear hx
    (try clear hc); have hc := st.facts; (try simp only [nfl, nft, Nat.reduceAdd] at hc)
    go_wp2_with ((first
          | ((with_reducible refine wl_box ?_ (fun K hK => ?_)); rfl; refine owp_box (o := ⟨some 2, _, _, _, _, _⟩) rfl st ?_; apply Exists.intro; refine ⟨?_, ?_⟩; (focus (go_simp; try rfl)); (clear st; intro b2 w hb st; clear hb))
          | ((with_reducible refine wl_buildSlice ?_ (fun K hK => ?_)); rfl; refine owp_buildSlice (o := ⟨some 14, _, _, _, _, _⟩) rfl st ?_; apply Exists.intro; apply Exists.intro; apply Exists.intro; apply Exists.intro; refine ⟨?_, ?_⟩; (focus (go_simp; (first | done | exact ⟨⟨rfl, rfl⟩, rfl⟩ | rfl))); (clear st; intro b14 w hb st; clear hb))
          | ((with_reducible refine wl_alloc ?_ (fun K hK => ?_)); rfl; refine owp_alloc (o := ⟨some 7, _, _, _, _, _⟩) rfl st ?_; apply Exists.intro; apply Exists.intro; refine ⟨?_, ?_⟩; (focus (first | (go_simp; done) | (go_simp; rfl))); (clear st; intro b7 w hb st; clear hb))
          | ((with_reducible refine wl_store ?_ (fun K hK => ?_)); rfl; refine owp_store rfl st ?_; apply Exists.intro; apply Exists.intro; refine ⟨?_, ?_, ?_⟩; (focus (go_simp; try rfl)); (focus (go_simp; try rfl)); (first | (with_reducible refine ⟨0, _, _, _, _, get0, rfl, rfl, ?_, ?_, ?_, ?_⟩) | (with_reducible refine ⟨1, _, _, _, _, get1, rfl, rfl, ?_, ?_, ?_, ?_⟩) | (with_reducible refine ⟨2, _, _, _, _, get2, rfl, rfl, ?_, ?_, ?_, ?_⟩) | (with_reducible refine ⟨3, _, _, _, _, get3, rfl, rfl, ?_, ?_, ?_, ?_⟩) | (with_reducible refine ⟨4, _, _, _, _, get4, rfl, rfl, ?_, ?_, ?_, ?_⟩) | (with_reducible refine ⟨5, _, _, _, _, get5, rfl, rfl, ?_, ?_, ?_, ?_⟩) | (with_reducible refine ⟨6, _, _, _, _, get6, rfl, rfl, ?_, ?_, ?_, ?_⟩) | (with_reducible refine ⟨7, _, _, _, _, get7, rfl, rfl, ?_, ?_, ?_, ?_⟩)); (kernel_rfl); (simp [Value.cells]); (rfl); (clear st; intro w st))
          | ((with_reducible refine wl_alloc ?_ (fun K hK => ?_)); rfl; refine owp_alloc (o := ⟨some 9, _, _, _, _, _⟩) rfl st ?_; apply Exists.intro; apply Exists.intro; refine ⟨?_, ?_⟩; (focus (first | (go_simp; done) | (go_simp; rfl))); (clear st; intro b9 w hb st; clear hb))
          | ((with_reducible refine wl_convert ?_ (fun K hK => ?_)); rfl; (first | (refine owp_bs (o := ⟨some 52, _, _, _, _, _⟩) rfl st 0 get0 rfl Tryz.underlying26 Tryz.underlying5 Tryz.underlying9 ?_) | (refine owp_bs (o := ⟨some 52, _, _, _, _, _⟩) rfl st 1 get1 rfl Tryz.underlying26 Tryz.underlying5 Tryz.underlying9 ?_) | (refine owp_bs (o := ⟨some 52, _, _, _, _, _⟩) rfl st 2 get2 rfl Tryz.underlying26 Tryz.underlying5 Tryz.underlying9 ?_) | (refine owp_bs (o := ⟨some 52, _, _, _, _, _⟩) rfl st 3 get3 rfl Tryz.underlying26 Tryz.underlying5 Tryz.underlying9 ?_) | (refine owp_bs (o := ⟨some 52, _, _, _, _, _⟩) rfl st 4 get4 rfl Tryz.underlying26 Tryz.underlying5 Tryz.underlying9 ?_) | (refine owp_bs (o := ⟨some 52, _, _, _, _, _⟩) rfl st 5 get5 rfl Tryz.underlying26 Tryz.underlying5 Tryz.underlying9 ?_) | (refine owp_bs (o := ⟨some 52, _, _, _, _, _⟩) rfl st 6 get6 rfl Tryz.underlying26 Tryz.underlying5 Tryz.underlying9 ?_) | (refine owp_bs (o := ⟨some 52, _, _, _, _, _⟩) rfl st 7 get7 rfl Tryz.underlying26 Tryz.underlying5 Tryz.underlying9 ?_)))); (try simp only [nsl, Value.cells, unB] at st); (try clear hc); have hc := st.facts; (try simp only [nfl, nft, Nat.reduceAdd] at hc))
    refine (HP.out _ (HG.out.ext st.ext0)).mono ?_
    rintro en w ⟨rfl, hx⟩
    replace st := st.ext hx
    clear hx
    (try clear hc); have hc := st.facts; (try simp only [nfl, nft, Nat.reduceAdd] at hc)
    go_wp2_with ((first
          | ((with_reducible refine wl_box ?_ (fun K hK => ?_)); rfl; refine owp_box (o := ⟨some 2, _, _, _, _, _⟩) rfl st ?_; apply Exists.intro; refine ⟨?_, ?_⟩; (focus (go_simp; try rfl)); (clear st; intro b2 w hb st; clear hb))
          | ((with_reducible refine wl_buildSlice ?_ (fun K hK => ?_)); rfl; refine owp_buildSlice (o := ⟨some 14, _, _, _, _, _⟩) rfl st ?_; apply Exists.intro; apply Exists.intro; apply Exists.intro; apply Exists.intro; refine ⟨?_, ?_⟩; (focus (go_simp; (first | done | exact ⟨⟨rfl, rfl⟩, rfl⟩ | rfl))); (clear st; intro b14 w hb st; clear hb))
          | ((with_reducible refine wl_alloc ?_ (fun K hK => ?_)); rfl; refine owp_alloc (o := ⟨some 7, _, _, _, _, _⟩) rfl st ?_; apply Exists.intro; apply Exists.intro; refine ⟨?_, ?_⟩; (focus (first | (go_simp; done) | (go_simp; rfl))); (clear st; intro b7 w hb st; clear hb))
          | ((with_reducible refine wl_store ?_ (fun K hK => ?_)); rfl; refine owp_store rfl st ?_; apply Exists.intro; apply Exists.intro; refine ⟨?_, ?_, ?_⟩; (focus (go_simp; try rfl)); (focus (go_simp; try rfl)); (first | (with_reducible refine ⟨0, _, _, _, _, get0, rfl, rfl, ?_, ?_, ?_, ?_⟩) | (with_reducible refine ⟨1, _, _, _, _, get1, rfl, rfl, ?_, ?_, ?_, ?_⟩) | (with_reducible refine ⟨2, _, _, _, _, get2, rfl, rfl, ?_, ?_, ?_, ?_⟩) | (with_reducible refine ⟨3, _, _, _, _, get3, rfl, rfl, ?_, ?_, ?_, ?_⟩) | (with_reducible refine ⟨4, _, _, _, _, get4, rfl, rfl, ?_, ?_, ?_, ?_⟩) | (with_reducible refine ⟨5, _, _, _, _, get5, rfl, rfl, ?_, ?_, ?_, ?_⟩) | (with_reducible refine ⟨6, _, _, _, _, get6, rfl, rfl, ?_, ?_, ?_, ?_⟩) | (with_reducible refine ⟨7, _, _, _, _, get7, rfl, rfl, ?_, ?_, ?_, ?_⟩)); (kernel_rfl); (simp [Value.cells]); (rfl); (clear st; intro w st))
          | ((with_reducible refine wl_alloc ?_ (fun K hK => ?_)); rfl; refine owp_alloc (o := ⟨some 9, _, _, _, _, _⟩) rfl st ?_; apply Exists.intro; apply Exists.intro; refine ⟨?_, ?_⟩; (focus (first | (go_simp; done) | (go_simp; rfl))); (clear st; intro b9 w hb st; clear hb))
          | ((with_reducible refine wl_convert ?_ (fun K hK => ?_)); rfl; (first | (refine owp_bs (o := ⟨some 52, _, _, _, _, _⟩) rfl st 0 get0 rfl Tryz.underlying26 Tryz.underlying5 Tryz.underlying9 ?_) | (refine owp_bs (o := ⟨some 52, _, _, _, _, _⟩) rfl st 1 get1 rfl Tryz.underlying26 Tryz.underlying5 Tryz.underlying9 ?_) | (refine owp_bs (o := ⟨some 52, _, _, _, _, _⟩) rfl st 2 get2 rfl Tryz.underlying26 Tryz.underlying5 Tryz.underlying9 ?_) | (refine owp_bs (o := ⟨some 52, _, _, _, _, _⟩) rfl st 3 get3 rfl Tryz.underlying26 Tryz.underlying5 Tryz.underlying9 ?_) | (refine owp_bs (o := ⟨some 52, _, _, _, _, _⟩) rfl st 4 get4 rfl Tryz.underlying26 Tryz.underlying5 Tryz.underlying9 ?_) | (refine owp_bs (o := ⟨some 52, _, _, _, _, _⟩) rfl st 5 get5 rfl Tryz.underlying26 Tryz.underlying5 Tryz.underlying9 ?_) | (refine owp_bs (o := ⟨some 52, _, _, _, _, _⟩) rfl st 6 get6 rfl Tryz.underlying26 Tryz.underlying5 Tryz.underlying9 ?_) | (refine owp_bs (o := ⟨some 52, _, _, _, _, _⟩) rfl st 7 get7 rfl Tryz.underlying26 Tryz.underlying5 Tryz.underlying9 ?_)))); (try simp only [nsl, Value.cells, unB] at st); (try clear hc); have hc := st.facts; (try simp only [nfl, nft, Nat.reduceAdd] at hc))
    refine (HQ.out _).mono ?_
    rintro en w ⟨rfl, hx⟩
    replace st := st.ext hx
    clear hx
    (try clear hc); have hc := st.facts; (try simp only [nfl, nft, Nat.reduceAdd] at hc)
    go_wp2_with ((first
          | ((with_reducible refine wl_box ?_ (fun K hK => ?_)); rfl; refine owp_box (o := ⟨some 2, _, _, _, _, _⟩) rfl st ?_; apply Exists.intro; refine ⟨?_, ?_⟩; (focus (go_simp; try rfl)); (clear st; intro b2 w hb st; clear hb))
          | ((with_reducible refine wl_buildSlice ?_ (fun K hK => ?_)); rfl; refine owp_buildSlice (o := ⟨some 14, _, _, _, _, _⟩) rfl st ?_; apply Exists.intro; apply Exists.intro; apply Exists.intro; apply Exists.intro; refine ⟨?_, ?_⟩; (focus (go_simp; (first | done | exact ⟨⟨rfl, rfl⟩, rfl⟩ | rfl))); (clear st; intro b14 w hb st; clear hb))
          | ((with_reducible refine wl_alloc ?_ (fun K hK => ?_)); rfl; refine owp_alloc (o := ⟨some 7, _, _, _, _, _⟩) rfl st ?_; apply Exists.intro; apply Exists.intro; refine ⟨?_, ?_⟩; (focus (first | (go_simp; done) | (go_simp; rfl))); (clear st; intro b7 w hb st; clear hb))
          | ((with_reducible refine wl_store ?_ (fun K hK => ?_)); rfl; refine owp_store rfl st ?_; apply Exists.intro; apply Exists.intro; refine ⟨?_, ?_, ?_⟩; (focus (go_simp; try rfl)); (focus (go_simp; try rfl)); (first | (with_reducible refine ⟨0, _, _, _, _, get0, rfl, rfl, ?_, ?_, ?_, ?_⟩) | (with_reducible refine ⟨1, _, _, _, _, get1, rfl, rfl, ?_, ?_, ?_, ?_⟩) | (with_reducible refine ⟨2, _, _, _, _, get2, rfl, rfl, ?_, ?_, ?_, ?_⟩) | (with_reducible refine ⟨3, _, _, _, _, get3, rfl, rfl, ?_, ?_, ?_, ?_⟩) | (with_reducible refine ⟨4, _, _, _, _, get4, rfl, rfl, ?_, ?_, ?_, ?_⟩) | (with_reducible refine ⟨5, _, _, _, _, get5, rfl, rfl, ?_, ?_, ?_, ?_⟩) | (with_reducible refine ⟨6, _, _, _, _, get6, rfl, rfl, ?_, ?_, ?_, ?_⟩) | (with_reducible refine ⟨7, _, _, _, _, get7, rfl, rfl, ?_, ?_, ?_, ?_⟩)); (kernel_rfl); (simp [Value.cells]); (rfl); (clear st; intro w st))
          | ((with_reducible refine wl_alloc ?_ (fun K hK => ?_)); rfl; refine owp_alloc (o := ⟨some 9, _, _, _, _, _⟩) rfl st ?_; apply Exists.intro; apply Exists.intro; refine ⟨?_, ?_⟩; (focus (first | (go_simp; done) | (go_simp; rfl))); (clear st; intro b9 w hb st; clear hb))
          | ((with_reducible refine wl_convert ?_ (fun K hK => ?_)); rfl; (first | (refine owp_bs (o := ⟨some 52, _, _, _, _, _⟩) rfl st 0 get0 rfl Tryz.underlying26 Tryz.underlying5 Tryz.underlying9 ?_) | (refine owp_bs (o := ⟨some 52, _, _, _, _, _⟩) rfl st 1 get1 rfl Tryz.underlying26 Tryz.underlying5 Tryz.underlying9 ?_) | (refine owp_bs (o := ⟨some 52, _, _, _, _, _⟩) rfl st 2 get2 rfl Tryz.underlying26 Tryz.underlying5 Tryz.underlying9 ?_) | (refine owp_bs (o := ⟨some 52, _, _, _, _, _⟩) rfl st 3 get3 rfl Tryz.underlying26 Tryz.underlying5 Tryz.underlying9 ?_) | (refine owp_bs (o := ⟨some 52, _, _, _, _, _⟩) rfl st 4 get4 rfl Tryz.underlying26 Tryz.underlying5 Tryz.underlying9 ?_) | (refine owp_bs (o := ⟨some 52, _, _, _, _, _⟩) rfl st 5 get5 rfl Tryz.underlying26 Tryz.underlying5 Tryz.underlying9 ?_) | (refine owp_bs (o := ⟨some 52, _, _, _, _, _⟩) rfl st 6 get6 rfl Tryz.underlying26 Tryz.underlying5 Tryz.underlying9 ?_) | (refine owp_bs (o := ⟨some 52, _, _, _, _, _⟩) rfl st 7 get7 rfl Tryz.underlying26 Tryz.underlying5 Tryz.underlying9 ?_)))); (try simp only [nsl, Value.cells, unB] at st); (try clear hc); have hc := st.facts; (try simp only [nfl, nft, Nat.reduceAdd] at hc))
    refine Rg4.wp_region4_eq #[0, 1, 0, 7, 15, 31, 63, 127, 63, 511, 1023, 2047, 4095, 8191, 16383, 4095, 65535, 131071, 262143, 524287, 524287, 2097151, 4194303, 8388607, 16777215, 16777215, 67108863, 134217727, 268435455, 536870911, 1073741823, 536870911, 4294967295, 8589934591, 17179869183, 34359738367] [1, 3, 7, 13, 30, 32, 33] [0, 6, 12, 14, 19, 20, 29] (fun W' => Blk W' b2 [.int .i64 x.k, .string ⟨x.h.1.toArray⟩, .string ⟨x.h.2.toArray⟩, .string ⟨x.w.toArray⟩, .string ⟨x.b.1.toArray⟩, .string ⟨x.b.2.toArray⟩, .string ⟨x.c.1.toArray⟩, .string ⟨x.c.2.toArray⟩, .string ⟨x.e.toArray⟩]) [0, 2, 1, 3, 4, 5, 6, 8, 7, 9, 10, 11, 12, 15, 13, 14, 16, 17, 18, 19, 20, 21, 22, 23, 24, 25, 26, 27, 28, 29, 31, 30, 32, 33, 34, 35] (by kernel_rfl) (by kernel_rfl) (by kernel_rfl) (by kernel_rfl) (show Rg4.PB _ by repeat (first | with_reducible exact Rg4.pb_body | with_reducible exact Rg4.pb_bodyD rfl | with_reducible refine Rg4.pb_then ?_ | with_reducible refine Rg4.pb_inBlock ?_ | with_reducible refine Rg4.pb_noGoto ?_)) (st.drew.blk (i := 1) get1) ?_
    replace st := st.drew
    change Rg4.wp4 _ _ _ _ _ _ _ _ _ (World.drew _) _ _
    generalize World.drew _ = w at st ⊢
    (try clear hc); have hc := st.facts; (try simp only [nfl, nft, Nat.reduceAdd] at hc)
    (refine Rg4.w4_read (Rg4.want_none rfl) rfl rfl ?_; apply Exists.intro; refine ⟨fun w' hw' hcl' => ?_, ?_⟩; focus (subst hw'; (try (have z4 := conv_bs (P := Tryz.prog) (src := 26) (dst := 9) (c := pc) Tryz.underlying26 Tryz.underlying5 Tryz.underlying9 (st.by (i := 5) get5); unfold S at z4)); (focus (first | (go_simp; done) | (go_simp; first | rfl | (rw [if_neg] <;> first | rfl | omega) | (rw [if_pos] <;> first | rfl | omega))))); (try simp only [Rg4.nrm]))
    (refine Rg4.w4_cl (Rg4.want_none rfl) rfl ?_; apply Exists.intro; refine ⟨fun w' hcl => ?_, ?_⟩; (focus (have q0 := Blk.cell hcl 0; have q1 := Blk.cell hcl 1; have q2 := Blk.cell hcl 2; have q3 := Blk.cell hcl 3; have q4 := Blk.cell hcl 4; have q5 := Blk.cell hcl 5; have q6 := Blk.cell hcl 6; have q7 := Blk.cell hcl 7; have q8 := Blk.cell hcl 8; (try simp at q0 q1 q2 q3 q4 q5 q6 q7 q8); (focus (first | (go_simp; done) | (go_simp; first | rfl | (rw [if_neg] <;> first | rfl | omega) | (rw [if_pos] <;> first | rfl | omega)))))); (try simp only [Rg4.nrm]))
    refine Rg4.w4_bar (Rg4.want_none rfl) rfl (fun w' hw' hcl _ K hK => ?_)
    subst hw'
    go_wp2_with fail
    refine (HR.out _).mono ?_
    rintro en w ⟨rfl, hx⟩
    replace st := st.ext hx
    clear hx
    (try simp only [nsl, Value.cells, unB] at st)
    (try clear hc); have hc := st.facts; (try simp only [nfl, nft, Nat.reduceAdd] at hc)
    refine hK _ _ ⟨st.blk (i := 1) get1, ?_⟩
    clear hK
    (try simp only [Rg4.nrm])

    refine Rg4.w4_bar (Rg4.want_none rfl) rfl (fun w' hw' hcl _ K hK => ?_)
    subst hw'
    go_wp2_with fail
    refine (HRR.out _).mono ?_
    rintro en w ⟨rfl, hx⟩
    replace st := st.ext hx
    clear hx
    (try simp only [nsl, Value.cells, unB] at st)
    (try clear hc); have hc := st.facts; (try simp only [nfl, nft, Nat.reduceAdd] at hc)
    refine hK _ _ ⟨st.blk (i := 1) get1, ?_⟩
    clear hK
    (try simp only [Rg4.nrm])
    iterate 2 (refine Rg4.w4_any (Rg4.want_none rfl) rfl ?_; apply Exists.intro; refine ⟨fun w' => ?_, ?_⟩; (focus (first | (go_simp; done) | (go_simp; first | rfl | (rw [if_neg] <;> first | rfl | omega) | (rw [if_pos] <;> first | rfl | omega)))); (try simp only [Rg4.nrm]))
    (first | (refine Rg4.w4_read (Rg4.wt rfl rfl rfl) rfl rfl ?_; apply Exists.intro; refine ⟨fun w' hw' hcl' => ?_, ?_⟩; focus (subst hw'; (try (have z4 := conv_bs (P := Tryz.prog) (src := 26) (dst := 9) (c := pc) Tryz.underlying26 Tryz.underlying5 Tryz.underlying9 (st.by (i := 5) get5); unfold S at z4)); (focus (first | (go_simp; done) | (go_simp; first | rfl | (rw [if_neg] <;> first | rfl | omega) | (rw [if_pos] <;> first | rfl | omega))))); (try simp only [Rg4.nrm])) | (refine Rg4.w4_skip (Rg4.uw rfl rfl rfl) ?_; (try simp only [Rg4.nrm])) | (refine Rg4.w4_skip (Rg4.un rfl rfl rfl) ?_; (try simp only [Rg4.nrm])))
    (first | (refine Rg4.w4_any (Rg4.wt rfl rfl rfl) rfl ?_; apply Exists.intro; refine ⟨fun w' => ?_, ?_⟩; (focus (first | (go_simp; done) | (go_simp; first | rfl | (rw [if_neg] <;> first | rfl | omega) | (rw [if_pos] <;> first | rfl | omega)))); (try simp only [Rg4.nrm])) | (refine Rg4.w4_skip (Rg4.uw rfl rfl rfl) ?_; (try simp only [Rg4.nrm])) | (refine Rg4.w4_skip (Rg4.un rfl rfl rfl) ?_; (try simp only [Rg4.nrm])))
    refine Rg4.w4_bar (Rg4.want_of 5 43 true rfl rfl rfl) rfl (fun w' hw' hcl _ K hK => ?_)
    subst hw'
    go_wp2_with fail
    refine (HT.out _).mono ?_
    rintro en w ⟨rfl, hx⟩
    replace st := st.ext hx
    clear hx
    (try simp only [nsl, Value.cells, unB] at st)
    (try clear hc); have hc := st.facts; (try simp only [nfl, nft, Nat.reduceAdd] at hc)
    refine hK _ _ ⟨st.blk (i := 1) get1, ?_⟩
    clear hK
    (try simp only [Rg4.nrm])
    (first | (refine Rg4.w4_any (Rg4.wt rfl rfl rfl) rfl ?_; apply Exists.intro; refine ⟨fun w' => ?_, ?_⟩; (focus (first | (go_simp; done) | (go_simp; first | rfl | (rw [if_neg] <;> first | rfl | omega) | (rw [if_pos] <;> first | rfl | omega)))); (try simp only [Rg4.nrm])) | (refine Rg4.w4_skip (Rg4.uw rfl rfl rfl) ?_; (try simp only [Rg4.nrm])) | (refine Rg4.w4_skip (Rg4.un rfl rfl rfl) ?_; (try simp only [Rg4.nrm])))
    iterate 2 (refine Rg4.w4_any (Rg4.want_none rfl) rfl ?_; apply Exists.intro; refine ⟨fun w' => ?_, ?_⟩; (focus (first | (go_simp; done) | (go_simp; first | rfl | (rw [if_neg] <;> first | rfl | omega) | (rw [if_pos] <;> first | rfl | omega)))); (try simp only [Rg4.nrm]))
    (first | (refine Rg4.w4_read (Rg4.wt rfl rfl rfl) rfl rfl ?_; apply Exists.intro; refine ⟨fun w' hw' hcl' => ?_, ?_⟩; focus (subst hw'; (try (have z4 := conv_bs (P := Tryz.prog) (src := 26) (dst := 9) (c := pc) Tryz.underlying26 Tryz.underlying5 Tryz.underlying9 (st.by (i := 5) get5); unfold S at z4)); (focus (first | (go_simp; done) | (go_simp; first | rfl | (rw [if_neg] <;> first | rfl | omega) | (rw [if_pos] <;> first | rfl | omega))))); (try simp only [Rg4.nrm])) | (refine Rg4.w4_skip (Rg4.uw rfl rfl rfl) ?_; (try simp only [Rg4.nrm])) | (refine Rg4.w4_skip (Rg4.un rfl rfl rfl) ?_; (try simp only [Rg4.nrm])))
    (first | (refine Rg4.w4_any (Rg4.wt rfl rfl rfl) rfl ?_; apply Exists.intro; refine ⟨fun w' => ?_, ?_⟩; (focus (first | (go_simp; done) | (go_simp; first | rfl | (rw [if_neg] <;> first | rfl | omega) | (rw [if_pos] <;> first | rfl | omega)))); (try simp only [Rg4.nrm])) | (refine Rg4.w4_skip (Rg4.uw rfl rfl rfl) ?_; (try simp only [Rg4.nrm])) | (refine Rg4.w4_skip (Rg4.un rfl rfl rfl) ?_; (try simp only [Rg4.nrm])))
    refine Rg4.w4_bar (Rg4.want_of 11 49 true rfl rfl rfl) rfl (fun w' hw' hcl _ K hK => ?_)
    subst hw'
    go_wp2_with fail
    refine (HB.out _).mono ?_
    rintro en w ⟨pa, pn, pc, rfl, hfr⟩
    have hqn : pn = ([] : List UInt8).length := (hfr.by).2.1
    subst hqn
    replace st := st.fresh hfr
    clear hfr
    replace st := st.freezeRow (i := 5) (xs := ([] : List UInt8)) get5
    (try simp only [List.length_nil] at st ⊢)
    (try simp only [nsl, Value.cells, unB] at st)
    (try clear hc); have hc := st.facts; (try simp only [nfl, nft, Nat.reduceAdd] at hc)
    refine hK _ _ ⟨st.blk (i := 1) get1, ?_⟩
    clear hK
    (try simp only [Rg4.nrm])
    (first | (refine Rg4.w4_read (Rg4.wt rfl rfl rfl) rfl rfl ?_; apply Exists.intro; refine ⟨fun w' hw' hcl' => ?_, ?_⟩; focus (subst hw'; (try (have z4 := conv_bs (P := Tryz.prog) (src := 26) (dst := 9) (c := pc) Tryz.underlying26 Tryz.underlying5 Tryz.underlying9 (st.by (i := 5) get5); unfold S at z4)); (focus (first | (go_simp; done) | (go_simp; first | rfl | (rw [if_neg] <;> first | rfl | omega) | (rw [if_pos] <;> first | rfl | omega))))); (try simp only [Rg4.nrm])) | (refine Rg4.w4_skip (Rg4.uw rfl rfl rfl) ?_; (try simp only [Rg4.nrm])) | (refine Rg4.w4_skip (Rg4.un rfl rfl rfl) ?_; (try simp only [Rg4.nrm])))
    (first | (refine Rg4.w4_any (Rg4.wt rfl rfl rfl) rfl ?_; apply Exists.intro; refine ⟨fun w' => ?_, ?_⟩; (focus (first | (go_simp; done) | (go_simp; first | rfl | (rw [if_neg] <;> first | rfl | omega) | (rw [if_pos] <;> first | rfl | omega)))); (try simp only [Rg4.nrm])) | (refine Rg4.w4_skip (Rg4.uw rfl rfl rfl) ?_; (try simp only [Rg4.nrm])) | (refine Rg4.w4_skip (Rg4.un rfl rfl rfl) ?_; (try simp only [Rg4.nrm])))
    iterate 2 (refine Rg4.w4_any (Rg4.want_none rfl) rfl ?_; apply Exists.intro; refine ⟨fun w' => ?_, ?_⟩; (focus (first | (go_simp; done) | (go_simp; first | rfl | (rw [if_neg] <;> first | rfl | omega) | (rw [if_pos] <;> first | rfl | omega)))); (try simp only [Rg4.nrm]))
    iterate 2 (first | (refine Rg4.w4_read (Rg4.wt rfl rfl rfl) rfl rfl ?_; apply Exists.intro; refine ⟨fun w' hw' hcl' => ?_, ?_⟩; focus (subst hw'; (try (have z4 := conv_bs (P := Tryz.prog) (src := 26) (dst := 9) (c := pc) Tryz.underlying26 Tryz.underlying5 Tryz.underlying9 (st.by (i := 5) get5); unfold S at z4)); (focus (first | (go_simp; done) | (go_simp; first | rfl | (rw [if_neg] <;> first | rfl | omega) | (rw [if_pos] <;> first | rfl | omega))))); (try simp only [Rg4.nrm])) | (refine Rg4.w4_skip (Rg4.uw rfl rfl rfl) ?_; (try simp only [Rg4.nrm])) | (refine Rg4.w4_skip (Rg4.un rfl rfl rfl) ?_; (try simp only [Rg4.nrm])))
    (first | (refine Rg4.w4_any (Rg4.wt rfl rfl rfl) rfl ?_; apply Exists.intro; refine ⟨fun w' => ?_, ?_⟩; (focus (first | (go_simp; done) | (go_simp; first | rfl | (rw [if_neg] <;> first | rfl | omega) | (rw [if_pos] <;> first | rfl | omega)))); (try simp only [Rg4.nrm])) | (refine Rg4.w4_skip (Rg4.uw rfl rfl rfl) ?_; (try simp only [Rg4.nrm])) | (refine Rg4.w4_skip (Rg4.un rfl rfl rfl) ?_; (try simp only [Rg4.nrm])))
    iterate 2 (refine Rg4.w4_any (Rg4.want_none rfl) rfl ?_; apply Exists.intro; refine ⟨fun w' => ?_, ?_⟩; (focus (first | (go_simp; done) | (go_simp; first | rfl | (rw [if_neg] <;> first | rfl | omega) | (rw [if_pos] <;> first | rfl | omega)))); (try simp only [Rg4.nrm]))
    iterate 3 (first | (refine Rg4.w4_any (Rg4.wt rfl rfl rfl) rfl ?_; apply Exists.intro; refine ⟨fun w' => ?_, ?_⟩; (focus (first | (go_simp; done) | (go_simp; first | rfl | (rw [if_neg] <;> first | rfl | omega) | (rw [if_pos] <;> first | rfl | omega)))); (try simp only [Rg4.nrm])) | (refine Rg4.w4_skip (Rg4.uw rfl rfl rfl) ?_; (try simp only [Rg4.nrm])) | (refine Rg4.w4_skip (Rg4.un rfl rfl rfl) ?_; (try simp only [Rg4.nrm])))
    iterate 2 (refine Rg4.w4_any (Rg4.want_none rfl) rfl ?_; apply Exists.intro; refine ⟨fun w' => ?_, ?_⟩; (focus (first | (go_simp; done) | (go_simp; first | rfl | (rw [if_neg] <;> first | rfl | omega) | (rw [if_pos] <;> first | rfl | omega)))); (try simp only [Rg4.nrm]))
    (first | (refine Rg4.w4_read (Rg4.wt rfl rfl rfl) rfl rfl ?_; apply Exists.intro; refine ⟨fun w' hw' hcl' => ?_, ?_⟩; focus (subst hw'; (try (have z4 := conv_bs (P := Tryz.prog) (src := 26) (dst := 9) (c := pc) Tryz.underlying26 Tryz.underlying5 Tryz.underlying9 (st.by (i := 5) get5); unfold S at z4)); (focus (first | (go_simp; done) | (go_simp; first | rfl | (rw [if_neg] <;> first | rfl | omega) | (rw [if_pos] <;> first | rfl | omega))))); (try simp only [Rg4.nrm])) | (refine Rg4.w4_skip (Rg4.uw rfl rfl rfl) ?_; (try simp only [Rg4.nrm])) | (refine Rg4.w4_skip (Rg4.un rfl rfl rfl) ?_; (try simp only [Rg4.nrm])))
    (first | (refine Rg4.w4_cl (Rg4.wt rfl rfl rfl) rfl ?_; apply Exists.intro; refine ⟨fun w' hcl => ?_, ?_⟩; (focus (have q0 := Blk.cell hcl 0; have q1 := Blk.cell hcl 1; have q2 := Blk.cell hcl 2; have q3 := Blk.cell hcl 3; have q4 := Blk.cell hcl 4; have q5 := Blk.cell hcl 5; have q6 := Blk.cell hcl 6; have q7 := Blk.cell hcl 7; have q8 := Blk.cell hcl 8; (try simp at q0 q1 q2 q3 q4 q5 q6 q7 q8); (focus (first | (go_simp; done) | (go_simp; first | rfl | (rw [if_neg] <;> first | rfl | omega) | (rw [if_pos] <;> first | rfl | omega)))))); (try simp only [Rg4.nrm])) | (refine Rg4.w4_skip (Rg4.uw rfl rfl rfl) ?_; (try simp only [Rg4.nrm])) | (refine Rg4.w4_skip (Rg4.un rfl rfl rfl) ?_; (try simp only [Rg4.nrm])))
    refine Rg4.w4_bar (Rg4.want_of 28 66 true rfl rfl rfl) rfl (fun w' hw' hcl _ K hK => ?_)
    subst hw'
    go_wp2_with fail
    refine (HRo.out _).mono ?_
    rintro en w ⟨ra, rc, rfl, hfr⟩
    replace st := st.fresh hfr
    clear hfr
    (try simp only [nsl, Value.cells, unB] at st)
    (try clear hc); have hc := st.facts; (try simp only [nfl, nft, Nat.reduceAdd] at hc)
    refine hK _ _ ⟨st.blk (i := 1) get1, ?_⟩
    clear hK
    (try simp only [Rg4.nrm])

    refine Rg4.w4_bar (Rg4.want_of 28 66 true rfl rfl rfl) rfl (fun w' hw' hcl _ K hK => ?_)
    subst hw'
    go_wp2_with fail
    refine (HRr.out _).mono ?_
    rintro en w ⟨sa, sc, rfl, hfr⟩
    replace st := st.fresh hfr
    clear hfr
    (try simp only [nsl, Value.cells, unB] at st)
    (try clear hc); have hc := st.facts; (try simp only [nfl, nft, Nat.reduceAdd] at hc)
    refine hK _ _ ⟨st.blk (i := 1) get1, ?_⟩
    clear hK
    (try simp only [Rg4.nrm])

    refine Rg4.w4_bar (Rg4.want_of 28 66 true rfl rfl rfl) rfl (fun w' hw' hcl _ K hK => ?_)
    subst hw'
    go_wp2_with fail
    have f1 := (st.rowFl3 (α := Role) (i := 6) get6).2
    have f2 := (st.rowFl3 (α := Role) (i := 7) get7).2
    refine (refRoleSame_any _ _ _ _ _ _ _ _ _ f1 f2 HRL.out HRL.out).mono ?_
    rintro en w ⟨rfl, hx⟩
    replace st := st.ext hx
    clear hx f1 f2
    rw [decide_eq_true rfl]
    (try simp only [nsl, Value.cells, unB] at st)
    (try clear hc); have hc := st.facts; (try simp only [nfl, nft, Nat.reduceAdd] at hc)
    refine hK _ _ ⟨st.blk (i := 1) get1, ?_⟩
    clear hK
    (try simp only [Rg4.nrm])
    iterate 2 (refine Rg4.w4_any (Rg4.want_none rfl) rfl ?_; apply Exists.intro; refine ⟨fun w' => ?_, ?_⟩; (focus (first | (go_simp; done) | (go_simp; first | rfl | (rw [if_neg] <;> first | rfl | omega) | (rw [if_pos] <;> first | rfl | omega)))); (try simp only [Rg4.nrm]))
    refine Rg4.w4_nil (fun w' hw' hcl' _ => ?_); subst hw'; clear hcl'
    go_wp2_with ((first
          | ((with_reducible refine wl_box ?_ (fun K hK => ?_)); rfl; refine owp_box (o := ⟨some 2, _, _, _, _, _⟩) rfl st ?_; apply Exists.intro; refine ⟨?_, ?_⟩; (focus (go_simp; try rfl)); (clear st; intro b2 w hb st; clear hb))
          | ((with_reducible refine wl_buildSlice ?_ (fun K hK => ?_)); rfl; refine owp_buildSlice (o := ⟨some 14, _, _, _, _, _⟩) rfl st ?_; apply Exists.intro; apply Exists.intro; apply Exists.intro; apply Exists.intro; refine ⟨?_, ?_⟩; (focus (go_simp; (first | done | exact ⟨⟨rfl, rfl⟩, rfl⟩ | rfl))); (clear st; intro b14 w hb st; clear hb))
          | ((with_reducible refine wl_alloc ?_ (fun K hK => ?_)); rfl; refine owp_alloc (o := ⟨some 7, _, _, _, _, _⟩) rfl st ?_; apply Exists.intro; apply Exists.intro; refine ⟨?_, ?_⟩; (focus (first | (go_simp; done) | (go_simp; rfl))); (clear st; intro b7 w hb st; clear hb))
          | ((with_reducible refine wl_store ?_ (fun K hK => ?_)); rfl; refine owp_store rfl st ?_; apply Exists.intro; apply Exists.intro; refine ⟨?_, ?_, ?_⟩; (focus (go_simp; try rfl)); (focus (go_simp; try rfl)); (first | (with_reducible refine ⟨0, _, _, _, _, get0, rfl, rfl, ?_, ?_, ?_, ?_⟩) | (with_reducible refine ⟨1, _, _, _, _, get1, rfl, rfl, ?_, ?_, ?_, ?_⟩) | (with_reducible refine ⟨2, _, _, _, _, get2, rfl, rfl, ?_, ?_, ?_, ?_⟩) | (with_reducible refine ⟨3, _, _, _, _, get3, rfl, rfl, ?_, ?_, ?_, ?_⟩) | (with_reducible refine ⟨4, _, _, _, _, get4, rfl, rfl, ?_, ?_, ?_, ?_⟩) | (with_reducible refine ⟨5, _, _, _, _, get5, rfl, rfl, ?_, ?_, ?_, ?_⟩) | (with_reducible refine ⟨6, _, _, _, _, get6, rfl, rfl, ?_, ?_, ?_, ?_⟩) | (with_reducible refine ⟨7, _, _, _, _, get7, rfl, rfl, ?_, ?_, ?_, ?_⟩)); (kernel_rfl); (simp [Value.cells]); (rfl); (clear st; intro w st))
          | ((with_reducible refine wl_alloc ?_ (fun K hK => ?_)); rfl; refine owp_alloc (o := ⟨some 9, _, _, _, _, _⟩) rfl st ?_; apply Exists.intro; apply Exists.intro; refine ⟨?_, ?_⟩; (focus (first | (go_simp; done) | (go_simp; rfl))); (clear st; intro b9 w hb st; clear hb))
          | ((with_reducible refine wl_convert ?_ (fun K hK => ?_)); rfl; (first | (refine owp_bs (o := ⟨some 52, _, _, _, _, _⟩) rfl st 0 get0 rfl Tryz.underlying26 Tryz.underlying5 Tryz.underlying9 ?_) | (refine owp_bs (o := ⟨some 52, _, _, _, _, _⟩) rfl st 1 get1 rfl Tryz.underlying26 Tryz.underlying5 Tryz.underlying9 ?_) | (refine owp_bs (o := ⟨some 52, _, _, _, _, _⟩) rfl st 2 get2 rfl Tryz.underlying26 Tryz.underlying5 Tryz.underlying9 ?_) | (refine owp_bs (o := ⟨some 52, _, _, _, _, _⟩) rfl st 3 get3 rfl Tryz.underlying26 Tryz.underlying5 Tryz.underlying9 ?_) | (refine owp_bs (o := ⟨some 52, _, _, _, _, _⟩) rfl st 4 get4 rfl Tryz.underlying26 Tryz.underlying5 Tryz.underlying9 ?_) | (refine owp_bs (o := ⟨some 52, _, _, _, _, _⟩) rfl st 5 get5 rfl Tryz.underlying26 Tryz.underlying5 Tryz.underlying9 ?_) | (refine owp_bs (o := ⟨some 52, _, _, _, _, _⟩) rfl st 6 get6 rfl Tryz.underlying26 Tryz.underlying5 Tryz.underlying9 ?_) | (refine owp_bs (o := ⟨some 52, _, _, _, _, _⟩) rfl st 7 get7 rfl Tryz.underlying26 Tryz.underlying5 Tryz.underlying9 ?_)))); (try simp only [nsl, Value.cells, unB] at st); (try clear hc); have hc := st.facts; (try simp only [nfl, nft, Nat.reduceAdd] at hc))
    go_ret
    exact ⟨rfl, st.ext0⟩
end Go.Proofs.YtekngjkjgmplpaaGreat

namespace Go.Proofs.YtekngjkjgmplpaaGreat
set_option linter.unusedSimpArgs false
set_option linter.unusedVariables false
open Go Go.RowKit Go.ChangeShapes Go.WideShapes Go.ChangeAt

section
variable {H : Type} {enc : TypeId × Value → H} {P : Program} {w : World} {base : Nat} {spare : Nat → Bool} {held : Bool}
end
end Go.Proofs.YtekngjkjgmplpaaGreat

namespace Go.Proofs.YtekngjkjgmplpaaGreat
set_option linter.unusedSimpArgs false
set_option linter.unusedVariables false
open Go Go.RowKit Go.ChangeShapes Go.WideShapes Go.ChangeAt
theorem upto_bound {H : Type} {l : List (DataW H)} (hk : Rows.uptoSmall H l = true) : Rows.uptoBulkAll l ≤ 1048576 := of_decide_eq_true hk
section
variable {H : Type} {enc : TypeId × Value → H} {P : Program} {w : World} {base : Nat} {held : Bool}
end
end Go.Proofs.YtekngjkjgmplpaaGreat

namespace Go.Proofs.YtekngjkjgmplpaaGreat
set_option linter.unusedSimpArgs false
set_option linter.unusedVariables false
open Go Go.RowKit Go.ChangeShapes Go.WideShapes Go.ChangeAt
section
variable {H : Type} {enc : TypeId × Value → H} {P : Program} {w : World} {base : Nat} {held : Bool}
/-- One of them. -/
theorem open_flt {α : Type} [Flt α] (bulk : α → Nat) (R : α → Prop) {r : Reach} {b0 : Nat} {t : TypeId} {fs : Array Field} {v : Value} {d : DataW H} {p : List MemPlace} (ht : P.underlying t = some (.struct fs))
    (hel : ∀ (fuel : Nat) (cs : List Value) (x : DataW H × List MemPlace), DataW.trod enc P w base (fun _ => true) held fuel t cs = some x → ∃ y : α, cs = Flt.cells y ∧ bulk y ≤ Rows.uptoBulk x.1 ∧ R y)
    (hv : Value.okWide P w r b0 t v) (h : DataW.Trod enc P w base (fun _ => true) held t v d p) : ∃ x : α, v = .agg (Flt.cells x).toArray ∧ bulk x ≤ Rows.uptoBulk d ∧ R x := by
  obtain ⟨cs, rfl, hsz⟩ := okWide_struct ht hv
  obtain ⟨fuel, hf⟩ := h
  obtain ⟨x, h1, h2, h3⟩ := hel _ _ _ hf
  refine ⟨x, ?_, h2, h3⟩
  have : cs.toList = Flt.cells x := by simpa [Value.cells] using h1
  congr 1
  apply Array.toList_inj.1
  rw [this]
theorem trod_fields {t : TypeId} {fs : Array Field} {fuel : Nat} {cs : List Value} {x : DataW H × List MemPlace} (ht : P.underlying t = some (.struct fs)) (h : DataW.trod enc P w base (fun _ => true) held fuel t cs = some x) :
    ∃ (xs : List (DataW H × List MemPlace)) (n : Nat), x.1 = .agg (xs.map (·.1)) ∧ cs.length = P.cellsOf t ∧ xs.length = fs.size ∧
      ∀ (i : Nat) (f : Field), fs[i]? = some f → ∃ y, xs[i]? = some y ∧ DataW.trod enc P w base (fun _ => true) held n f.type ((cs.drop f.offset).take (P.cellsOf f.type)) = some y := by
  obtain ⟨xs, n, _, rfl, hl, hlen, hf⟩ := DataW.trod_struct ht h
  refine ⟨xs, n, rfl, hl, hlen, fun i f hi => ?_⟩
  have := hf i f hi
  have hil : i < xs.length := by rw [hlen]; exact (Array.getElem?_eq_some_iff.1 hi).1
  refine ⟨xs[i], List.getElem?_eq_getElem hil, ?_⟩
  rw [this, List.getElem?_eq_getElem hil]
end
end Go.Proofs.YtekngjkjgmplpaaGreat

namespace Go.Proofs.YtekngjkjgmplpaaGreat
set_option linter.unusedSimpArgs false
set_option linter.unusedVariables false
open Go Go.RowKit Go.ChangeShapes Go.WideShapes Go.ChangeAt
section
variable {H : Type} {enc : TypeId × Value → H} {P : Program} {w : World} {base : Nat} {held : Bool}
theorem trod_role {t : TypeId} {f0 f1 : Field} {fuel : Nat} {cs : List Value} {x : DataW H × List MemPlace} (ht : P.underlying t = some (.struct #[f0, f1])) (ce : P.cellsOf t = 2) (o0 : f0.offset = 0) (o1 : f1.offset = 1) (c0 : P.cellsOf f0.type = 1) (c1 : P.cellsOf f1.type = 1)
    (t0 : P.underlying f0.type = some .string) (t1 : P.underlying f1.type = some .string) (h : DataW.trod enc P w base (fun _ => true) held fuel t cs = some x) : ∃ r : Role, cs = [S r.1, S r.2] ∧ Rows.uptoBulk x.1 = r.1.length + r.2.length + 3 := by
  obtain ⟨y0, y1, n, rfl, hl, h0, h1⟩ := trod_struct2 ht h
  rw [ce] at hl
  rw [o0, c0] at h0
  rw [o1, c1] at h1
  match cs, hl with
  | [u, v], _ =>
    simp at h0 h1
    obtain ⟨s0, q0, rfl, _⟩ := DataW.trod_string t0 h0
    obtain ⟨s1, q1, rfl, _⟩ := DataW.trod_string t1 h1
    simp at q0 q1
    subst q0 q1
    obtain ⟨⟨s0⟩⟩ := s0
    obtain ⟨⟨s1⟩⟩ := s1
    refine ⟨(s0, s1), rfl, ?_⟩
    simp [Rows.uptoBulk, Rows.uptoBulkAll]
    omega
end
end Go.Proofs.YtekngjkjgmplpaaGreat

namespace Go.Proofs.YtekngjkjgmplpaaGreat
set_option linter.unusedSimpArgs false
set_option linter.unusedVariables false
open Go Go.RowKit Go.ChangeShapes Go.WideShapes Go.ChangeAt
def bulkC (x : CredT) : Nat := 1 + x.h.1.length + x.h.2.length + x.w.length + x.b.1.length + x.b.2.length + x.c.1.length + x.c.2.length + x.e.length
theorem wtC_bulk (x : CredT) : wtC x ≤ 20 * bulkC x := by unfold wtC bulkC; omega
section
variable {H : Type} {enc : TypeId × Value → H} {P : Program} {w : World} {base : Nat} {held : Bool}
set_option maxRecDepth 100000 in
theorem trod_cred {fuel : Nat} {cs : List Value} {x : DataW H × List MemPlace} (h : DataW.trod enc Tryz.prog w base (fun _ => true) held fuel 47 cs = some x) : ∃ y : CredT, cs = Flt.cells y ∧ bulkC y ≤ Rows.uptoBulk x.1 ∧ True := by
  have hS := Tryz.underlying47
  obtain ⟨xs, n, hx, hl, hlen, hf⟩ := trod_fields hS h
  rw [show Tryz.prog.cellsOf 47 = 9 from by kernel_rfl] at hl
  obtain ⟨y0, e0, h0⟩ := hf 0 _ rfl
  obtain ⟨y1, e1, h1⟩ := hf 1 _ rfl
  obtain ⟨y2, e2, h2⟩ := hf 2 _ rfl
  obtain ⟨y3, e3, h3⟩ := hf 3 _ rfl
  obtain ⟨y4, e4, h4⟩ := hf 4 _ rfl
  obtain ⟨y5, e5, h5⟩ := hf 5 _ rfl
  change DataW.trod enc Tryz.prog w base (fun _ => true) held n 3 ((cs.drop 0).take (Tryz.prog.cellsOf 3)) = some y0 at h0
  change DataW.trod enc Tryz.prog w base (fun _ => true) held n 45 ((cs.drop 1).take (Tryz.prog.cellsOf 45)) = some y1 at h1
  change DataW.trod enc Tryz.prog w base (fun _ => true) held n 9 ((cs.drop 3).take (Tryz.prog.cellsOf 9)) = some y2 at h2
  change DataW.trod enc Tryz.prog w base (fun _ => true) held n 45 ((cs.drop 4).take (Tryz.prog.cellsOf 45)) = some y3 at h3
  change DataW.trod enc Tryz.prog w base (fun _ => true) held n 45 ((cs.drop 6).take (Tryz.prog.cellsOf 45)) = some y4 at h4
  change DataW.trod enc Tryz.prog w base (fun _ => true) held n 9 ((cs.drop 8).take (Tryz.prog.cellsOf 9)) = some y5 at h5
  have k1 : Tryz.prog.cellsOf 3 = 1 := by kernel_rfl
  have k2 : Tryz.prog.cellsOf 45 = 2 := by kernel_rfl
  have k3 : Tryz.prog.cellsOf 9 = 1 := by kernel_rfl
  rw [k1] at h0
  rw [k2] at h1 h3 h4
  rw [k3] at h2 h5
  have hl6 : xs.length = 6 := hlen
  match cs, hl, xs, hl6 with
  | [c0, c1, c2, c3, c4, c5, c6, c7, c8], _, [z0, z1, z2, z3, z4, z5], _ =>
    simp at e0 e1 e2 e3 e4 e5
    subst e0 e1 e2 e3 e4 e5
    simp only [List.drop_succ_cons, List.drop_zero, List.take_succ_cons, List.take_zero] at h0 h1 h2 h3 h4 h5
    obtain ⟨i0, q0, rfl, _⟩ := DataW.trod_int Tryz.underlying3 h0
    obtain ⟨r1, q1, b1⟩ := trod_role Tryz.underlying45 (by kernel_rfl) rfl rfl (by kernel_rfl) (by kernel_rfl) Tryz.underlying9 Tryz.underlying9 h1
    obtain ⟨s2, q2, rfl, _⟩ := DataW.trod_string Tryz.underlying9 h2
    obtain ⟨r3, q3, b3⟩ := trod_role Tryz.underlying45 (by kernel_rfl) rfl rfl (by kernel_rfl) (by kernel_rfl) Tryz.underlying9 Tryz.underlying9 h3
    obtain ⟨r4, q4, b4⟩ := trod_role Tryz.underlying45 (by kernel_rfl) rfl rfl (by kernel_rfl) (by kernel_rfl) Tryz.underlying9 Tryz.underlying9 h4
    obtain ⟨s5, q5, rfl, _⟩ := DataW.trod_string Tryz.underlying9 h5
    simp at q0 q1 q2 q3 q4 q5
    obtain ⟨⟨s2⟩⟩ := s2
    obtain ⟨⟨s5⟩⟩ := s5
    refine ⟨⟨i0, r1, s2, r3, r4, s5⟩, ?_, ?_, trivial⟩
    · rw [q0, q1.1, q1.2, q2, q3.1, q3.2, q4.1, q4.2, q5]; rfl
    · rw [hx]
      simp only [List.map_cons, List.map_nil, Rows.uptoBulk, Rows.uptoBulkAll, b1, b3, b4, bulkC]
      simp [Rows.uptoBulk]
      omega
  | [], hl, _, _ => simp at hl
end
end Go.Proofs.YtekngjkjgmplpaaGreat

namespace Go.Proofs.YtekngjkjgmplpaaGreat
set_option linter.unusedSimpArgs false
set_option linter.unusedVariables false
open Go Go.RowKit
theorem glob_of {w : World} (h : w.ShapedOpen Tryz.prog) : Glob w := by
  obtain ⟨m, hm⟩ := cell_of_shapedOpen_int (P := Tryz.prog) (g := 0) (t := 3) (zero := #[.int .i64 0]) h (of_decide_eq_true (by kernel_rfl)) (by kernel_rfl) rfl (by kernel_rfl) (by kernel_rfl) Tryz.underlying3
  exact ⟨m, hm⟩
section
variable {H : Type} {enc : TypeId × Value → H}
theorem returnsInHanded_of_cond_shaped {a : Assume} {C : Checked} {os : Os} {f : FuncId} {fn : Func} {s : OpenSpec} {k : (H : Type) → List (DataW H) → Bool} (hk : s.cond = some k) {F : Stop.Interp} {conds : List PathCond} {apart fresh handsOn again : Bool}
    (own : ownKnob C.prog.godebug = none) (started : os.Started) (noInit : C.prog.inits.idxOf? f = none) (hfn : C.prog.funcs[f]? = some fn)
    (witness : ∃ (w : World) (tape : Tape) (i : Input), w.os = os ∧ (w.forCall tape i).Shaped C.prog ∧ i.vars = [] ∧ Input.okWide C.prog (w.forCall tape i) .any w.heap.size f i ∧
      s.pre6 enc C.prog fn conds apart (w.forCall tape i).memory i.args ∧ a.holds C.prog (lone (Frame.enter C.prog f i.args .normal) [] (w.forCall tape i)))
    (contract : ∀ (W : World) (base : Nat) (args : Array Value) (ds gs : List (DataW H)) (before : List MemPlace),
      (∀ (j : Nat) t v, fn.params[j]? = some t → args[j]? = some v → Value.okWide C.prog W .any base t v) →
      DataW.Whole enc C.prog fn.params.toList s.vars apart W args.toList ds gs before →
      conds.all (PathCond.test C.prog ⟨fn.params.toList, ds, s.bare.plain.varTypes C.prog, gs⟩) = true → k H (ds ++ gs) = true → W.ShapedOpen C.prog →
      a.holds C.prog (lone (Frame.enter C.prog f args .normal) [] W) →
      Calls C.prog f args W fun e W' => ∃ v, e = .returned v ∧ (s.at F).post enc C.prog fn apart fresh handsOn again W args v W') :
    ReturnsInHanded a C os f .any (s.pre6 enc C.prog fn conds apart) ((s.at F).post enc C.prog fn apart fresh handsOn again) := by
  refine returnsInHanded_of_calls own started noInit witness ?_
  intro w tape i _ hsh _ hok hpre hholds
  obtain ⟨_, _, _, fn', hfn', _, _, _, _, hval⟩ := hok
  have e : fn' = fn := Option.some.inj (hfn'.symm.trans hfn)
  subst e
  obtain ⟨ds, gs, before, hw, hc, hkk⟩ := (OpenSpec.pre_some hk conds apart _ _).1 hpre.1
  have hw' := DataW.Whole.of_heap (w' := w.forCall tape i) (by rfl) hw
  refine (contract (w.forCall tape i) w.heap.size i.args ds gs before hval hw' hc hkk hsh hholds).mono fun e W' ⟨v, he, hp⟩ => ?_
  subst he
  exact ChangeSpec.post_blind hp
end
end Go.Proofs.YtekngjkjgmplpaaGreat
