/- Messages got, of every kind but turns; what first answers. -/
import Derived.Test.YtekngjkjgmplpaaReadM
import Derived.Test.YtekngjkjgmplpaaCredF
import Derived.Test.YtekngjkjgmplpaaCredA
import Derived.Test.YtekngjkjgmplpaaRefTape
import Derived.ProofKit
import Derived.OpenShut
import Derived.Test.YtekngjkjgmplpaaRows
import Derived.Deep.Strs
import Derived.Deep.Slices
import Derived.ChangeSame
import Derived.ChangeArms
namespace Go.Proofs.Ytekngjkjgmplpaa
set_option linter.unusedSimpArgs false
set_option linter.unusedVariables false
open Go Go.RowKit
/-- A message that shows and wants nothing. -/
def mg0 (k p e : Int) (nm : List UInt8) : MsgT := ⟨k, p, e, nm, none, 0, 0, [], none, 0, 0, []⟩
theorem mg0_ok (W : World) (k p e : Int) (nm : List UInt8) : MgOk W (mg0 k p e nm) := ⟨⟨⟨Nat.le_refl _, by simp [maxLen, mg0]⟩, Fl.nil _ _⟩, ⟨⟨Nat.le_refl _, by simp [maxLen, mg0]⟩, Fl.nil _ _⟩, by simp [mg0]⟩
theorem mg0_L {k p e : Int} {nm : List UInt8} (h : nm.length ≤ 100000) : MgL (mg0 k p e nm) := ⟨by simp [mg0], by simp [mg0], h, by simp [mg0], by simp [mg0]⟩
def okMg (m : MsgT) (ys : List UInt8) : Except Int (MsgT × List UInt8) := if mgR m = true then .ok (m, ys) else .error 11
/-- The next message, if it is no turn. -/
def rdMg0 (xs : List UInt8) : Except Int (MsgT × List UInt8) :=
  bdm (rdNumber 9223372036854775807 xs) fun k ys =>
    if k = 1 then bdm (rdName ys) fun nm zs => bdm (rdNumber 2 zs) fun p us => okMg (mg0 1 p 0 nm) us
    else if k = 5 then bdm (rdNumber 99 ys) fun e zs => okMg (mg0 5 0 e []) zs
    else okMg (mg0 k 0 0 []) ys
def NoTurn (xs : List UInt8) : Prop := ∀ ys, rdNumber 9223372036854775807 xs ≠ .ok (2, ys)
set_option maxRecDepth 100000 in
set_option maxHeartbeats 8000000 in
theorem msgGet0_c {fr al : Nat → Prop} {W : World} {r : Nat} {xs : List UInt8} (st : Own fr al W [rdI r xs] W) (hl : xs.length ≤ 100000) (hnt : NoTurn xs) :
    Calls Try.prog 155 #[.pointer (some ⟨r, 0, none⟩)] W (RdC fr al W r (rdMg0 xs) fun s v M => v = mgV s ∧ M = []) := by
  have HNT := Lib.hid hnt
  clear hnt
  go_enter Try.func155, Try.ntmps155
  go_wp2_with ((((with_reducible refine wl_alloc ?_ (fun K hK => ?_)); rfl; refine owp_alloc (o := ⟨some 2, _, _, _, _, _⟩) rfl st ?_; apply Exists.intro; apply Exists.intro; refine ⟨?_, ?_⟩; (focus (first | (go_simp; done) | (go_simp; rfl))); (clear st; intro b2 w hb st; clear hb))); (try simp only [nsl, Value.cells, unB] at st); (try clear hc); have hc := st.facts; (try simp only [nfl, nft, Nat.reduceAdd] at hc))
  obtain ⟨fr', al', st', back⟩ := st.sub [0] (by decide) (by simp)
  (try simp only [nsl, Value.cells, unB] at st')
  refine (number_c st' 9223372036854775807).mono ?_
  clear st'
  intro en w hen
  unfold RdC at hen
  cases hr : rdNumber 9223372036854775807 xs with
  | error e =>
    rw [hr] at hen
    obtain ⟨rfl, st'⟩ := hen
    replace st := back _ _ (by simp) st'
    clear back st'
    (try simp only [nsl, Value.cells, unB] at st)
    (try clear hc); have hc := st.facts; (try simp only [nfl, nft, Nat.reduceAdd] at hc)
    have H1 : Hid (rdMg0 xs = .error e) := Lib.hid (by simp [rdMg0,  hr, bdm])
    clear hr
    go_wp2_with fail
    refine ⟨rfl, ?_⟩
    unfold RdC
    rw [H1.out]
    have st' := st.keep [0] (by decide) (by simp)
    exact ⟨rfl, by simpa [pick] using st'⟩
  | ok p =>
    obtain ⟨k, ys⟩ := p
    have hk2 : k ≠ 2 := fun q => HNT.out ys (by rw [hr, q])
    have hl1 := rdNumber_leM hr
    rw [hr] at hen
    obtain ⟨v, M, rfl, ⟨rfl, rfl⟩, st'⟩ := hen
    replace st := back _ _ (by simp) st'
    clear back st'
    (try simp only [nsl, Value.cells, unB] at st)
    (try clear hc); have hc := st.facts; (try simp only [nfl, nft, Nat.reduceAdd] at hc)
    have HR1 := Lib.hid hr
    clear hr
    by_cases k1 : k = 1
    · subst k1
      clear hk2
      go_wp2_with ((first
            | ((with_reducible refine wl_alloc ?_ (fun K hK => ?_)); rfl; refine owp_alloc (o := ⟨some 3, _, _, _, _, _⟩) rfl st ?_; apply Exists.intro; apply Exists.intro; refine ⟨?_, ?_⟩; (focus (first | (go_simp; done) | (go_simp; rfl))); (clear st; intro b3 w hb st; clear hb))
            | ((with_reducible refine wl_store ?_ (fun K hK => ?_)); rfl; refine owp_store rfl st ?_; apply Exists.intro; apply Exists.intro; refine ⟨?_, ?_, ?_⟩; (focus (go_simp; try rfl)); (focus (go_simp; try rfl)); (with_reducible refine ⟨2, _, _, _, _, get2, rfl, rfl, ?_, ?_, ?_, ?_⟩); (kernel_rfl); (simp [Value.cells]); (rfl); (clear st; intro w st))); (try simp only [nsl, Value.cells, unB] at st); (try clear hc); have hc := st.facts; (try simp only [nfl, nft, Nat.reduceAdd] at hc))
      obtain ⟨fr', al', st', back⟩ := st.sub [0] (by decide) (by simp)
      (try simp only [nsl, Value.cells, unB] at st')
      refine (nameGet_c st' (by omega)).mono ?_
      clear st'
      intro en w hen
      unfold RdC at hen
      cases hr : rdName ys with
      | error e =>
        rw [hr] at hen
        obtain ⟨rfl, st'⟩ := hen
        replace st := back _ _ (by simp) st'
        clear back st'
        (try simp only [nsl, Value.cells, unB] at st)
        (try clear hc); have hc := st.facts; (try simp only [nfl, nft, Nat.reduceAdd] at hc)
        have H1 : Hid (rdMg0 xs = .error e) := Lib.hid (by simp [rdMg0, HR1.out, hr, bdm])
        clear hr
        go_wp2_with fail
        refine ⟨rfl, ?_⟩
        unfold RdC
        rw [H1.out]
        have st' := st.keep [0] (by decide) (by simp)
        exact ⟨rfl, by simpa [pick] using st'⟩
      | ok p =>
        obtain ⟨nm, zs⟩ := p
        have hl2 := rdName_le hr
        have hl2b := (nameR_len hl2.2).2
        rw [hr] at hen
        obtain ⟨v, M, rfl, ⟨rfl, rfl⟩, st'⟩ := hen
        replace st := back _ _ (by simp) st'
        clear back st'
        (try simp only [nsl, Value.cells, unB] at st)
        (try clear hc); have hc := st.facts; (try simp only [nfl, nft, Nat.reduceAdd] at hc)
        have HR2 := Lib.hid hr
        clear hr
        unfold S
        go_wp2_with ((((with_reducible refine wl_store ?_ (fun K hK => ?_)); rfl; refine owp_store rfl st ?_; apply Exists.intro; apply Exists.intro; refine ⟨?_, ?_, ?_⟩; (focus (go_simp; try rfl)); (focus (go_simp; try rfl)); (with_reducible refine ⟨2, _, _, _, _, get2, rfl, rfl, ?_, ?_, ?_, ?_⟩); (kernel_rfl); (simp [Value.cells]); (rfl); (clear st; intro w st))); (try simp only [nsl, Value.cells, unB] at st); (try clear hc); have hc := st.facts; (try simp only [nfl, nft, Nat.reduceAdd] at hc))
        obtain ⟨fr', al', st', back⟩ := st.sub [0] (by decide) (by simp)
        (try simp only [nsl, Value.cells, unB] at st')
        refine (number_c st' 2).mono ?_
        clear st'
        intro en w hen
        unfold RdC at hen
        cases hr : rdNumber 2 zs with
        | error e =>
          rw [hr] at hen
          obtain ⟨rfl, st'⟩ := hen
          replace st := back _ _ (by simp) st'
          clear back st'
          (try simp only [nsl, Value.cells, unB] at st)
          (try clear hc); have hc := st.facts; (try simp only [nfl, nft, Nat.reduceAdd] at hc)
          have H1 : Hid (rdMg0 xs = .error e) := Lib.hid (by simp [rdMg0, HR1.out, HR2.out, hr, bdm])
          clear hr
          go_wp2_with fail
          refine ⟨rfl, ?_⟩
          unfold RdC
          rw [H1.out]
          have st' := st.keep [0] (by decide) (by simp)
          exact ⟨rfl, by simpa [pick] using st'⟩
        | ok p =>
          obtain ⟨pl, us⟩ := p
          rw [hr] at hen
          obtain ⟨v, M, rfl, ⟨rfl, rfl⟩, st'⟩ := hen
          replace st := back _ _ (by simp) st'
          clear back st'
          (try simp only [nsl, Value.cells, unB] at st)
          (try clear hc); have hc := st.facts; (try simp only [nfl, nft, Nat.reduceAdd] at hc)
          have HR3 := Lib.hid hr
          clear hr
          have HQ := Lib.hid (fun W => msgRight_any (mg0 1 pl 0 nm) W (mg0_ok W _ _ _ _) (mg0_L (by first | omega | simp)))
          unfold mgV mg0 S at HQ
          simp only at HQ
          go_wp2_with ((((with_reducible refine wl_store ?_ (fun K hK => ?_)); rfl; refine owp_store rfl st ?_; apply Exists.intro; apply Exists.intro; refine ⟨?_, ?_, ?_⟩; (focus (go_simp; try rfl)); (focus (go_simp; try rfl)); (with_reducible refine ⟨2, _, _, _, _, get2, rfl, rfl, ?_, ?_, ?_, ?_⟩); (kernel_rfl); (simp [Value.cells]); (rfl); (clear st; intro w st))); (try simp only [nsl, Value.cells, unB] at st); (try clear hc); have hc := st.facts; (try simp only [nfl, nft, Nat.reduceAdd] at hc))
          refine (HQ.out _).mono ?_
          rintro en w ⟨rfl, hx⟩
          replace st := st.ext hx
          clear hx
          cases hmr : mgR (mg0 1 pl 0 nm) with
          | true =>
            have H1 : Hid (rdMg0 xs = .ok ((mg0 1 pl 0 nm), us)) := Lib.hid (by simp [rdMg0, HR1.out, HR2.out, HR3.out, bdm, okMg, hmr])
            have hmr2 := hmr
            unfold mg0 at hmr2
            rw [hmr2]
            clear hmr hmr2 HQ
            (try simp only [nsl, Value.cells, unB] at st)
            (try clear hc); have hc := st.facts; (try simp only [nfl, nft, Nat.reduceAdd] at hc)
            go_wp2_with ((((with_reducible refine wl_store ?_ (fun K hK => ?_)); rfl; refine owp_store rfl st ?_; apply Exists.intro; apply Exists.intro; refine ⟨?_, ?_, ?_⟩; (focus (go_simp; try rfl)); (focus (go_simp; try rfl)); (with_reducible refine ⟨1, _, _, _, _, get1, rfl, rfl, ?_, ?_, ?_, ?_⟩); (kernel_rfl); (simp [Value.cells]); (rfl); (clear st; intro w st))); (try simp only [nsl, Value.cells, unB] at st); (try clear hc); have hc := st.facts; (try simp only [nfl, nft, Nat.reduceAdd] at hc))
            (try simp only [Exit.inBlock, Exit.then])
            refine bodyPost_cell rfl rfl (st.blk (i := 1) get1) Try.underlying111 rfl (by kernel_rfl) rfl ?_
            unfold RdC
            rw [H1.out]
            have st' := st.keep [0] (by decide) (by simp)
            exact ⟨_, [], rfl, ⟨rfl, rfl⟩, by simpa [pick] using st'⟩
          | false =>
            have H1 : Hid (rdMg0 xs = .error 11) := Lib.hid (by simp [rdMg0, HR1.out, HR2.out, HR3.out, bdm, okMg, hmr])
            have hmr2 := hmr
            unfold mg0 at hmr2
            rw [hmr2]
            clear hmr hmr2 HQ
            (try simp only [nsl, Value.cells, unB] at st)
            (try clear hc); have hc := st.facts; (try simp only [nfl, nft, Nat.reduceAdd] at hc)
            obtain ⟨_, sq, ⟨_, hrd⟩, _⟩ := st.get (i := 0) (I := rdI r us) get0
            have HRD := Lib.hid hrd.any
            clear hrd
            go_wp2_with fail
            refine (fail_any _ r 11 HRD.out (by decide)).mono ?_
            rintro en w' ⟨rfl, rfl⟩
            go_wp2_with fail
            refine ⟨rfl, ?_⟩
            unfold RdC
            rw [H1.out]
            have st' := (st.rdAny (i := 0) get0).keep [0] (by decide) (by simp)
            exact ⟨rfl, by simpa [pick] using st'⟩
    · have k1b : ((k : Int) == 1) = false := by simpa using (by omega : (k : Int) ≠ 1)
      have k2b : ((k : Int) == 2) = false := by simpa using (by omega : (k : Int) ≠ 2)
      by_cases k5 : k = 5
      · subst k5
        clear hk2 k1
        go_wp2_with ((first
              | ((with_reducible refine wl_alloc ?_ (fun K hK => ?_)); rfl; refine owp_alloc (o := ⟨some 3, _, _, _, _, _⟩) rfl st ?_; apply Exists.intro; apply Exists.intro; refine ⟨?_, ?_⟩; (focus (first | (go_simp; done) | (go_simp; rfl))); (clear st; intro b3 w hb st; clear hb))
              | ((with_reducible refine wl_store ?_ (fun K hK => ?_)); rfl; refine owp_store rfl st ?_; apply Exists.intro; apply Exists.intro; refine ⟨?_, ?_, ?_⟩; (focus (go_simp; try rfl)); (focus (go_simp; try rfl)); (with_reducible refine ⟨2, _, _, _, _, get2, rfl, rfl, ?_, ?_, ?_, ?_⟩); (kernel_rfl); (simp [Value.cells]); (rfl); (clear st; intro w st))); (try simp only [nsl, Value.cells, unB] at st); (try clear hc); have hc := st.facts; (try simp only [nfl, nft, Nat.reduceAdd] at hc))
        obtain ⟨fr', al', st', back⟩ := st.sub [0] (by decide) (by simp)
        (try simp only [nsl, Value.cells, unB] at st')
        refine (number_c st' 99).mono ?_
        clear st'
        intro en w hen
        unfold RdC at hen
        cases hr : rdNumber 99 ys with
        | error e =>
          rw [hr] at hen
          obtain ⟨rfl, st'⟩ := hen
          replace st := back _ _ (by simp) st'
          clear back st'
          (try simp only [nsl, Value.cells, unB] at st)
          (try clear hc); have hc := st.facts; (try simp only [nfl, nft, Nat.reduceAdd] at hc)
          have H1 : Hid (rdMg0 xs = .error e) := Lib.hid (by simp [rdMg0, HR1.out, hr, bdm])
          clear hr
          go_wp2_with fail
          refine ⟨rfl, ?_⟩
          unfold RdC
          rw [H1.out]
          have st' := st.keep [0] (by decide) (by simp)
          exact ⟨rfl, by simpa [pick] using st'⟩
        | ok p =>
          obtain ⟨en, us⟩ := p
          rw [hr] at hen
          obtain ⟨v, M, rfl, ⟨rfl, rfl⟩, st'⟩ := hen
          replace st := back _ _ (by simp) st'
          clear back st'
          (try simp only [nsl, Value.cells, unB] at st)
          (try clear hc); have hc := st.facts; (try simp only [nfl, nft, Nat.reduceAdd] at hc)
          have HR3 := Lib.hid hr
          clear hr
          have HQ := Lib.hid (fun W => msgRight_any (mg0 5 0 en []) W (mg0_ok W _ _ _ _) (mg0_L (by first | omega | simp)))
          unfold mgV mg0 S at HQ
          simp only at HQ
          go_wp2_with ((((with_reducible refine wl_store ?_ (fun K hK => ?_)); rfl; refine owp_store rfl st ?_; apply Exists.intro; apply Exists.intro; refine ⟨?_, ?_, ?_⟩; (focus (go_simp; try rfl)); (focus (go_simp; try rfl)); (with_reducible refine ⟨2, _, _, _, _, get2, rfl, rfl, ?_, ?_, ?_, ?_⟩); (kernel_rfl); (simp [Value.cells]); (rfl); (clear st; intro w st))); (try simp only [nsl, Value.cells, unB] at st); (try clear hc); have hc := st.facts; (try simp only [nfl, nft, Nat.reduceAdd] at hc))
          refine (HQ.out _).mono ?_
          rintro en w ⟨rfl, hx⟩
          replace st := st.ext hx
          clear hx
          cases hmr : mgR (mg0 5 0 en []) with
          | true =>
            have H1 : Hid (rdMg0 xs = .ok ((mg0 5 0 en []), us)) := Lib.hid (by simp [rdMg0, HR1.out, HR3.out, bdm, okMg, hmr])
            have hmr2 := hmr
            unfold mg0 at hmr2
            rw [hmr2]
            clear hmr hmr2 HQ
            (try simp only [nsl, Value.cells, unB] at st)
            (try clear hc); have hc := st.facts; (try simp only [nfl, nft, Nat.reduceAdd] at hc)
            go_wp2_with ((((with_reducible refine wl_store ?_ (fun K hK => ?_)); rfl; refine owp_store rfl st ?_; apply Exists.intro; apply Exists.intro; refine ⟨?_, ?_, ?_⟩; (focus (go_simp; try rfl)); (focus (go_simp; try rfl)); (with_reducible refine ⟨1, _, _, _, _, get1, rfl, rfl, ?_, ?_, ?_, ?_⟩); (kernel_rfl); (simp [Value.cells]); (rfl); (clear st; intro w st))); (try simp only [nsl, Value.cells, unB] at st); (try clear hc); have hc := st.facts; (try simp only [nfl, nft, Nat.reduceAdd] at hc))
            (try simp only [Exit.inBlock, Exit.then])
            refine bodyPost_cell rfl rfl (st.blk (i := 1) get1) Try.underlying111 rfl (by kernel_rfl) rfl ?_
            unfold RdC
            rw [H1.out]
            have st' := st.keep [0] (by decide) (by simp)
            exact ⟨_, [], rfl, ⟨rfl, rfl⟩, by simpa [pick] using st'⟩
          | false =>
            have H1 : Hid (rdMg0 xs = .error 11) := Lib.hid (by simp [rdMg0, HR1.out, HR3.out, bdm, okMg, hmr])
            have hmr2 := hmr
            unfold mg0 at hmr2
            rw [hmr2]
            clear hmr hmr2 HQ
            (try simp only [nsl, Value.cells, unB] at st)
            (try clear hc); have hc := st.facts; (try simp only [nfl, nft, Nat.reduceAdd] at hc)
            obtain ⟨_, sq, ⟨_, hrd⟩, _⟩ := st.get (i := 0) (I := rdI r us) get0
            have HRD := Lib.hid hrd.any
            clear hrd
            go_wp2_with fail
            refine (fail_any _ r 11 HRD.out (by decide)).mono ?_
            rintro en w' ⟨rfl, rfl⟩
            go_wp2_with fail
            refine ⟨rfl, ?_⟩
            unfold RdC
            rw [H1.out]
            have st' := (st.rdAny (i := 0) get0).keep [0] (by decide) (by simp)
            exact ⟨rfl, by simpa [pick] using st'⟩
      · have k5b : ((k : Int) == 5) = false := by simpa using (by omega : (k : Int) ≠ 5)
        have HK := Lib.hid (And.intro k1 k5)
        clear hk2 k1 k5
        have HQ := Lib.hid (fun W => msgRight_any (mg0 k 0 0 []) W (mg0_ok W _ _ _ _) (mg0_L (by first | omega | simp)))
        unfold mgV mg0 S at HQ
        simp only at HQ
        go_wp2_with ((first
              | ((with_reducible refine wl_alloc ?_ (fun K hK => ?_)); rfl; refine owp_alloc (o := ⟨some 3, _, _, _, _, _⟩) rfl st ?_; apply Exists.intro; apply Exists.intro; refine ⟨?_, ?_⟩; (focus (first | (go_simp; done) | (go_simp; rfl))); (clear st; intro b3 w hb st; clear hb))
              | ((with_reducible refine wl_store ?_ (fun K hK => ?_)); rfl; refine owp_store rfl st ?_; apply Exists.intro; apply Exists.intro; refine ⟨?_, ?_, ?_⟩; (focus (go_simp; try rfl)); (focus (go_simp; try rfl)); (with_reducible refine ⟨2, _, _, _, _, get2, rfl, rfl, ?_, ?_, ?_, ?_⟩); (kernel_rfl); (simp [Value.cells]); (rfl); (clear st; intro w st))); (try simp only [nsl, Value.cells, unB] at st); (try clear hc); have hc := st.facts; (try simp only [nfl, nft, Nat.reduceAdd] at hc))
        refine (HQ.out _).mono ?_
        rintro en w ⟨rfl, hx⟩
        replace st := st.ext hx
        clear hx
        cases hmr : mgR (mg0 k 0 0 []) with
        | true =>
          have H1 : Hid (rdMg0 xs = .ok ((mg0 k 0 0 []), ys)) := Lib.hid (by simp [rdMg0, HR1.out, HK.out.1, HK.out.2, bdm, okMg, hmr])
          have hmr2 := hmr
          unfold mg0 at hmr2
          rw [hmr2]
          clear hmr hmr2 HQ
          (try simp only [nsl, Value.cells, unB] at st)
          (try clear hc); have hc := st.facts; (try simp only [nfl, nft, Nat.reduceAdd] at hc)
          go_wp2_with ((((with_reducible refine wl_store ?_ (fun K hK => ?_)); rfl; refine owp_store rfl st ?_; apply Exists.intro; apply Exists.intro; refine ⟨?_, ?_, ?_⟩; (focus (go_simp; try rfl)); (focus (go_simp; try rfl)); (with_reducible refine ⟨1, _, _, _, _, get1, rfl, rfl, ?_, ?_, ?_, ?_⟩); (kernel_rfl); (simp [Value.cells]); (rfl); (clear st; intro w st))); (try simp only [nsl, Value.cells, unB] at st); (try clear hc); have hc := st.facts; (try simp only [nfl, nft, Nat.reduceAdd] at hc))
          (try simp only [Exit.inBlock, Exit.then])
          refine bodyPost_cell rfl rfl (st.blk (i := 1) get1) Try.underlying111 rfl (by kernel_rfl) rfl ?_
          unfold RdC
          rw [H1.out]
          have st' := st.keep [0] (by decide) (by simp)
          exact ⟨_, [], rfl, ⟨rfl, rfl⟩, by simpa [pick] using st'⟩
        | false =>
          have H1 : Hid (rdMg0 xs = .error 11) := Lib.hid (by simp [rdMg0, HR1.out, HK.out.1, HK.out.2, bdm, okMg, hmr])
          have hmr2 := hmr
          unfold mg0 at hmr2
          rw [hmr2]
          clear hmr hmr2 HQ
          (try simp only [nsl, Value.cells, unB] at st)
          (try clear hc); have hc := st.facts; (try simp only [nfl, nft, Nat.reduceAdd] at hc)
          obtain ⟨_, sq, ⟨_, hrd⟩, _⟩ := st.get (i := 0) (I := rdI r ys) get0
          have HRD := Lib.hid hrd.any
          clear hrd
          go_wp2_with fail
          refine (fail_any _ r 11 HRD.out (by decide)).mono ?_
          rintro en w' ⟨rfl, rfl⟩
          go_wp2_with fail
          refine ⟨rfl, ?_⟩
          unfold RdC
          rw [H1.out]
          have st' := (st.rdAny (i := 0) get0).keep [0] (by decide) (by simp)
          exact ⟨rfl, by simpa [pick] using st'⟩
set_option maxRecDepth 100000 in
set_option maxHeartbeats 1000000 in
theorem msgRead1_c {fr al : Nat → Prop} {W : World} {r b : Nat} {xs : List UInt8} (st : Own fr al W [rdI r xs, blkI b (mgC (mg0 0 0 0 []))] W) (hl : xs.length ≤ 100000) (hnt : NoTurn xs) :
    Calls Try.prog 154 #[.pointer (some ⟨r, 0, none⟩), .pointer (some ⟨b, 0, none⟩)] W (GetPost fr al W r b (rdMg0 xs) (mgC (mg0 0 0 0 [])) mgC) := by
  have HNT := Lib.hid hnt
  clear hnt
  go_enter Try.func154, Try.ntmps154
  go_wp2_with fail
  obtain ⟨fr', al', st', back⟩ := st.sub [0] (by decide) (by simp)
  (try simp only [nsl, Value.cells, unB] at st')
  refine (msgGet0_c st' hl HNT.out).mono ?_
  clear st'
  intro en w hen
  unfold RdC at hen
  cases hr : rdMg0 xs with
  | error e =>
    rw [hr] at hen
    obtain ⟨rfl, st'⟩ := hen
    replace st := back _ _ (by simp) st'
    clear back st'
    (try simp only [nsl, Value.cells, unB] at st)
    (try clear hc); have hc := st.facts; (try simp only [nfl, nft, Nat.reduceAdd] at hc)
    have HR := Lib.hid hr
    clear hr
    go_wp2_with fail
    refine ⟨rfl, ?_⟩
    unfold GetPost
    (try rw [HR.out])
    exact ⟨rfl, st⟩
  | ok p =>
    obtain ⟨x, ys⟩ := p
    rw [hr] at hen
    obtain ⟨v, M, rfl, ⟨rfl, rfl⟩, st'⟩ := hen
    replace st := back _ _ (by simp) st'
    clear back st'
    (try simp only [nsl, Value.cells, unB] at st)
    (try clear hc); have hc := st.facts; (try simp only [nfl, nft, Nat.reduceAdd] at hc)
    have HR := Lib.hid hr
    clear hr
    unfold mgC at st
    unfold mgV S
    (try simp only [nsl, Value.cells, unB] at st)
    (try clear hc); have hc := st.facts; (try simp only [nfl, nft, Nat.reduceAdd] at hc)
    go_wp2_with ((((with_reducible refine wl_store ?_ (fun K hK => ?_)); rfl; refine owp_store rfl st ?_; apply Exists.intro; apply Exists.intro; refine ⟨?_, ?_, ?_⟩; (focus (go_simp; try rfl)); (focus (go_simp; try rfl)); (with_reducible refine ⟨1, _, _, _, _, get1, rfl, rfl, ?_, ?_, ?_, ?_⟩); (kernel_rfl); (simp [Value.cells]); (rfl); (clear st; intro w st))); (try simp only [nsl, Value.cells, unB] at st); (try clear hc); have hc := st.facts; (try simp only [nfl, nft, Nat.reduceAdd] at hc))
    go_end0
    unfold GetPost
    (try rw [HR.out])
    exact ⟨rfl, by simpa [S, mgC] using st⟩
/-- What a message is read as. -/
def readV (res : Except Int (MsgT × List UInt8)) : Value := match res with
  | .ok (m, []) => .tuple #[mgV m, .int .i64 0]
  | .ok (_, _ :: _) => .tuple #[mgV (mg0 0 0 0 []), .int .i64 13]
  | .error e => .tuple #[mgV (mg0 0 0 0 []), .int .i64 e]
set_option maxRecDepth 100000 in
set_option maxHeartbeats 2000000 in
theorem msgRead0_any (a : Option Addr) (n c : Nat) (xs : List UInt8) (W : World) (h : By W a n xs) (hc : n ≤ c ∧ c ≤ maxLen) (hl : xs.length ≤ 100000) (hnt : NoTurn xs) (her : ∀ e, rdMg0 xs = .error e → e ≠ 0) :
    Calls Try.prog 78 #[.slice a n c] W fun e w' => e = .returned (readV (rdMg0 xs)) ∧ Ext W w' := by
  have HC := Lib.hid hc
  have HNT := Lib.hid hnt
  have HER := Lib.hid her
  have HN : Hid (n = xs.length) := Lib.hid h.1
  have st := (Own.startOld W).addOldBy (i := 0) rfl h
  clear h hc hnt her
  (try simp only [nsl, Value.cells, unB] at st)
  (try clear hc); have hc := st.facts; (try simp only [nfl, nft, Nat.reduceAdd] at hc)
  go_enter Try.func78, Try.ntmps78
  go_wp2_with ((first
        | ((with_reducible refine wl_alloc ?_ (fun K hK => ?_)); rfl; refine owp_alloc (o := ⟨some 2, _, _, _, _, _⟩) rfl st ?_; apply Exists.intro; apply Exists.intro; refine ⟨?_, ?_⟩; (focus (first | (go_simp; done) | (go_simp; rfl))); (clear st; intro b2 w hb st; clear hb))
        | ((with_reducible refine wl_alloc ?_ (fun K hK => ?_)); rfl; refine owp_alloc (o := ⟨some 4, _, _, _, _, _⟩) rfl st ?_; apply Exists.intro; apply Exists.intro; refine ⟨?_, ?_⟩; (focus (first | (go_simp; done) | (go_simp; rfl))); (clear st; intro b4 w hb st; clear hb))); (try simp only [nsl, Value.cells, unB] at st); (try clear hc); have hc := st.facts; (try simp only [nfl, nft, Nat.reduceAdd] at hc))
  refine (readGet_c (i := 3) (b := b4) (z := mgC (mg0 0 0 0 [])) st get3 (st.by (i := 1) get1) HC.out (by have := HN.out; omega) 154 (fun _ _ => by kernel_rfl) (rdMg0 xs) mgC (fun fr al w r st => msgRead1_c st hl HNT.out)).mono ?_
  rintro en w ⟨r1, rfl, st'⟩
  clear st
  have st := st'.keep [3, 4] (by decide) (by simp)
  clear st'
  simp only [pick, List.map_cons, List.map_nil, List.set, List.getElem?_cons_zero, List.getElem?_cons_succ, Option.getD_some] at st
  cases hr : rdMg0 xs with
  | error e =>
    have he := HER.out e hr
    have heb : (e != 0) = true := by simpa using he
    rw [hr] at st
    have HV : Hid (readV (rdMg0 xs) = .tuple #[mgV (mg0 0 0 0 []), .int .i64 e]) := Lib.hid (by rw [hr]; rfl)
    simp only [gotE, gotZ, mgC, mg0, S] at st ⊢
    clear hr he
    (try simp only [nsl, Value.cells, unB] at st)
    (try clear hc); have hc := st.facts; (try simp only [nfl, nft, Nat.reduceAdd] at hc)
    go_wp2_with ((((with_reducible refine wl_store ?_ (fun K hK => ?_)); rfl; refine owp_store rfl st ?_; apply Exists.intro; apply Exists.intro; refine ⟨?_, ?_, ?_⟩; (focus (go_simp; try rfl)); (focus (go_simp; try rfl)); (with_reducible refine ⟨0, _, _, _, _, get0, rfl, rfl, ?_, ?_, ?_, ?_⟩); (kernel_rfl); (simp [Value.cells]); (rfl); (clear st; intro w st))); (try simp only [nsl, Value.cells, unB] at st); (try clear hc); have hc := st.facts; (try simp only [nfl, nft, Nat.reduceAdd] at hc))
    (try simp only [Exit.inBlock, Exit.then])
    refine bodyPost_cell2 rfl rfl (st.blk (i := 0) get0) Try.underlying111 rfl (by kernel_rfl) rfl ?_
    exact ⟨by rw [HV.out]; rfl, st.ext0⟩
  | ok p =>
    obtain ⟨m, ys⟩ := p
    rw [hr] at st
    simp only [gotE, gotZ, mgC, S] at st ⊢
    cases ys with
    | nil =>
      have HV : Hid (readV (rdMg0 xs) = .tuple #[mgV m, .int .i64 0]) := Lib.hid (by rw [hr]; rfl)
      clear hr
      simp only [if_true]
      (try simp only [nsl, Value.cells, unB] at st)
      (try clear hc); have hc := st.facts; (try simp only [nfl, nft, Nat.reduceAdd] at hc)
      go_wp2_with ((((with_reducible refine wl_store ?_ (fun K hK => ?_)); rfl; refine owp_store rfl st ?_; apply Exists.intro; apply Exists.intro; refine ⟨?_, ?_, ?_⟩; (focus (go_simp; try rfl)); (focus (go_simp; try rfl)); (with_reducible refine ⟨0, _, _, _, _, get0, rfl, rfl, ?_, ?_, ?_, ?_⟩); (kernel_rfl); (simp [Value.cells]); (rfl); (clear st; intro w st))); (try simp only [nsl, Value.cells, unB] at st); (try clear hc); have hc := st.facts; (try simp only [nfl, nft, Nat.reduceAdd] at hc))
      (try simp only [Exit.inBlock, Exit.then])
      refine bodyPost_cell2 rfl rfl (st.blk (i := 0) get0) Try.underlying111 rfl (by kernel_rfl) rfl ?_
      exact ⟨by rw [HV.out]; rfl, st.ext0⟩
    | cons y ys =>
      have HV : Hid (readV (rdMg0 xs) = .tuple #[mgV (mg0 0 0 0 []), .int .i64 13]) := Lib.hid (by rw [hr]; rfl)
      clear hr
      simp only [if_neg (List.cons_ne_nil y ys)]
      (try simp only [nsl, Value.cells, unB] at st)
      (try clear hc); have hc := st.facts; (try simp only [nfl, nft, Nat.reduceAdd] at hc)
      go_wp2_with ((((with_reducible refine wl_store ?_ (fun K hK => ?_)); rfl; refine owp_store rfl st ?_; apply Exists.intro; apply Exists.intro; refine ⟨?_, ?_, ?_⟩; (focus (go_simp; try rfl)); (focus (go_simp; try rfl)); (with_reducible refine ⟨0, _, _, _, _, get0, rfl, rfl, ?_, ?_, ?_, ?_⟩); (kernel_rfl); (simp [Value.cells]); (rfl); (clear st; intro w st))); (try simp only [nsl, Value.cells, unB] at st); (try clear hc); have hc := st.facts; (try simp only [nfl, nft, Nat.reduceAdd] at hc))
      (try simp only [Exit.inBlock, Exit.then])
      refine bodyPost_cell2 rfl rfl (st.blk (i := 0) get0) Try.underlying111 rfl (by kernel_rfl) rfl ?_
      exact ⟨by rw [HV.out]; rfl, st.ext0⟩
end Go.Proofs.Ytekngjkjgmplpaa

namespace Go.Proofs.Ytekngjkjgmplpaa
set_option linter.unusedSimpArgs false
set_option linter.unusedVariables false
open Go Go.RowKit
section
variable {fr al : Nat → Prop} {w0 w : World} {L : List It}
/-- A new item of what two others share. -/
theorem Own.share2 (st : Own fr al w0 L w) {i i2 : Nat} {I I2 I' : It} (hi : L[i]? = some I) (hi2 : L[i2]? = some I2) (h : ∀ e s e2 s2, I.P e s w → I2.P e2 s2 w → I'.P (fun _ => False) (fun b => s b ∨ s2 b) w) : Own fr al w0 (L ++ [I']) w := by
  obtain ⟨hm, e, s, F⟩ := st
  have hil := get_lt hi
  have hil2 := get_lt hi2
  have h1 := h _ _ _ _ (F.holds i I hi) (F.holds i2 I2 hi2)
  have hlen : ∀ {j}, j < (L ++ [I']).length → j < L.length ∨ j = L.length := fun {j} h => by simp at h; omega
  refine ⟨hm, fun j => if j < L.length then e j else fun _ => False, fun j => if j < L.length then s j else fun b => s i b ∨ s i2 b, ?_, ?_, ?_, ?_, ?_, ?_⟩
  · intro j J hj
    have hjl := get_lt hj
    rcases hlen hjl with h | h
    · rw [List.getElem?_append_left h] at hj
      simp only [h, if_true]
      exact F.holds j J hj
    · subst h
      simp at hj
      subst hj
      simp only [Nat.lt_irrefl, if_false]
      exact h1
  · intro j b hj hb
    rcases hlen hj with h | h
    · simp only [h, if_true] at hb
      exact F.lo j b h hb
    · subst h
      simp only [Nat.lt_irrefl, if_false, false_or] at hb
      rcases hb with hb | hb
      · exact F.lo i b hil (.inr hb)
      · exact F.lo i2 b hil2 (.inr hb)
  · intro j b hj hb hb0
    rcases hlen hj with h | h
    · simp only [h, if_true] at hb
      exact F.fr j b h hb hb0
    · subst h
      simp only [Nat.lt_irrefl, if_false] at hb
  · intro j b hj hb hb0
    rcases hlen hj with h | h
    · simp only [h, if_true] at hb
      exact F.al j b h hb hb0
    · subst h
      simp only [Nat.lt_irrefl, if_false, false_or] at hb
      rcases hb with hb | hb
      · exact F.al i b hil (.inr hb) hb0
      · exact F.al i2 b hil2 (.inr hb) hb0
  · intro j k b hj hk hjk hb hb'
    rcases hlen hj with h | h
    · rcases hlen hk with h' | h'
      · simp only [h, h', if_true] at hb hb'
        exact F.ee j k b h h' hjk hb hb'
      · subst h'
        simp only [Nat.lt_irrefl, if_false] at hb'
    · subst h
      simp only [Nat.lt_irrefl, if_false] at hb
  · intro j k b hj hk hb hb'
    rcases hlen hj with h | h
    · rcases hlen hk with h' | h'
      · simp only [h, h', if_true] at hb hb'
        exact F.es j k b h h' hb hb'
      · subst h'
        simp only [h, if_true, Nat.lt_irrefl, if_false] at hb hb'
        rcases hb' with hb' | hb'
        · exact F.es j i b h hil hb hb'
        · exact F.es j i2 b h hil2 hb hb'
    · subst h
      simp only [Nat.lt_irrefl, if_false] at hb
/-- The tags of some signed credentials. -/
def sgsI (ss : List SgnT) : It where
  P _ s w := ∀ x ∈ ss, SgOk w x ∧ (0 < x.n → ∀ ad, x.a = some ad → s ad.block)
  st := fun {e s w w'} h hag x hx => ⟨by
    obtain ⟨⟨h0, h1⟩, h2⟩ := h x hx
    refine ⟨h0, h1.1, fun h0 => ?_⟩
    obtain ⟨b, off, ha, hc⟩ := h1.2 h0
    refine ⟨b, off, ha, fun i y hi => ?_⟩
    have := hc i y hi
    unfold byteR at *
    rw [World.cell?_of_block (w := w) (hag b (.inr (h2 h0 _ ha)))]
    exact this, (h x hx).2⟩
  facts _ := True
  ok := fun _ => trivial
theorem Own.noSgs (st : Own fr al w0 L w) : Own fr al w0 (L ++ [sgsI []]) w := st.bare (fun x hx => by simp at hx)
theorem Own.moreSgs (st : Own fr al w0 L w) {i j : Nat} {ss : List SgnT} {x : SgnT} (hi : L[i]? = some (sgsI ss)) (hj : L[j]? = some (byI x.a x.n x.xs)) (hm : x.n ≤ x.m ∧ x.m ≤ maxLen) : Own fr al w0 (L ++ [sgsI (ss ++ [x])]) w :=
  st.share2 hi hj fun e s e2 s2 h1 h2 y hy => by
    rcases List.mem_append.1 hy with q | q
    · exact ⟨(h1 y q).1, fun h0 ad ha => .inl ((h1 y q).2 h0 ad ha)⟩
    · rw [List.mem_singleton.1 q]; exact ⟨⟨hm, h2.1⟩, fun h0 ad ha => .inr (h2.2 h0 ad ha)⟩
theorem Own.sgsAt (st : Own fr al w0 L w) {i : Nat} {ss : List SgnT} (hi : L[i]? = some (sgsI ss)) : ∀ x ∈ ss, SgOk w x := by
  obtain ⟨_, _, h, _⟩ := st.get hi
  exact fun x hx => (h x hx).1
end
end Go.Proofs.Ytekngjkjgmplpaa

namespace Go.Proofs.Ytekngjkjgmplpaa
set_option linter.unusedSimpArgs false
set_option linter.unusedVariables false
open Go Go.RowKit
/-- The next signed credential. -/
def rdSg (xs : List UInt8) : Except Int (SgnT × List UInt8) :=
  bdm (rdCred xs) fun c ys => bdm (rdText 8 ys) fun tg zs => if tg.length = 8 then .ok (⟨c, none, 8, 0, tg⟩, zs) else .error 11
/-- What a signed credential is, wherever its tag lies. -/
def stripS (x : SgnT) : SgnT := ⟨x.c, none, x.n, 0, x.xs⟩
/-- The next message. -/
def rdMg (xs : List UInt8) : Except Int (MsgT × List UInt8) :=
  bdm (rdNumber 9223372036854775807 xs) fun k ys =>
    if k = 1 then bdm (rdName ys) fun nm zs => bdm (rdNumber 2 zs) fun p us => okMg (mg0 1 p 0 nm) us
    else if k = 2 then bdm (rdNumber 16 ys) fun n zs => bdm (rdN rdRole n zs) fun ws us => bdm (rdNumber 8 us) fun m vs => bdm (rdN rdSg m vs) fun ss ts => okMg ⟨2, 0, 0, [], none, ws.length, 0, ws, none, ss.length, 0, ss⟩ ts
    else if k = 5 then bdm (rdNumber 99 ys) fun e zs => okMg (mg0 5 0 e []) zs
    else okMg (mg0 k 0 0 []) ys
theorem rdMg_0 {xs : List UInt8} (h : NoTurn xs) : rdMg xs = rdMg0 xs := by
  unfold rdMg rdMg0
  cases hr : rdNumber 9223372036854775807 xs with
  | error e => rfl
  | ok p =>
    obtain ⟨k, ys⟩ := p
    have : k ≠ 2 := fun q => h ys (by rw [hr, q])
    simp [bdm, this]
theorem rdSg_le {xs ys : List UInt8} {x : SgnT} (h : rdSg xs = .ok (x, ys)) : ys.length ≤ xs.length ∧ x.n = 8 ∧ x.xs.length = 8 := by
  unfold rdSg at h
  cases h1 : rdCred xs with
  | error e => rw [h1, bdm_er] at h; cases h
  | ok p =>
    obtain ⟨c, us⟩ := p
    have l1 := (rdCred_le2 h1).1
    rw [h1, bdm_ok] at h
    cases h2 : rdText 8 us with
    | error e => rw [h2, bdm_er] at h; cases h
    | ok p =>
      obtain ⟨tg, vs⟩ := p
      have l2 := (rdText_le h2).2.1
      rw [h2, bdm_ok] at h
      split at h
      · cases h; exact ⟨by omega, rfl, by assumption⟩
      · cases h
theorem rdSg_cr {xs ys : List UInt8} {x : SgnT} (h : rdSg xs = .ok (x, ys)) : credR x.c = true := by
  unfold rdSg at h
  cases h1 : rdCred xs with
  | error e => rw [h1, bdm_er] at h; cases h
  | ok p =>
    obtain ⟨c, us⟩ := p
    have l1 := (rdCred_le2 h1).2
    rw [h1, bdm_ok] at h
    cases h2 : rdText 8 us with
    | error e => rw [h2, bdm_er] at h; cases h
    | ok p =>
      obtain ⟨tg, vs⟩ := p
      rw [h2, bdm_ok] at h
      split at h
      · cases h; exact l1
      · cases h
theorem rdSg_strip {xs ys : List UInt8} {x : SgnT} (h : rdSg xs = .ok (x, ys)) (a : Option Addr) (m : Nat) : stripS ⟨x.c, a, 8, m, x.xs⟩ = x := by
  unfold rdSg at h
  cases h1 : rdCred xs with
  | error e => rw [h1, bdm_er] at h; cases h
  | ok p =>
    obtain ⟨c, us⟩ := p
    rw [h1, bdm_ok] at h
    cases h2 : rdText 8 us with
    | error e => rw [h2, bdm_er] at h; cases h
    | ok p =>
      obtain ⟨tg, vs⟩ := p
      rw [h2, bdm_ok] at h
      split at h
      · cases h; rfl
      · cases h
set_option maxRecDepth 100000 in
set_option maxHeartbeats 4000000 in
theorem keysGet_c {fr al : Nat → Prop} {W : World} {r : Nat} {xs : List UInt8} (st : Own fr al W [rdI r xs] W) (hl : xs.length ≤ 100000) :
    Calls Try.prog 196 #[.pointer (some ⟨r, 0, none⟩)] W (RdC fr al W r (rdSg xs) fun s v M => ∃ a m, v = sgV ⟨s.c, a, 8, m, s.xs⟩ ∧ (8 ≤ m ∧ m ≤ maxLen) ∧ M = [byI a 8 s.xs]) := by
  go_enter Try.func196, Try.ntmps196
  go_wp2_with ((first
        | ((with_reducible refine wl_alloc ?_ (fun K hK => ?_)); rfl; refine owp_alloc (o := ⟨some 2, _, _, _, _, _⟩) rfl st ?_; apply Exists.intro; apply Exists.intro; refine ⟨?_, ?_⟩; (focus (first | (go_simp; done) | (go_simp; rfl))); (clear st; intro b2 w hb st; clear hb))
        | ((with_reducible refine wl_alloc ?_ (fun K hK => ?_)); rfl; refine owp_alloc (o := ⟨some 3, _, _, _, _, _⟩) rfl st ?_; apply Exists.intro; apply Exists.intro; refine ⟨?_, ?_⟩; (focus (first | (go_simp; done) | (go_simp; rfl))); (clear st; intro b3 w hb st; clear hb))
        | ((with_reducible refine wl_store ?_ (fun K hK => ?_)); rfl; refine owp_store rfl st ?_; apply Exists.intro; apply Exists.intro; refine ⟨?_, ?_, ?_⟩; (focus (go_simp; try rfl)); (focus (go_simp; try rfl)); (first | (with_reducible refine ⟨0, _, _, _, _, get0, rfl, rfl, ?_, ?_, ?_, ?_⟩) | (with_reducible refine ⟨1, _, _, _, _, get1, rfl, rfl, ?_, ?_, ?_, ?_⟩) | (with_reducible refine ⟨2, _, _, _, _, get2, rfl, rfl, ?_, ?_, ?_, ?_⟩) | (with_reducible refine ⟨3, _, _, _, _, get3, rfl, rfl, ?_, ?_, ?_, ?_⟩) | (with_reducible refine ⟨4, _, _, _, _, get4, rfl, rfl, ?_, ?_, ?_, ?_⟩) | (with_reducible refine ⟨5, _, _, _, _, get5, rfl, rfl, ?_, ?_, ?_, ?_⟩)); (kernel_rfl); (simp [Value.cells]); (rfl); (clear st; intro w st))); (try simp only [nsl, Value.cells, unB] at st); (try clear hc); have hc := st.facts; (try simp only [nfl, nft, Nat.reduceAdd] at hc))
  obtain ⟨fr', al', st', back⟩ := st.sub [0] (by decide) (by simp)
  (try simp only [nsl, Value.cells, unB] at st')
  refine (credGet_c st' hl).mono ?_
  clear st'
  intro en w hen
  unfold RdC at hen
  cases hr : rdCred xs with
  | error e =>
    rw [hr] at hen
    obtain ⟨rfl, st'⟩ := hen
    replace st := back _ _ (by simp) st'
    clear back st'
    (try simp only [nsl, Value.cells, unB] at st)
    (try clear hc); have hc := st.facts; (try simp only [nfl, nft, Nat.reduceAdd] at hc)
    have H1 : Hid (rdSg xs = .error e) := Lib.hid (by simp [rdSg, hr, bdm])
    clear hr
    go_wp2_with fail
    refine ⟨rfl, ?_⟩
    unfold RdC
    rw [H1.out]
    have st' := st.keep [0] (by decide) (by simp)
    exact ⟨rfl, by simpa [pick] using st'⟩
  | ok p =>
    obtain ⟨c, ys⟩ := p
    have hl1 := (rdCred_le2 hr).1
    rw [hr] at hen
    obtain ⟨v, M, rfl, ⟨rfl, rfl⟩, st'⟩ := hen
    replace st := back _ _ (by simp) st'
    clear back st'
    (try simp only [nsl, Value.cells, unB] at st)
    (try clear hc); have hc := st.facts; (try simp only [nfl, nft, Nat.reduceAdd] at hc)
    have HR1 := Lib.hid hr
    clear hr
    obtain ⟨ck, ⟨ho, hd⟩, cw, ⟨bo, bd'⟩, ⟨co, cd⟩, we⟩ := c
    unfold cV S
    simp only
    go_wp2_with ((first
          | ((with_reducible refine wl_alloc ?_ (fun K hK => ?_)); rfl; refine owp_alloc (o := ⟨some 2, _, _, _, _, _⟩) rfl st ?_; apply Exists.intro; apply Exists.intro; refine ⟨?_, ?_⟩; (focus (first | (go_simp; done) | (go_simp; rfl))); (clear st; intro b2 w hb st; clear hb))
          | ((with_reducible refine wl_alloc ?_ (fun K hK => ?_)); rfl; refine owp_alloc (o := ⟨some 3, _, _, _, _, _⟩) rfl st ?_; apply Exists.intro; apply Exists.intro; refine ⟨?_, ?_⟩; (focus (first | (go_simp; done) | (go_simp; rfl))); (clear st; intro b3 w hb st; clear hb))
          | ((with_reducible refine wl_store ?_ (fun K hK => ?_)); rfl; refine owp_store rfl st ?_; apply Exists.intro; apply Exists.intro; refine ⟨?_, ?_, ?_⟩; (focus (go_simp; try rfl)); (focus (go_simp; try rfl)); (first | (with_reducible refine ⟨0, _, _, _, _, get0, rfl, rfl, ?_, ?_, ?_, ?_⟩) | (with_reducible refine ⟨1, _, _, _, _, get1, rfl, rfl, ?_, ?_, ?_, ?_⟩) | (with_reducible refine ⟨2, _, _, _, _, get2, rfl, rfl, ?_, ?_, ?_, ?_⟩) | (with_reducible refine ⟨3, _, _, _, _, get3, rfl, rfl, ?_, ?_, ?_, ?_⟩) | (with_reducible refine ⟨4, _, _, _, _, get4, rfl, rfl, ?_, ?_, ?_, ?_⟩) | (with_reducible refine ⟨5, _, _, _, _, get5, rfl, rfl, ?_, ?_, ?_, ?_⟩)); (kernel_rfl); (simp [Value.cells]); (rfl); (clear st; intro w st))); (try simp only [nsl, Value.cells, unB] at st); (try clear hc); have hc := st.facts; (try simp only [nfl, nft, Nat.reduceAdd] at hc))
    obtain ⟨fr', al', st', back⟩ := st.sub [0] (by decide) (by simp)
    (try simp only [nsl, Value.cells, unB] at st')
    refine (text_c st' 8 (by omega)).mono ?_
    clear st'
    intro en w hen
    unfold RdC at hen
    cases hr : rdText 8 ys with
    | error e =>
      rw [hr] at hen
      obtain ⟨rfl, st'⟩ := hen
      replace st := back _ _ (by simp) st'
      clear back st'
      (try simp only [nsl, Value.cells, unB] at st)
      (try clear hc); have hc := st.facts; (try simp only [nfl, nft, Nat.reduceAdd] at hc)
      have H1 : Hid (rdSg xs = .error e) := Lib.hid (by simp [rdSg, HR1.out, hr, bdm])
      clear hr
      go_wp2_with fail
      refine ⟨rfl, ?_⟩
      unfold RdC
      rw [H1.out]
      have st' := st.keep [0] (by decide) (by simp)
      exact ⟨rfl, by simpa [pick] using st'⟩
    | ok p =>
      obtain ⟨tg, zs⟩ := p
      rw [hr] at hen
      obtain ⟨v, M, rfl, ⟨ta, tc, rfl, hc1, rfl⟩, st'⟩ := hen
      replace st := back _ _ (by simp) st'
      clear back st'
      (try simp only [nsl, Value.cells, unB] at st)
      (try clear hc); have hc := st.facts; (try simp only [nfl, nft, Nat.reduceAdd] at hc)
      have HR2 := Lib.hid hr
      clear hr
      obtain ⟨tl, htl⟩ : ∃ m, tg.length = m := ⟨_, rfl⟩
      have HTL := Lib.hid htl
      rw [htl] at st hc1 ⊢
      clear htl
      by_cases h8 : tl = 8
      · subst h8
        have H1 : Hid (rdSg xs = .ok (⟨⟨ck, (ho, hd), cw, (bo, bd'), (co, cd), we⟩, none, 8, 0, tg⟩, zs)) := Lib.hid (by simp [rdSg, HR1.out, HR2.out, bdm, HTL.out])
        go_wp2_with ((first
              | ((with_reducible refine wl_alloc ?_ (fun K hK => ?_)); rfl; refine owp_alloc (o := ⟨some 2, _, _, _, _, _⟩) rfl st ?_; apply Exists.intro; apply Exists.intro; refine ⟨?_, ?_⟩; (focus (first | (go_simp; done) | (go_simp; rfl))); (clear st; intro b2 w hb st; clear hb))
              | ((with_reducible refine wl_alloc ?_ (fun K hK => ?_)); rfl; refine owp_alloc (o := ⟨some 3, _, _, _, _, _⟩) rfl st ?_; apply Exists.intro; apply Exists.intro; refine ⟨?_, ?_⟩; (focus (first | (go_simp; done) | (go_simp; rfl))); (clear st; intro b3 w hb st; clear hb))
              | ((with_reducible refine wl_store ?_ (fun K hK => ?_)); rfl; refine owp_store rfl st ?_; apply Exists.intro; apply Exists.intro; refine ⟨?_, ?_, ?_⟩; (focus (go_simp; try rfl)); (focus (go_simp; try rfl)); (first | (with_reducible refine ⟨0, _, _, _, _, get0, rfl, rfl, ?_, ?_, ?_, ?_⟩) | (with_reducible refine ⟨1, _, _, _, _, get1, rfl, rfl, ?_, ?_, ?_, ?_⟩) | (with_reducible refine ⟨2, _, _, _, _, get2, rfl, rfl, ?_, ?_, ?_, ?_⟩) | (with_reducible refine ⟨3, _, _, _, _, get3, rfl, rfl, ?_, ?_, ?_, ?_⟩) | (with_reducible refine ⟨4, _, _, _, _, get4, rfl, rfl, ?_, ?_, ?_, ?_⟩) | (with_reducible refine ⟨5, _, _, _, _, get5, rfl, rfl, ?_, ?_, ?_, ?_⟩)); (kernel_rfl); (simp [Value.cells]); (rfl); (clear st; intro w st))); (try simp only [nsl, Value.cells, unB] at st); (try clear hc); have hc := st.facts; (try simp only [nfl, nft, Nat.reduceAdd] at hc))
        (try simp only [Exit.inBlock, Exit.then])
        refine bodyPost_cell rfl rfl (st.blk (i := 1) get1) Try.underlying35 rfl (by kernel_rfl) rfl ?_
        unfold RdC
        rw [H1.out]
        have st' := st.keep [0, 3] (by decide) (by simp)
        exact ⟨_, [byI ta 8 tg], rfl, ⟨ta, tc, rfl, hc1, rfl⟩, by simpa [pick] using st'⟩
      · have H1 : Hid (rdSg xs = .error 11) := Lib.hid (by simp [rdSg, HR1.out, HR2.out, bdm, HTL.out, h8])
        have h8b : ((tl : Int) != 8) = true := by simpa using (by omega : (tl : Int) ≠ 8)
        have H8 := Lib.hid h8
        clear h8
        go_wp2_with ((first
              | ((with_reducible refine wl_alloc ?_ (fun K hK => ?_)); rfl; refine owp_alloc (o := ⟨some 2, _, _, _, _, _⟩) rfl st ?_; apply Exists.intro; apply Exists.intro; refine ⟨?_, ?_⟩; (focus (first | (go_simp; done) | (go_simp; rfl))); (clear st; intro b2 w hb st; clear hb))
              | ((with_reducible refine wl_alloc ?_ (fun K hK => ?_)); rfl; refine owp_alloc (o := ⟨some 3, _, _, _, _, _⟩) rfl st ?_; apply Exists.intro; apply Exists.intro; refine ⟨?_, ?_⟩; (focus (first | (go_simp; done) | (go_simp; rfl))); (clear st; intro b3 w hb st; clear hb))
              | ((with_reducible refine wl_store ?_ (fun K hK => ?_)); rfl; refine owp_store rfl st ?_; apply Exists.intro; apply Exists.intro; refine ⟨?_, ?_, ?_⟩; (focus (go_simp; try rfl)); (focus (go_simp; try rfl)); (first | (with_reducible refine ⟨0, _, _, _, _, get0, rfl, rfl, ?_, ?_, ?_, ?_⟩) | (with_reducible refine ⟨1, _, _, _, _, get1, rfl, rfl, ?_, ?_, ?_, ?_⟩) | (with_reducible refine ⟨2, _, _, _, _, get2, rfl, rfl, ?_, ?_, ?_, ?_⟩) | (with_reducible refine ⟨3, _, _, _, _, get3, rfl, rfl, ?_, ?_, ?_, ?_⟩) | (with_reducible refine ⟨4, _, _, _, _, get4, rfl, rfl, ?_, ?_, ?_, ?_⟩) | (with_reducible refine ⟨5, _, _, _, _, get5, rfl, rfl, ?_, ?_, ?_, ?_⟩)); (kernel_rfl); (simp [Value.cells]); (rfl); (clear st; intro w st))); (try simp only [nsl, Value.cells, unB] at st); (try clear hc); have hc := st.facts; (try simp only [nfl, nft, Nat.reduceAdd] at hc))
        obtain ⟨_, sq, ⟨_, hrd⟩, _⟩ := st.get (i := 0) (I := rdI r zs) get0
        have HRD := Lib.hid hrd.any
        clear hrd
        refine (fail_any _ r 11 HRD.out (by decide)).mono ?_
        rintro en w' ⟨rfl, rfl⟩
        go_wp2_with fail
        refine ⟨rfl, ?_⟩
        unfold RdC
        rw [H1.out]
        have st' := (st.rdAny (i := 0) get0).keep [0] (by decide) (by simp)
        exact ⟨rfl, by simpa [pick] using st'⟩
end Go.Proofs.Ytekngjkjgmplpaa

namespace Go.Proofs.Ytekngjkjgmplpaa
set_option linter.unusedSimpArgs false
set_option linter.unusedVariables false
open Go Go.RowKit
def refMgR (x : MsgT) : Bool :=
  if x.k < 1 ∨ 5 < x.k then false
  else if (x.k ≠ 1 ∧ (x.nm ≠ [] ∨ x.p ≠ 0)) ∨ (x.k ≠ 2 ∧ 0 < x.ws.length + x.ss.length) ∨ (x.k ≠ 5 ∧ x.e ≠ 0) then false
  else if x.k = 1 then nameR x.nm && decide (1 ≤ x.p) && decide (x.p ≤ 2)
  else if x.k = 5 then decide (1 ≤ x.e) && decide (x.e ≤ 99)
  else if 16 < x.ws.length ∨ 8 < x.ss.length ∨ roleSet x.ws ≠ x.ws then false
  else (List.range x.ss.length).all (shAt x.ss)
theorem sameSs_refl : ∀ l : List SgnT, sameSs l l = true
  | [] => rfl
  | x :: l => by unfold sameSs sameSg; rw [credEq_self, sameSs_refl l]; simp
theorem sameSs_nil (l : List SgnT) : sameSs [] l = decide (l = []) := by cases l <;> rfl
theorem roleSet_nil : roleSet ([] : List Role) = [] := by
  have := roleSet_len ([] : List Role)
  exact List.eq_nil_of_length_eq_zero (by simpa using this)
theorem showsR_nil : showsR [] = true := by decide
theorem showsR_eq (l : List SgnT) : showsR l = ((List.range l.length).all (shAt l) && decide (l.length ≤ 8)) := rfl
theorem refMgR_eq (x : MsgT) : refMgR x = mgR x := by
  obtain ⟨k, p, e, nm, wa, wn, wc, ws, sa, sn, sc, ss⟩ := x
  have hlen : (0 < ws.length + ss.length) ↔ ¬ (ws = [] ∧ ss = []) := by
    cases ws <;> cases ss <;> (try simp) <;> (try omega)
  unfold refMgR mgR kindR bareMg sameMg
  simp only
  by_cases k1 : k = 1
  · subst k1
    simp only [if_true, if_pos, sameSs_nil]
    rw [if_neg (by decide)]
    by_cases h1 : ws = [] ∧ ss = []
    · obtain ⟨rfl, rfl⟩ := h1
      by_cases h2 : e = 0
      · subst h2
        have hp : (decide (1 ≤ p) && decide (p ≤ 2)) = (decide (p = 1) || decide (p = 2)) := by rw [Bool.eq_iff_iff]; simp; omega
        rw [Bool.and_assoc, hp]
        simp
      · have h2' : ((0 : Int) == e) = false := by simpa using Ne.symm h2
        simp [h2, h2']
    · rw [if_pos (.inr (.inl ⟨by decide, hlen.2 h1⟩))]
      by_cases h3 : ws = []
      · have h4 : ss ≠ [] := fun q => h1 ⟨h3, q⟩
        simp [h3, h4]
      · have h3' : ¬ ([] = ws) := fun q => h3 q.symm
        simp [h3']
  by_cases k2 : k = 2
  · subst k2
    simp only [if_neg k1, if_true, if_pos, sameSs_refl]
    rw [if_neg (by decide)]
    by_cases h1 : nm = []
    · subst h1
      by_cases h2 : p = 0
      · subst h2
        by_cases h3 : e = 0
        · subst h3
          have hw : wantsR ws = (decide (ws.length ≤ 16) && decide (roleSet ws = ws)) := rfl
          rw [hw, showsR_eq]
          by_cases h4 : 16 < ws.length
          · simp [h4]
            (try (intro q; omega))
          · by_cases h5 : 8 < ss.length
            · simp [h5]
              (try (intros; omega))
            · by_cases h6 : roleSet ws = ws
              · simp [h4, h5, h6, (by omega : ws.length ≤ 16), (by omega : ss.length ≤ 8)]
              · simp [h6]
        · have h3' : ((0 : Int) == e) = false := by simpa using Ne.symm h3
          simp [h3, h3']
      · have h2' : ((0 : Int) == p) = false := by simpa using Ne.symm h2
        simp [h2, h2']
    · have h1' : (([] : List UInt8) == nm) = false := by simpa using Ne.symm h1
      simp [h1, h1']
  by_cases k5 : k = 5
  · subst k5
    simp only [if_neg k1, if_neg k2, if_true, if_pos, sameSs_nil]
    rw [if_neg (by decide)]
    by_cases h1 : nm = []
    · subst h1
      by_cases h2 : p = 0
      · subst h2
        by_cases h3 : ws = [] ∧ ss = []
        · obtain ⟨rfl, rfl⟩ := h3
          simp
        · rw [if_pos (.inr (.inl ⟨by decide, hlen.2 h3⟩))]
          by_cases h4 : ws = []
          · have h5 : ss ≠ [] := fun q => h3 ⟨h4, q⟩
            simp [h4, h5]
          · have h4' : ¬ ([] = ws) := fun q => h4 q.symm
            simp [h4']
      · have h2' : ((0 : Int) == p) = false := by simpa using Ne.symm h2
        simp [h2, h2']
    · have h1' : (([] : List UInt8) == nm) = false := by simpa using Ne.symm h1
      simp [h1, h1']
  simp only [if_neg k1, if_neg k2, if_neg k5, sameSs_nil]
  by_cases hk : k < 1 ∨ 5 < k
  · have h3 : ¬ k = 3 := by omega
    have h4 : ¬ k = 4 := by omega
    rw [if_pos hk]
    simp [h3, h4]
  · have h34 : k = 3 ∨ k = 4 := by omega
    have h34b : (decide (k = 3) || decide (k = 4)) = true := by simpa using h34
    rw [if_neg hk, h34b]
    by_cases h1 : nm = []
    · subst h1
      by_cases h2 : p = 0
      · subst h2
        by_cases h3 : ws = [] ∧ ss = []
        · obtain ⟨rfl, rfl⟩ := h3
          by_cases h5 : e = 0
          · subst h5
            rw [roleSet_nil]
            simp
          · have h5' : ((0 : Int) == e) = false := by simpa using Ne.symm h5
            simp [h5, h5', k5]
        · rw [if_pos (.inr (.inl ⟨k2, hlen.2 h3⟩))]
          by_cases h4 : ws = []
          · have h5 : ss ≠ [] := fun q => h3 ⟨h4, q⟩
            simp [h4, h5]
          · have h4' : ¬ ([] = ws) := fun q => h4 q.symm
            simp [h4']
      · have h2' : ((0 : Int) == p) = false := by simpa using Ne.symm h2
        simp [h2, h2', k1]
    · have h1' : (([] : List UInt8) == nm) = false := by simpa using Ne.symm h1
      simp [h1, h1', k1]
end Go.Proofs.Ytekngjkjgmplpaa

namespace Go.Proofs.Ytekngjkjgmplpaa.Rg4
set_option linter.unusedSimpArgs false
set_option linter.unusedVariables false
open Go Go.Proofs.Ytekngjkjgmplpaa.Rg
section
variable (P : Program) (ops : Array Oper) (T : Array Nat) (Rel : World → World → Prop) (ld : Nat → Bool) (Cl : World → Prop) (kd : Nat → Kd) (Q : Exit → Act → World → Prop)
/-- The walk up to a fork. -/
def wp5 (E : World → Facts → Act → Prop) : List (Nat × Oper) → World → Facts → Act → Prop
  | [], w0, F, a => E w0 F a
  | (k, o) :: rest, w0, F, a =>
    if Region.wanted o (yielded ops a.tmps) = true then
      match kd k with
      | .none => ∃ c, (∀ w, (ld k = true → Rel w0 w) → Cl w → stillAt P o a w c) ∧ wp5 E rest w0 F (a.put o.dst c)
      | .some (.some S) => (∀ w, Rel w0 w → Cl w → Pre ops T F k w → relAt P o a w (fun v w' => Rel w w' ∧ Cl w' ∧ S v w')) ∧
          ∀ v, (∃ w, Rel w0 w ∧ Cl w ∧ S v w) → wp5 E rest w0 (upd F k (S v)) (a.put o.dst v)
      | .some .none => ∀ w, Rel w0 w → Cl w → All F w → o.wp P a w (fun a' w' => Cl w' ∧ wp5 E rest w' none a') Q ∨ (o.asks P a w ∧ LetsOut Q)
    else wp5 E rest w0 F (a.put o.dst undef)
/-- Both orders of two barriers. -/
def fork4 (i j : Nat) (oi oj : Oper) (r : List (Nat × Oper)) (w0 : World) (F : Facts) (a : Act) : Prop :=
  wp4 P ops T Rel ld Cl kd Q ((i, oi) :: (j, oj) :: r) w0 F a ∧ wp4 P ops T Rel ld Cl kd Q ((j, oj) :: (i, oi) :: r) w0 F a
end
def lex5 (ops : Array Oper) (C : List Nat) (e : Array Bool → Bool) : List Nat → Array Bool → Bool
  | [], listed => e listed
  | k :: ks, listed => (if C.contains k then decide (Region.ready .any ops listed = [k]) else (Region.ready .any ops listed).contains k && Region.free .any ops listed k) && lex5 ops C e ks (listed.setIfInBounds k true)
def forkE (ops : Array Oper) (C : List Nat) (i j : Nat) (r : List Nat) (listed : Array Bool) : Bool :=
  decide (Region.ready .any ops listed = [i, j]) && (C.contains i && (C.contains j && (lex4 ops C (j :: r) (listed.setIfInBounds i true) && lex4 ops C (i :: r) (listed.setIfInBounds j true))))
section
variable {P : Program} {ops : Array Oper} {T : Array Nat} {Rel : World → World → Prop} {ld : Nat → Bool} {Cl : World → Prop} {kd : Nat → Kd} {Q : Exit → Act → World → Prop}
theorem kd_bar {C : List Nat} (hC : ∀ k, isC kd k = C.contains k) {i : Nat} (hkc : C.contains i = true) : kd i = .some .none := by
  have := hC i
  rw [hkc] at this
  unfold isC at this; revert this; cases kd i with
  | none => intro h; cases h
  | some x => cases x with
    | none => intro _; rfl
    | some S => intro h; cases h
theorem wpAny5_lex (htr : ∀ a b c, Rel a b → Rel b c → Rel a c) (hsp : ∀ k S, kd k = .some (.some S) → ∀ v w w', Rel w w' → S v w → S v w') (hB : befOk ops T = true)
    (hbar : ∀ i j, (isB kd i = true ∨ ld i = true) → isC kd j = true → bef ops T j i = true ∨ bef ops T i j = true) (hQ : ∀ c (a : Act) x v w, Q (.panic c) (a.put x v) w → Q (.panic c) a w)
    (C : List Nat) (hC : ∀ k, isC kd k = C.contains k) (hs : Region.noSelect ops = true) (e : Array Bool → Bool) (E : World → Facts → Act → Prop) (f0 : Nat)
    (hE : ∀ (listed : Array Bool) (w0 : World) (F : Facts) (a : Act), e listed = true → Closed ops T listed → StableF Rel F → E w0 F a → wpAny4 P ops T Rel ld Cl kd Q f0 listed w0 F a) :
    ∀ (l : List (Nat × Oper)) (listed : Array Bool) (w0 : World) (F : Facts) (a : Act), (∀ p ∈ l, ops[p.1]? = .some p.2) →
    lex5 ops C e (l.map (·.1)) listed = true → Closed ops T listed → StableF Rel F → wp5 P ops T Rel ld Cl kd Q E l w0 F a → wpAny4 P ops T Rel ld Cl kd Q (f0 + l.length) listed w0 F a
  | [], listed, w0, F, a, _, hL, hc, hst, h => hE listed w0 F a hL hc hst h
  | (k, o) :: l, listed, w0, F, a, hl, hL, hc, hst, h => by
    show wpAny4 P ops T Rel ld Cl kd Q ((f0 + l.length) + 1) listed w0 F a
    have h0 : ops[k]? = .some o := hl (k, o) (by simp)
    simp only [List.map_cons, lex5, Bool.and_eq_true] at hL
    obtain ⟨hL1, hL'⟩ := hL
    have hl' : ∀ p ∈ l, ops[p.1]? = .some p.2 := fun p hp => hl p (by simp [hp])
    by_cases hkc : C.contains k = true
    · rw [if_pos hkc, decide_eq_true_eq] at hL1
      have hr' : k ∈ Region.ready .any ops listed := by rw [hL1]; simp
      have IH := fun w0 F a hst h => wpAny5_lex htr hsp hB hbar hQ C hC hs e E f0 hE l (listed.setIfInBounds k true) w0 F a hl' hL' (closed_set hB hc hr') hst h
      intro hinh
      refine ⟨fun h => (by rw [hL1] at h; cases h), fun i hi => ?_⟩
      rw [hL1] at hi
      obtain rfl : i = k := by simpa using hi
      have hkk : kd i = .some .none := kd_bar hC hkc
      unfold op4
      unfold wp5 at h
      simp only [h0]
      by_cases hwant : Region.wanted o (yielded ops a.tmps) = true
      · simp only [hwant, if_true, hkk] at h ⊢
        intro w hw hcl hF
        exact (h w hw hcl hF).imp (Oper.wp_mono fun a' w' ⟨h1, h2⟩ => ⟨h1, IH w' none a' (fun _ _ _ _ _ => trivial) h2⟩) id
      · simp only [hwant] at h ⊢
        exact IH _ _ _ hst h
    · rw [if_neg hkc, Bool.and_eq_true] at hL1
      obtain ⟨hr, hf⟩ := hL1
      have hr' : k ∈ Region.ready .any ops listed := by simpa using hr
      have IH := fun w0 F a hst h => wpAny5_lex htr hsp hB hbar hQ C hC hs e E f0 hE l (listed.setIfInBounds k true) w0 F a hl' hL' (closed_set hB hc hr') hst h
      have hkc' : isC kd k = false := by rw [hC]; simpa using hkc
      refine wpAny4_first htr hsp hB hbar hQ h0 hkc' (Region.noSelect_spec hs) (f0 + l.length) listed w0 F a hst hc (Region.free_spec h0 hf) hr' ?_
      unfold op4
      unfold wp5 at h
      simp only [h0]
      by_cases hwant : Region.wanted o (yielded ops a.tmps) = true
      · simp only [hwant, if_true] at h ⊢
        cases hs : kd k with
        | none =>
          simp only [hs] at h ⊢
          obtain ⟨c, h1, h2⟩ := h
          exact ⟨c, h1, IH _ _ _ hst h2⟩
        | some k2 =>
          cases k2 with
          | none => unfold isC at hkc'; rw [hs] at hkc'; cases hkc'
          | some S =>
            simp only [hs] at h ⊢
            obtain ⟨h1, h2⟩ := h
            exact ⟨h1, fun v => wpAny4_of_inh fun ⟨w, hw, hcl, hF⟩ => IH _ _ _ (stable_upd hst (hsp k S hs v)) (h2 v ⟨w, hw, hcl, (hF k).2 rfl⟩)⟩
      · simp only [hwant] at h ⊢
        exact IH _ _ _ hst h
/-- A fork is any order of the two. -/
theorem fork_any (htr : ∀ a b c, Rel a b → Rel b c → Rel a c) (hsp : ∀ k S, kd k = .some (.some S) → ∀ v w w', Rel w w' → S v w → S v w') (hB : befOk ops T = true)
    (hbar : ∀ i j, (isB kd i = true ∨ ld i = true) → isC kd j = true → bef ops T j i = true ∨ bef ops T i j = true) (hQ : ∀ c (a : Act) x v w, Q (.panic c) (a.put x v) w → Q (.panic c) a w)
    (C : List Nat) (hC : ∀ k, isC kd k = C.contains k) (hs : Region.noSelect ops = true) {i j : Nat} {oi oj : Oper} {r : List (Nat × Oper)} (hi : ops[i]? = .some oi) (hj : ops[j]? = .some oj) (hr : ∀ p ∈ r, ops[p.1]? = .some p.2)
    (listed : Array Bool) (w0 : World) (F : Facts) (a : Act) (he : forkE ops C i j (r.map (·.1)) listed = true) (hc : Closed ops T listed) (hst : StableF Rel F) (h : fork4 P ops T Rel ld Cl kd Q i j oi oj r w0 F a) :
    wpAny4 P ops T Rel ld Cl kd Q (r.length + 2) listed w0 F a := by
  unfold forkE at he
  simp only [Bool.and_eq_true, decide_eq_true_eq] at he
  obtain ⟨e1, e2, e3, e4, e5⟩ := he
  obtain ⟨h1, h2⟩ := h
  have ri : i ∈ Region.ready .any ops listed := by rw [e1]; simp
  have rj : j ∈ Region.ready .any ops listed := by rw [e1]; simp
  have side : ∀ {x y : Nat} {ox oy : Oper}, ops[x]? = .some ox → ops[y]? = .some oy → C.contains x = true → x ∈ Region.ready .any ops listed → lex4 ops C (y :: r.map (·.1)) (listed.setIfInBounds x true) = true →
      wp4 P ops T Rel ld Cl kd Q ((x, ox) :: (y, oy) :: r) w0 F a → op4 P ops T Rel ld Cl kd Q x (wpAny4 P ops T Rel ld Cl kd Q (r.length + 1) (listed.setIfInBounds x true)) w0 F a := by
    intro x y ox oy hx hy hxc hxr hlex hw
    have IH := fun w0 F a hst h => wpAny4_lex (Rel := Rel) (ld := ld) (Cl := Cl) (kd := kd) (Q := Q) (P := P) htr hsp hB hbar hQ C hC hs ((y, oy) :: r) (listed.setIfInBounds x true) w0 F a (fun p hp => by
      rcases List.mem_cons.1 hp with q | q
      · subst q; exact hy
      · exact hr p q) hlex (closed_set hB hc hxr) hst h
    have hkk : kd x = .some .none := kd_bar hC hxc
    unfold op4
    unfold wp4 at hw
    simp only [hx]
    by_cases hwant : Region.wanted ox (yielded ops a.tmps) = true
    · simp only [hwant, if_true, hkk] at hw ⊢
      intro w hw1 hcl hF
      exact (hw w hw1 hcl hF).imp (Oper.wp_mono fun a' w' ⟨h1, h2⟩ => ⟨h1, IH w' none a' (fun _ _ _ _ _ => trivial) h2⟩) id
    · simp only [hwant] at hw ⊢
      exact IH _ _ _ hst hw
  intro _
  refine ⟨fun q => (by rw [e1] at q; cases q), fun x hx => ?_⟩
  rw [e1] at hx
  rcases List.mem_cons.1 hx with rfl | hx
  · exact side hi hj e2 ri e4 h1
  · obtain rfl : x = j := by simpa using hx
    exact side hj hi e3 rj e5 h2
section steps
variable {E : World → Facts → Act → Prop} {w0 : World} {o : Oper} {rest : List (Nat × Oper)} {k : Nat} {F : Facts} {a : Act}
theorem w5_end (h : E w0 F a) : wp5 P ops T Rel ld Cl kd Q E [] w0 F a := h
theorem w5_skip (hw : Region.wanted o (yielded ops a.tmps) = false) (h : wp5 P ops T Rel ld Cl kd Q E rest w0 F (a.put o.dst undef)) : wp5 P ops T Rel ld Cl kd Q E ((k, o) :: rest) w0 F a := by
  unfold wp5; rw [if_neg (by rw [hw]; decide)]; exact h
theorem w5_pure (hw : Region.wanted o (yielded ops a.tmps) = true) (hs : kd k = .none) (h : ∃ c, (∀ w, (ld k = true → Rel w0 w) → Cl w → (execOp a.eval o).run P w = .ok (.value c) w) ∧ wp5 P ops T Rel ld Cl kd Q E rest w0 F (a.put o.dst c)) :
    wp5 P ops T Rel ld Cl kd Q E ((k, o) :: rest) w0 F a := by
  unfold wp5; rw [if_pos hw, hs]; exact h
theorem w5_any (hw : Region.wanted o (yielded ops a.tmps) = true) (hs : kd k = .none) (h : ∃ c, (∀ w, (execOp a.eval o).run P w = .ok (.value c) w) ∧ wp5 P ops T Rel ld Cl kd Q E rest w0 F (a.put o.dst c)) :
    wp5 P ops T Rel ld Cl kd Q E ((k, o) :: rest) w0 F a := w5_pure hw hs (let ⟨c, h1, h2⟩ := h; ⟨c, fun w _ _ => h1 w, h2⟩)
theorem w5_cl (hw : Region.wanted o (yielded ops a.tmps) = true) (hs : kd k = .none) (h : ∃ c, (∀ w, Cl w → (execOp a.eval o).run P w = .ok (.value c) w) ∧ wp5 P ops T Rel ld Cl kd Q E rest w0 F (a.put o.dst c)) :
    wp5 P ops T Rel ld Cl kd Q E ((k, o) :: rest) w0 F a := w5_pure hw hs (let ⟨c, h1, h2⟩ := h; ⟨c, fun w _ => h1 w, h2⟩)
end steps
end
/-- A region whose order is drawn, up to two barriers that may come in either order. -/
theorem wp_region5_eq {P : Program} (T : Array Nat) (Cs Ls : List Nat) (Cl : World → Prop) (p : List Nat) (i j : Nat) (r : List Nat) {id : Nat} {Q : Exit → Act → World → Prop} {a : Act} {w : World} {l : List Oper} {oi oj : Oper} (hm : P.follows .mixedOrders = true)
    (hi : l[i]? = some oi) (hj : l[j]? = some oj)
    (hL : (Region.noSelect l.toArray && (lex5 l.toArray Cs (forkE l.toArray Cs i j ((inOrd l r).map (·.1))) ((inOrd l p).map (·.1)) (Array.replicate l.length false) && (inOrd l r).length + 2 + (inOrd l p).length == l.length)) = true) (hB : befOk l.toArray T = true) (hb : barB l.toArray T Ls Cs = true)
    (hQ : ∀ c (a : Act) x v w, Q (.panic c) (a.put x v) w → Q (.panic c) a w) (hcl : Cl { w with drawn := w.drawn + 1 })
    (h : wp5 P l.toArray T (· = ·) (fun k => Ls.contains k) Cl (kdOf (Rel := (· = ·)) [] Cs) Q (fork4 P l.toArray T (· = ·) (fun k => Ls.contains k) Cl (kdOf (Rel := (· = ·)) [] Cs) Q i j oi oj (inOrd l r)) (inOrd l p) { w with drawn := w.drawn + 1 } none a) : (Code.region id l.toArray true).wp P Q a w := by
  rw [Bool.and_eq_true, Bool.and_eq_true] at hL
  have hlen : (inOrd l r).length + 2 + (inOrd l p).length = l.length := by simpa using hL.2.2
  have htr : ∀ a b c : World, a = b → b = c → a = c := fun _ _ _ h k => h.trans k
  have hbar : ∀ i j, (isB (kdOf (Rel := (· = ·)) [] Cs) i = true ∨ Ls.contains i = true) → isC (kdOf (Rel := (· = ·)) [] Cs) j = true → bef l.toArray T j i = true ∨ bef l.toArray T i j = true := fun i j hi hj => by
    rw [kdOf_C] at hj
    have h1 := List.all_eq_true.1 hb j (by simpa using hj)
    have h2 := List.all_eq_true.1 h1 i (by
      rcases hi with hi | hi
      · have := kdOf_B [] Cs i hi; cases this
      · simpa using hi)
    simpa using h2
  refine wp_region_any hm (wpAny_of_4 (T := T) (ld := fun k => Ls.contains k) (fun _ => rfl) htr (kdOf_sp [] Cs) _ _ { w with drawn := w.drawn + 1 } none _ _ (fun _ _ _ _ _ => trivial) rfl hcl (fun _ => trivial) ?_)
  have := wpAny5_lex (P := P) (Q := Q) (ld := fun k => Ls.contains k) (Cl := Cl) htr (kdOf_sp [] Cs) hB hbar hQ Cs (kdOf_C [] Cs) hL.1 (forkE l.toArray Cs i j ((inOrd l r).map (·.1))) (fork4 P l.toArray T (· = ·) (fun k => Ls.contains k) Cl (kdOf (Rel := (· = ·)) [] Cs) Q i j oi oj (inOrd l r)) ((inOrd l r).length + 2)
    (fun listed w0 F a he hc hst h => fork_any htr (kdOf_sp [] Cs) hB hbar hQ Cs (kdOf_C [] Cs) hL.1 (by simpa using hi) (by simpa using hj) inOrd_mem listed w0 F a he hc hst h)
    (inOrd l p) (Array.replicate l.length false) { w with drawn := w.drawn + 1 } none a inOrd_mem hL.2.1 (fun k m hk => by
    exfalso
    by_cases h : k < l.length <;> simp [h] at hk) (fun _ _ _ _ _ => trivial) h
  rw [hlen] at this
  simpa using this
section
open Go.RowKit
variable {fr al : Nat → Prop} {w0 w : World} {L : List It}
variable {P : Program} {ops : Array Oper} {T : Array Nat} {ld : Nat → Bool} {Cl : World → Prop} {kd : Nat → Kd} {Q : Exit → Act → World → Prop}
/-- Two allocations in either order. -/
theorem fork_alloc {i j : Nat} {oi oj : Oper} {di dj : Nat} {r : List (Nat × Oper)} {F : Facts} {a : Act} {cs ds : Array Value} {Ti Tj : TypeId} (hki : kd i = .some .none) (hkj : kd j = .some .none) (hgi : oi.guard = .none) (hgj : oj.guard = .none) (hdi : oi.dst = some di) (hdj : oj.dst = some dj) (hij : di ≠ dj)
    (st : Own fr al w0 L w)
    (hri : ∀ (x : Act) (w : World), (execOp x.eval oi).run P w = .ok (.value (.pointer (some ⟨w.heap.size, 0, none⟩))) (w.alloc (.cells cs Ti)))
    (hrj : ∀ (x : Act) (w : World), (execOp x.eval oj).run P w = .ok (.value (.pointer (some ⟨w.heap.size, 0, none⟩))) (w.alloc (.cells ds Tj)))
    (hcl : ∀ b w', Own fr al w0 (L ++ [blkI b cs.toList]) w' ∨ Own fr al w0 (L ++ [blkI b ds.toList]) w' → Cl w')
    (h : ∀ b b' w', Own fr al w0 (L ++ [blkI b cs.toList, blkI b' ds.toList]) w' → Cl w' ∧ wp4 P ops T (· = ·) ld Cl kd Q r w' none ((a.put (some di) (.pointer (some ⟨b, 0, none⟩))).put (some dj) (.pointer (some ⟨b', 0, none⟩)))) :
    fork4 P ops T (· = ·) ld Cl kd Q i j oi oj r w F a := by
  have hsw : ∀ b b' w', Own fr al w0 (L ++ [blkI b ds.toList, blkI b' cs.toList]) w' → Own fr al w0 (L ++ [blkI b' cs.toList, blkI b ds.toList]) w' := fun b b' w' s => by
    have s2 := s.keep (List.range L.length ++ [L.length + 1, L.length]) (by
      rw [List.nodup_append]
      refine ⟨List.nodup_range, by simp, ?_⟩
      intro x hx y hy
      simp only [List.mem_range, List.mem_cons, List.not_mem_nil, or_false] at hx hy
      omega) (by
      intro q hq
      simp only [List.mem_append, List.mem_range, List.mem_cons, List.not_mem_nil, or_false] at hq
      simp only [List.length_append, List.length_cons, List.length_nil]
      omega)
    have e : pick (L ++ [blkI b ds.toList, blkI b' cs.toList]) (List.range L.length ++ [L.length + 1, L.length]) = L ++ [blkI b' cs.toList, blkI b ds.toList] := by
      unfold pick
      rw [List.map_append]
      congr 1
      · apply List.ext_getElem
        · simp
        · intro i h1 h2
          simp [List.getElem?_append_left h2, List.getElem?_eq_getElem h2]
      · simp
    rwa [e] at s2
  have wi : ∀ x : Act, Region.wanted oi (yielded ops x.tmps) = true := fun x => by simp [Region.wanted, hgi]
  have wj : ∀ x : Act, Region.wanted oj (yielded ops x.tmps) = true := fun x => by simp [Region.wanted, hgj]
  constructor
  · refine w4_bar (wi _) hki (fun w' hw' _ _ K hK => ?_)
    subst hw'
    have s1 := st.alloc cs.toList Ti rfl
    rw [show cs.toList.toArray = cs from rfl] at s1
    refine owp_run (hri a w) (hK _ _ ⟨hcl _ _ (.inl s1), ?_⟩)
    rw [hdi]
    refine w4_bar (wj _) hkj (fun w' hw' _ _ K hK => ?_)
    subst hw'
    have s2 := s1.alloc ds.toList Tj rfl
    rw [show ds.toList.toArray = ds from rfl] at s2
    refine owp_run (hrj _ _) (hK _ _ ?_)
    rw [hdj]
    exact h _ _ _ (by simpa using s2)
  · refine w4_bar (wj _) hkj (fun w' hw' _ _ K hK => ?_)
    subst hw'
    have s1 := st.alloc ds.toList Tj rfl
    rw [show ds.toList.toArray = ds from rfl] at s1
    refine owp_run (hrj a w) (hK _ _ ⟨hcl _ _ (.inr s1), ?_⟩)
    rw [hdj]
    refine w4_bar (wi _) hki (fun w' hw' _ _ K hK => ?_)
    subst hw'
    have s2 := s1.alloc cs.toList Ti rfl
    rw [show cs.toList.toArray = cs from rfl] at s2
    refine owp_run (hri _ _) (hK _ _ ?_)
    rw [hdi]
    rw [List.append_assoc] at s2
    have := h _ _ _ (hsw _ _ _ s2)
    rw [Act.put_comm _ _ _ (fun d hx hy => hij (by cases hx; cases hy; rfl))]
    exact this
theorem fork_alloc' {i j : Nat} {oi oj : Oper} {di dj : Nat} {r : List (Nat × Oper)} {F : Facts} {a : Act} (hki : kd i = .some .none) (hkj : kd j = .some .none) (hgi : oi.guard = .none) (hgj : oj.guard = .none) (hdi : oi.dst = some di) (hdj : oj.dst = some dj) (hij : di ≠ dj)
    (st : Own fr al w0 L w) (h : ∃ (cs : Array Value) (Ti : TypeId) (ds : Array Value) (Tj : TypeId),
      (∀ (x : Act) (w : World), (execOp x.eval oi).run P w = .ok (.value (.pointer (some ⟨w.heap.size, 0, none⟩))) (w.alloc (.cells cs Ti))) ∧
      (∀ (x : Act) (w : World), (execOp x.eval oj).run P w = .ok (.value (.pointer (some ⟨w.heap.size, 0, none⟩))) (w.alloc (.cells ds Tj))) ∧
      (∀ b w', Own fr al w0 (L ++ [blkI b cs.toList]) w' ∨ Own fr al w0 (L ++ [blkI b ds.toList]) w' → Cl w') ∧
      (∀ b b' w', Own fr al w0 (L ++ [blkI b cs.toList, blkI b' ds.toList]) w' → Cl w' ∧ wp4 P ops T (· = ·) ld Cl kd Q r w' none ((a.put (some di) (.pointer (some ⟨b, 0, none⟩))).put (some dj) (.pointer (some ⟨b', 0, none⟩))))) :
    fork4 P ops T (· = ·) ld Cl kd Q i j oi oj r w F a :=
  let ⟨_, _, _, _, h1, h2, h3, h4⟩ := h
  fork_alloc hki hkj hgi hgj hdi hdj hij st h1 h2 h3 h4
end
attribute [irreducible] wp5
end Go.Proofs.Ytekngjkjgmplpaa.Rg4

namespace Go.Proofs.Ytekngjkjgmplpaa.Rg4
set_option linter.unusedSimpArgs false
set_option linter.unusedVariables false
open Go Go.Proofs.Ytekngjkjgmplpaa.Rg
section
variable (P : Program) (ops : Array Oper) (T : Array Nat) (Rel : World → World → Prop) (ld : Nat → Bool) (Cl : World → Prop) (kd : Nat → Kd) (Q : Exit → Act → World → Prop)
/-- The three orders of i, j, k where j comes ahead of k. -/
def tree6 (i j k : Nat) (oi oj ok : Oper) (r : List (Nat × Oper)) (w0 : World) (F : Facts) (a : Act) : Prop :=
  wp4 P ops T Rel ld Cl kd Q ((i, oi) :: (j, oj) :: (k, ok) :: r) w0 F a ∧
  (∀ w, Rel w0 w → Cl w → All F w → oj.wp P a w (fun a' w' => Cl w' ∧ fork4 P ops T Rel ld Cl kd Q i k oi ok r w' none a') Q ∨ (oj.asks P a w ∧ LetsOut Q))
end
def treeE (ops : Array Oper) (C : List Nat) (i j k : Nat) (r : List Nat) (listed : Array Bool) : Bool :=
  decide (Region.ready .any ops listed = [i, j]) && (C.contains i && (C.contains j && (lex4 ops C (j :: k :: r) (listed.setIfInBounds i true) && forkE ops C i k r (listed.setIfInBounds j true))))
section
variable {P : Program} {ops : Array Oper} {T : Array Nat} {Rel : World → World → Prop} {ld : Nat → Bool} {Cl : World → Prop} {kd : Nat → Kd} {Q : Exit → Act → World → Prop}
theorem tree_any (htr : ∀ a b c, Rel a b → Rel b c → Rel a c) (hsp : ∀ k S, kd k = .some (.some S) → ∀ v w w', Rel w w' → S v w → S v w') (hB : befOk ops T = true)
    (hbar : ∀ i j, (isB kd i = true ∨ ld i = true) → isC kd j = true → bef ops T j i = true ∨ bef ops T i j = true) (hQ : ∀ c (a : Act) x v w, Q (.panic c) (a.put x v) w → Q (.panic c) a w)
    (C : List Nat) (hC : ∀ k, isC kd k = C.contains k) (hs : Region.noSelect ops = true) {i j k : Nat} {oi oj ok : Oper} {r : List (Nat × Oper)} (hi : ops[i]? = .some oi) (hj : ops[j]? = .some oj) (hk : ops[k]? = .some ok) (hr : ∀ p ∈ r, ops[p.1]? = .some p.2) (hgi : oi.guard = .none) (hgj : oj.guard = .none)
    (listed : Array Bool) (w0 : World) (F : Facts) (a : Act) (he : treeE ops C i j k (r.map (·.1)) listed = true) (hc : Closed ops T listed) (hst : StableF Rel F) (h : tree6 P ops T Rel ld Cl kd Q i j k oi oj ok r w0 F a) :
    wpAny4 P ops T Rel ld Cl kd Q (r.length + 3) listed w0 F a := by
  unfold treeE at he
  simp only [Bool.and_eq_true, decide_eq_true_eq] at he
  obtain ⟨e1, e2, e3, e4, e5⟩ := he
  obtain ⟨h1, h2⟩ := h
  have ri : i ∈ Region.ready .any ops listed := by rw [e1]; simp
  have rj : j ∈ Region.ready .any ops listed := by rw [e1]; simp
  have wi : ∀ x : Act, Region.wanted oi (yielded ops x.tmps) = true := fun x => by simp [Region.wanted, hgi]
  have wj : ∀ x : Act, Region.wanted oj (yielded ops x.tmps) = true := fun x => by simp [Region.wanted, hgj]
  intro _
  refine ⟨fun q => (by rw [e1] at q; cases q), fun x hx => ?_⟩
  rw [e1] at hx
  rcases List.mem_cons.1 hx with rfl | hx
  · have IH := fun w0 F a hst h => wpAny4_lex (Rel := Rel) (ld := ld) (Cl := Cl) (kd := kd) (Q := Q) (P := P) htr hsp hB hbar hQ C hC hs ((j, oj) :: (k, ok) :: r) (listed.setIfInBounds x true) w0 F a (fun p hp => by
      rcases List.mem_cons.1 hp with q | hp
      · subst q; exact hj
      rcases List.mem_cons.1 hp with q | q
      · subst q; exact hk
      · exact hr p q) e4 (closed_set hB hc ri) hst h
    have hkk : kd x = .some .none := kd_bar hC e2
    unfold op4
    unfold wp4 at h1
    simp only [hi, wi, if_true, hkk] at h1 ⊢
    intro w hw1 hcl hF
    exact (h1 w hw1 hcl hF).imp (Oper.wp_mono fun a' w' ⟨h1, h2⟩ => ⟨h1, IH w' none a' (fun _ _ _ _ _ => trivial) h2⟩) id
  · obtain rfl : x = j := by simpa using hx
    have hkk : kd x = .some .none := kd_bar hC e3
    unfold op4
    simp only [hj, wj, if_true, hkk]
    intro w hw1 hcl hF
    exact (h2 w hw1 hcl hF).imp (Oper.wp_mono fun a' w' ⟨h1, h2⟩ => ⟨h1, fork_any htr hsp hB hbar hQ C hC hs hi hk hr (listed.setIfInBounds x true) w' none a' e5 (closed_set hB hc rj) (fun _ _ _ _ _ => trivial) h2⟩) id
/-- The load yields one value wherever it comes: one walk serves the three orders. -/
theorem tree_load (hQ : ∀ c (a : Act) x v w, Q (.panic c) (a.put x v) w → Q (.panic c) a w) {i j k : Nat} {oi oj ok : Oper} {r : List (Nat × Oper)} {F : Facts} {a : Act} {w : World} {Bk : World → Prop} {c : Value}
    (hj : ops[j]? = .some oj) (hk : ops[k]? = .some ok) (hki : kd i = .some .none) (hkj : kd j = .some .none) (hkk : kd k = .some .none) (hgi : oi.guard = .none) (hgj : oj.guard = .none) (hgk : ok.guard = .none)
    (haj : oi.apart ops oj = true) (hak : oi.apart ops ok = true) (hsi : ∀ cs b, oi.op ≠ .select cs b) (hsj : ∀ cs b, oj.op ≠ .select cs b) (hsk : ∀ cs b, ok.op ≠ .select cs b)
    (hcl : ∀ w, Cl w) (hw : Bk w) (hbk : ∀ w, Bk w → (execOp a.eval oi).run P w = .ok (.value c) w)
    (h : oj.wp P (a.put oi.dst c) w (fun a' w' => Bk w' ∧ ok.wp P a' w' (fun a'' w'' => Bk w'' ∧ wp4 P ops T (· = ·) ld Cl kd Q r w'' none a'') Q) Q) :
    tree6 P ops T (· = ·) ld Cl kd Q i j k oi oj ok r w F a := by
  have wi : ∀ x : Act, Region.wanted oi (yielded ops x.tmps) = true := fun x => by simp [Region.wanted, hgi]
  have wj : ∀ x : Act, Region.wanted oj (yielded ops x.tmps) = true := fun x => by simp [Region.wanted, hgj]
  have wk : ∀ x : Act, Region.wanted ok (yielded ops x.tmps) = true := fun x => by simp [Region.wanted, hgk]
  obtain ⟨_, _, aj3⟩ := Oper.apart_spec haj
  obtain ⟨_, _, ak3⟩ := Oper.apart_spec hak
  constructor
  · refine w4_bar (wi _) hki (fun w' hw' _ _ K hK => ?_)
    subst hw'
    refine owp_run (hbk w hw) (hK _ _ ⟨hcl _, ?_⟩)
    refine w4_bar (wj _) hkj (fun w' hw' _ _ K hK => ?_)
    subst hw'
    refine Oper.wp_mono (fun a' w' ⟨_, h2⟩ => hK _ _ ⟨hcl _, ?_⟩) h
    refine w4_bar (wk _) hkk (fun w'' hw'' _ _ K hK => ?_)
    subst hw''
    exact Oper.wp_mono (fun a'' w'' ⟨_, h3⟩ => hK _ _ ⟨hcl _, h3⟩) h2
  · intro w' hw' _ _
    subst hw'
    refine (wpOp_put4 hj haj hsj (fun c a w q => hQ c a _ _ w q) (.inl h)).imp (Oper.wp_mono ?_) id
    rintro a' w' ⟨⟨u, D, rfl⟩, hb, h2⟩
    have exi : execOp (({ a with defers := D } : Act).put oj.dst u).eval oi = execOp a.eval oi := (execOp_put oi hsi { a with defers := D } oj.dst u aj3).trans rfl
    generalize hA : ({ a with defers := D } : Act).put oj.dst u = A at *
    refine ⟨hcl _, ?_, ?_⟩
    · refine w4_bar (wi _) hki (fun w1 hw1 _ _ K hK => ?_)
      subst hw1
      refine owp_run (by rw [exi]; exact hbk _ hb) (hK _ _ ⟨hcl _, ?_⟩)
      refine w4_bar (wk _) hkk (fun w1 hw1 _ _ K hK => ?_)
      subst hw1
      exact Oper.wp_mono (fun a'' w'' ⟨_, h3⟩ => hK _ _ ⟨hcl _, h3⟩) h2
    · unfold wp4
      rw [if_pos (wk _), hkk]
      intro w1 hw1 _ _
      subst hw1
      refine (wpOp_put4 hk hak hsk (fun c a w q => hQ c a _ _ w q) (.inl h2)).imp (Oper.wp_mono ?_) id
      rintro a'' w'' ⟨⟨u', D', rfl⟩, hb', h3⟩
      have exi2 : execOp (({ A with defers := D' } : Act).put ok.dst u').eval oi = execOp A.eval oi := (execOp_put oi hsi { A with defers := D' } ok.dst u' ak3).trans rfl
      refine ⟨hcl _, ?_⟩
      refine w4_bar (wi _) hki (fun w1 hw1 _ _ K hK => ?_)
      subst hw1
      exact owp_run (by rw [exi2, exi]; exact hbk _ hb') (hK _ _ ⟨hcl _, h3⟩)
theorem tree_load' (hQ : ∀ c (a : Act) x v w, Q (.panic c) (a.put x v) w → Q (.panic c) a w) {i j k : Nat} {oi oj ok : Oper} {r : List (Nat × Oper)} {F : Facts} {a : Act} {w : World} (Bk : World → Prop)
    (hj : ops[j]? = .some oj) (hk : ops[k]? = .some ok) (hki : kd i = .some .none) (hkj : kd j = .some .none) (hkk : kd k = .some .none) (hgi : oi.guard = .none) (hgj : oj.guard = .none) (hgk : ok.guard = .none)
    (haj : oi.apart ops oj = true) (hak : oi.apart ops ok = true) (hsi : ∀ cs b, oi.op ≠ .select cs b) (hsj : ∀ cs b, oj.op ≠ .select cs b) (hsk : ∀ cs b, ok.op ≠ .select cs b)
    (hcl : ∀ w, Cl w) (hw : Bk w)
    (h : ∃ c, (∀ w, Bk w → (execOp a.eval oi).run P w = .ok (.value c) w) ∧ ∀ K : Act → World → Prop, (∀ a' w', Bk w' ∧ (∀ K' : Act → World → Prop, (∀ a'' w'', Bk w'' ∧ wp4 P ops T (· = ·) ld Cl kd Q r w'' none a'' → K' a'' w'') → ok.wp P a' w' K' Q) → K a' w') → oj.wp P (a.put oi.dst c) w K Q) :
    tree6 P ops T (· = ·) ld Cl kd Q i j k oi oj ok r w F a :=
  let ⟨_, h1, h2⟩ := h
  tree_load (Bk := Bk) hQ hj hk hki hkj hkk hgi hgj hgk haj hak hsi hsj hsk hcl hw h1 (h2 _ fun _ _ ⟨q1, q2⟩ => ⟨q1, q2 _ fun _ _ q => q⟩)
end
/-- A region whose order is drawn, up to a load that may come ahead of a call, behind it, or behind what follows the call. -/
theorem wp_region6_eq {P : Program} (T : Array Nat) (Cs Ls : List Nat) (Cl : World → Prop) (p : List Nat) (i j k : Nat) (r : List Nat) {id : Nat} {Q : Exit → Act → World → Prop} {a : Act} {w : World} {l : List Oper} {oi oj ok : Oper} (hm : P.follows .mixedOrders = true)
    (hi : l[i]? = some oi) (hj : l[j]? = some oj) (hk : l[k]? = some ok) (hgi : oi.guard = .none) (hgj : oj.guard = .none)
    (hL : (Region.noSelect l.toArray && (lex5 l.toArray Cs (treeE l.toArray Cs i j k ((inOrd l r).map (·.1))) ((inOrd l p).map (·.1)) (Array.replicate l.length false) && (inOrd l r).length + 3 + (inOrd l p).length == l.length)) = true) (hB : befOk l.toArray T = true) (hb : barB l.toArray T Ls Cs = true)
    (hQ : ∀ c (a : Act) x v w, Q (.panic c) (a.put x v) w → Q (.panic c) a w) (hcl : Cl { w with drawn := w.drawn + 1 })
    (h : wp5 P l.toArray T (· = ·) (fun k => Ls.contains k) Cl (kdOf (Rel := (· = ·)) [] Cs) Q (tree6 P l.toArray T (· = ·) (fun k => Ls.contains k) Cl (kdOf (Rel := (· = ·)) [] Cs) Q i j k oi oj ok (inOrd l r)) (inOrd l p) { w with drawn := w.drawn + 1 } none a) : (Code.region id l.toArray true).wp P Q a w := by
  rw [Bool.and_eq_true, Bool.and_eq_true] at hL
  have hlen : (inOrd l r).length + 3 + (inOrd l p).length = l.length := by simpa using hL.2.2
  have htr : ∀ a b c : World, a = b → b = c → a = c := fun _ _ _ h k => h.trans k
  have hbar : ∀ i j, (isB (kdOf (Rel := (· = ·)) [] Cs) i = true ∨ Ls.contains i = true) → isC (kdOf (Rel := (· = ·)) [] Cs) j = true → bef l.toArray T j i = true ∨ bef l.toArray T i j = true := fun i j hi hj => by
    rw [kdOf_C] at hj
    have h1 := List.all_eq_true.1 hb j (by simpa using hj)
    have h2 := List.all_eq_true.1 h1 i (by
      rcases hi with hi | hi
      · have := kdOf_B [] Cs i hi; cases this
      · simpa using hi)
    simpa using h2
  refine wp_region_any hm (wpAny_of_4 (T := T) (ld := fun k => Ls.contains k) (fun _ => rfl) htr (kdOf_sp [] Cs) _ _ { w with drawn := w.drawn + 1 } none _ _ (fun _ _ _ _ _ => trivial) rfl hcl (fun _ => trivial) ?_)
  have := wpAny5_lex (P := P) (Q := Q) (ld := fun k => Ls.contains k) (Cl := Cl) htr (kdOf_sp [] Cs) hB hbar hQ Cs (kdOf_C [] Cs) hL.1 (treeE l.toArray Cs i j k ((inOrd l r).map (·.1))) (tree6 P l.toArray T (· = ·) (fun k => Ls.contains k) Cl (kdOf (Rel := (· = ·)) [] Cs) Q i j k oi oj ok (inOrd l r)) ((inOrd l r).length + 3)
    (fun listed w0 F a he hc hst h => tree_any htr (kdOf_sp [] Cs) hB hbar hQ Cs (kdOf_C [] Cs) hL.1 (by simpa using hi) (by simpa using hj) (by simpa using hk) inOrd_mem hgi hgj listed w0 F a he hc hst h)
    (inOrd l p) (Array.replicate l.length false) { w with drawn := w.drawn + 1 } none a inOrd_mem hL.2.1 (fun k m hk => by
    exfalso
    by_cases h : k < l.length <;> simp [h] at hk) (fun _ _ _ _ _ => trivial) h
  rw [hlen] at this
  simpa using this
end Go.Proofs.Ytekngjkjgmplpaa.Rg4

namespace Go.Proofs.Ytekngjkjgmplpaa
set_option linter.unusedSimpArgs false
set_option linter.unusedVariables false
open Go Go.RowKit
def mgM (d : MsgT) (v : Value) (M : List It) : Prop := ∃ wa wc sa sc ss, v = mgV ⟨d.k, d.p, d.e, d.nm, wa, d.wn, wc, d.ws, sa, d.sn, sc, ss⟩ ∧ ss.map stripS = d.ss ∧ ((d.wn ≤ wc ∧ wc ≤ maxLen) ∧ (d.sn ≤ sc ∧ sc ≤ maxLen)) ∧ M = [flI wa d.wn d.ws, flI sa d.sn ss, sgsI ss]
theorem Own.nilFl {fr al : Nat → Prop} {w0 w : World} {L : List It} {α : Type} [Flt α] (st : Own fr al w0 L w) : Own fr al w0 (L ++ [flI none 0 ([] : List α)]) w := st.bare ⟨Fl.nil _ _, fun h => by omega⟩
theorem shAt_strip (l : List SgnT) (j : Nat) : shAt (l.map stripS) j = shAt l j := by
  unfold shAt
  rw [List.getElem?_map, List.getElem?_map]
  cases l[j]? with
  | none => rfl
  | some x =>
    simp only [Option.map_some]
    cases l[j - 1]? with
    | none => rfl
    | some y => rfl
theorem showsR_strip (l : List SgnT) : showsR (l.map stripS) = showsR l := by
  unfold showsR
  rw [List.length_map]
  congr 2
  exact funext (shAt_strip l)
theorem mgR_turn (wa : Option Addr) (wn wc : Nat) (ws : List Role) (sa : Option Addr) (sn sc : Nat) (ss : List SgnT) : mgR ⟨2, 0, 0, [], wa, wn, wc, ws, sa, sn, sc, ss⟩ = (wantsR ws && showsR ss) := by
  unfold mgR bareMg kindR sameMg
  simp [sameSs_refl]
theorem sgnInfo : ∃ i, Try.prog.info? 35 = some i ∧ i.zero = some (sgV ⟨⟨0, ([], []), [], ([], []), ([], []), []⟩, none, 0, 0, []⟩) ∧ i.size = 10 ∧ i.bytes = 160 := info_parts (by kernel_rfl)
theorem rdN_map {α : Type} (f : List UInt8 → Except Int (α × List UInt8)) (l : List α) : l.map id = l := List.map_id l
set_option maxRecDepth 100000 in
set_option maxHeartbeats 16000000 in
theorem msgGet_c {fr al : Nat → Prop} {W : World} {r : Nat} {xs : List UInt8} (st : Own fr al W [rdI r xs] W) (hl : xs.length ≤ 100000) :
    Calls Try.prog 155 #[.pointer (some ⟨r, 0, none⟩)] W (RdC fr al W r (rdMg xs) mgM) := by
  go_enter Try.func155, Try.ntmps155
  go_wp2_with ((((with_reducible refine wl_alloc ?_ (fun K hK => ?_)); rfl; refine owp_alloc (o := ⟨some 2, _, _, _, _, _⟩) rfl st ?_; apply Exists.intro; apply Exists.intro; refine ⟨?_, ?_⟩; (focus (first | (go_simp; done) | (go_simp; rfl))); (clear st; intro b2 w hb st; clear hb))); (try simp only [nsl, Value.cells, unB] at st); (try clear hc); have hc := st.facts; (try simp only [nfl, nft, Nat.reduceAdd] at hc))
  obtain ⟨fr', al', st', back⟩ := st.sub [0] (by decide) (by simp)
  (try simp only [nsl, Value.cells, unB] at st')
  refine (number_c st' 9223372036854775807).mono ?_
  clear st'
  intro en w hen
  unfold RdC at hen
  cases hr : rdNumber 9223372036854775807 xs with
  | error e =>
    rw [hr] at hen
    obtain ⟨rfl, st'⟩ := hen
    replace st := back _ _ (by simp) st'
    clear back st'
    (try simp only [nsl, Value.cells, unB] at st)
    (try clear hc); have hc := st.facts; (try simp only [nfl, nft, Nat.reduceAdd] at hc)
    have H1 : Hid (rdMg xs = .error e) := Lib.hid (by simp [rdMg, hr, bdm])
    clear hr
    go_wp2_with fail
    refine ⟨rfl, ?_⟩
    unfold RdC
    rw [H1.out]
    have st' := st.keep [0] (by decide) (by simp)
    exact ⟨rfl, by simpa [pick] using st'⟩
  | ok p =>
    obtain ⟨k, ys⟩ := p
    have hl1 := rdNumber_leM hr
    rw [hr] at hen
    obtain ⟨v, M, rfl, ⟨rfl, rfl⟩, st'⟩ := hen
    replace st := back _ _ (by simp) st'
    clear back st'
    (try simp only [nsl, Value.cells, unB] at st)
    (try clear hc); have hc := st.facts; (try simp only [nfl, nft, Nat.reduceAdd] at hc)
    have HR1 := Lib.hid hr
    clear hr
    by_cases k1 : k = 1
    · subst k1
      go_wp2_with ((first
            | ((with_reducible refine wl_alloc ?_ (fun K hK => ?_)); rfl; refine owp_alloc (o := ⟨some 3, _, _, _, _, _⟩) rfl st ?_; apply Exists.intro; apply Exists.intro; refine ⟨?_, ?_⟩; (focus (first | (go_simp; done) | (go_simp; rfl))); (clear st; intro b3 w hb st; clear hb))
            | ((with_reducible refine wl_store ?_ (fun K hK => ?_)); rfl; refine owp_store rfl st ?_; apply Exists.intro; apply Exists.intro; refine ⟨?_, ?_, ?_⟩; (focus (go_simp; try rfl)); (focus (go_simp; try rfl)); (with_reducible refine ⟨2, _, _, _, _, get2, rfl, rfl, ?_, ?_, ?_, ?_⟩); (kernel_rfl); (simp [Value.cells]); (rfl); (clear st; intro w st))); (try simp only [nsl, Value.cells, unB] at st); (try clear hc); have hc := st.facts; (try simp only [nfl, nft, Nat.reduceAdd] at hc))
      obtain ⟨fr', al', st', back⟩ := st.sub [0] (by decide) (by simp)
      (try simp only [nsl, Value.cells, unB] at st')
      refine (nameGet_c st' (by omega)).mono ?_
      clear st'
      intro en w hen
      unfold RdC at hen
      cases hr : rdName ys with
      | error e =>
        rw [hr] at hen
        obtain ⟨rfl, st'⟩ := hen
        replace st := back _ _ (by simp) st'
        clear back st'
        (try simp only [nsl, Value.cells, unB] at st)
        (try clear hc); have hc := st.facts; (try simp only [nfl, nft, Nat.reduceAdd] at hc)
        have H1 : Hid (rdMg xs = .error e) := Lib.hid (by simp [rdMg, HR1.out, hr, bdm])
        clear hr
        go_wp2_with fail
        refine ⟨rfl, ?_⟩
        unfold RdC
        rw [H1.out]
        have st' := st.keep [0] (by decide) (by simp)
        exact ⟨rfl, by simpa [pick] using st'⟩
      | ok p =>
        obtain ⟨nm, zs⟩ := p
        have hl2 := rdName_le hr
        have hl2b := (nameR_len hl2.2).2
        rw [hr] at hen
        obtain ⟨v, M, rfl, ⟨rfl, rfl⟩, st'⟩ := hen
        replace st := back _ _ (by simp) st'
        clear back st'
        (try simp only [nsl, Value.cells, unB] at st)
        (try clear hc); have hc := st.facts; (try simp only [nfl, nft, Nat.reduceAdd] at hc)
        have HR2 := Lib.hid hr
        clear hr
        unfold S
        go_wp2_with ((((with_reducible refine wl_store ?_ (fun K hK => ?_)); rfl; refine owp_store rfl st ?_; apply Exists.intro; apply Exists.intro; refine ⟨?_, ?_, ?_⟩; (focus (go_simp; try rfl)); (focus (go_simp; try rfl)); (with_reducible refine ⟨2, _, _, _, _, get2, rfl, rfl, ?_, ?_, ?_, ?_⟩); (kernel_rfl); (simp [Value.cells]); (rfl); (clear st; intro w st))); (try simp only [nsl, Value.cells, unB] at st); (try clear hc); have hc := st.facts; (try simp only [nfl, nft, Nat.reduceAdd] at hc))
        obtain ⟨fr', al', st', back⟩ := st.sub [0] (by decide) (by simp)
        (try simp only [nsl, Value.cells, unB] at st')
        refine (number_c st' 2).mono ?_
        clear st'
        intro en w hen
        unfold RdC at hen
        cases hr : rdNumber 2 zs with
        | error e =>
          rw [hr] at hen
          obtain ⟨rfl, st'⟩ := hen
          replace st := back _ _ (by simp) st'
          clear back st'
          (try simp only [nsl, Value.cells, unB] at st)
          (try clear hc); have hc := st.facts; (try simp only [nfl, nft, Nat.reduceAdd] at hc)
          have H1 : Hid (rdMg xs = .error e) := Lib.hid (by simp [rdMg, HR1.out, HR2.out, hr, bdm])
          clear hr
          go_wp2_with fail
          refine ⟨rfl, ?_⟩
          unfold RdC
          rw [H1.out]
          have st' := st.keep [0] (by decide) (by simp)
          exact ⟨rfl, by simpa [pick] using st'⟩
        | ok p =>
          obtain ⟨pl, us⟩ := p
          rw [hr] at hen
          obtain ⟨v, M, rfl, ⟨rfl, rfl⟩, st'⟩ := hen
          replace st := back _ _ (by simp) st'
          clear back st'
          (try simp only [nsl, Value.cells, unB] at st)
          (try clear hc); have hc := st.facts; (try simp only [nfl, nft, Nat.reduceAdd] at hc)
          have HR3 := Lib.hid hr
          clear hr
          have HQ := Lib.hid (fun W => msgRight_any (mg0 1 pl 0 nm) W (mg0_ok W _ _ _ _) (mg0_L (by first | omega | simp)))
          unfold mgV mg0 S at HQ
          simp only at HQ
          go_wp2_with ((((with_reducible refine wl_store ?_ (fun K hK => ?_)); rfl; refine owp_store rfl st ?_; apply Exists.intro; apply Exists.intro; refine ⟨?_, ?_, ?_⟩; (focus (go_simp; try rfl)); (focus (go_simp; try rfl)); (with_reducible refine ⟨2, _, _, _, _, get2, rfl, rfl, ?_, ?_, ?_, ?_⟩); (kernel_rfl); (simp [Value.cells]); (rfl); (clear st; intro w st))); (try simp only [nsl, Value.cells, unB] at st); (try clear hc); have hc := st.facts; (try simp only [nfl, nft, Nat.reduceAdd] at hc))
          refine (HQ.out _).mono ?_
          rintro en w ⟨rfl, hx⟩
          replace st := st.ext hx
          clear hx
          cases hmr : mgR (mg0 1 pl 0 nm) with
          | true =>
            have H1 : Hid (rdMg xs = .ok ((mg0 1 pl 0 nm), us)) := Lib.hid (by simp [rdMg, HR1.out, HR2.out, HR3.out, bdm, okMg, hmr])
            have hmr2 := hmr
            unfold mg0 at hmr2
            rw [hmr2]
            clear hmr hmr2 HQ
            (try simp only [nsl, Value.cells, unB] at st)
            (try clear hc); have hc := st.facts; (try simp only [nfl, nft, Nat.reduceAdd] at hc)
            go_wp2_with ((((with_reducible refine wl_store ?_ (fun K hK => ?_)); rfl; refine owp_store rfl st ?_; apply Exists.intro; apply Exists.intro; refine ⟨?_, ?_, ?_⟩; (focus (go_simp; try rfl)); (focus (go_simp; try rfl)); (with_reducible refine ⟨1, _, _, _, _, get1, rfl, rfl, ?_, ?_, ?_, ?_⟩); (kernel_rfl); (simp [Value.cells]); (rfl); (clear st; intro w st))); (try simp only [nsl, Value.cells, unB] at st); (try clear hc); have hc := st.facts; (try simp only [nfl, nft, Nat.reduceAdd] at hc))
            (try simp only [Exit.inBlock, Exit.then])
            refine bodyPost_cell rfl rfl (st.blk (i := 1) get1) Try.underlying111 rfl (by kernel_rfl) rfl ?_
            unfold RdC
            rw [H1.out]
            have st' := (((st.keep [0] (by decide) (by simp)).nilFl (α := Role)).nilFl (α := SgnT)).noSgs
            exact ⟨_, _, rfl, ⟨none, 0, none, 0, [], rfl, rfl, ⟨⟨Nat.le_refl _, by simp [maxLen]⟩, ⟨Nat.le_refl _, by simp [maxLen]⟩⟩, rfl⟩, by simpa [pick, mg0] using st'⟩
          | false =>
            have H1 : Hid (rdMg xs = .error 11) := Lib.hid (by simp [rdMg, HR1.out, HR2.out, HR3.out, bdm, okMg, hmr])
            have hmr2 := hmr
            unfold mg0 at hmr2
            rw [hmr2]
            clear hmr hmr2 HQ
            (try simp only [nsl, Value.cells, unB] at st)
            (try clear hc); have hc := st.facts; (try simp only [nfl, nft, Nat.reduceAdd] at hc)
            obtain ⟨_, sq, ⟨_, hrd⟩, _⟩ := st.get (i := 0) (I := rdI r us) get0
            have HRD := Lib.hid hrd.any
            clear hrd
            go_wp2_with fail
            refine (fail_any _ r 11 HRD.out (by decide)).mono ?_
            rintro en w' ⟨rfl, rfl⟩
            go_wp2_with fail
            refine ⟨rfl, ?_⟩
            unfold RdC
            rw [H1.out]
            have st' := (st.rdAny (i := 0) get0).keep [0] (by decide) (by simp)
            exact ⟨rfl, by simpa [pick] using st'⟩
    by_cases k2 : k = 2
    · subst k2
      clear k1
      go_wp2_with ((first
            | ((with_reducible refine wl_alloc ?_ (fun K hK => ?_)); rfl; refine owp_alloc (o := ⟨some 3, _, _, _, _, _⟩) rfl st ?_; apply Exists.intro; apply Exists.intro; refine ⟨?_, ?_⟩; (focus (first | (go_simp; done) | (go_simp; rfl))); (clear st; intro b3 w hb st; clear hb))
            | ((with_reducible refine wl_store ?_ (fun K hK => ?_)); rfl; refine owp_store rfl st ?_; apply Exists.intro; apply Exists.intro; refine ⟨?_, ?_, ?_⟩; (focus (go_simp; try rfl)); (focus (go_simp; try rfl)); (with_reducible refine ⟨2, _, _, _, _, get2, rfl, rfl, ?_, ?_, ?_, ?_⟩); (kernel_rfl); (simp [Value.cells]); (rfl); (clear st; intro w st))); (try simp only [nsl, Value.cells, unB] at st); (try clear hc); have hc := st.facts; (try simp only [nfl, nft, Nat.reduceAdd] at hc))
      obtain ⟨fr', al', st', back⟩ := st.sub [0] (by decide) (by simp)
      (try simp only [nsl, Value.cells, unB] at st')
      refine (number_c st' 16).mono ?_
      clear st'
      intro en w hen
      unfold RdC at hen
      cases hr : rdNumber 16 ys with
      | error e =>
        rw [hr] at hen
        obtain ⟨rfl, st'⟩ := hen
        replace st := back _ _ (by simp) st'
        clear back st'
        (try simp only [nsl, Value.cells, unB] at st)
        (try clear hc); have hc := st.facts; (try simp only [nfl, nft, Nat.reduceAdd] at hc)
        have H1 : Hid (rdMg xs = .error e) := Lib.hid (by simp [rdMg, HR1.out, hr, bdm])
        clear hr
        go_wp2_with fail
        refine ⟨rfl, ?_⟩
        unfold RdC
        rw [H1.out]
        have st' := st.keep [0] (by decide) (by simp)
        exact ⟨rfl, by simpa [pick] using st'⟩
      | ok p =>
        obtain ⟨n, zs⟩ := p
        have hl2 := rdNumber_leM hr
        rw [hr] at hen
        obtain ⟨v, M, rfl, ⟨rfl, rfl⟩, st'⟩ := hen
        replace st := back _ _ (by simp) st'
        clear back st'
        (try simp only [nsl, Value.cells, unB] at st)
        (try clear hc); have hc := st.facts; (try simp only [nfl, nft, Nat.reduceAdd] at hc)
        have HR2 := Lib.hid hr
        clear hr
        have hn : n ≤ 16 := by omega
        replace st := st.row_nil 30 2
        (try simp only [nsl, Value.cells, unB] at st)
        (try clear hc); have hc := st.facts; (try simp only [nfl, nft, Nat.reduceAdd] at hc)
        go_wp2_with fail
        go_loopg [21] n (fun kk i wr => ∃ (j : Nat) (out : List Role) (us : List UInt8) (va : Option Addr) (vc : Nat), j ≤ n ∧ kk = n - j ∧ i = .int .i64 (j : Int) ∧ Hid (rdN rdRole n zs = addN out (rdN rdRole (n - j) us)) ∧ Hid (j = out.length ∧ ∀ x ∈ out, roleR x = true) ∧ us.length ≤ 100000 ∧ Own fr al W [rdI r us, blkI b2 [.int .i64 0, .int .i64 0, .int .i64 0, .string ⟨#[]⟩, .slice none 0 0, .slice none 0 0], blkI b3 [.int .i64 2, .int .i64 0, .int .i64 0, .string ⟨#[]⟩, .slice va j vc, .slice none 0 0], rowI 30 2 (.slice va j vc) j (cellsL out)] wr)
        case atStart => exact ⟨0, [], zs, none, 0, by omega, by omega, rfl, Lib.hid (by rw [addN_nil]; rfl), Lib.hid ⟨rfl, by simp⟩, by omega, st⟩
        case round =>
          obtain ⟨j, out, us, va, vc, hj, rfl, rfl, HT, HJ, hul, st'⟩ := hrel
          clear st hc
          have st := st'
          clear st'
          (try simp only [nsl, Value.cells, unB] at st)
          (try clear hc); have hc := st.facts; (try simp only [nfl, nft, Nat.reduceAdd] at hc)
          by_cases hjn : j < n
          · obtain ⟨q, hq⟩ : ∃ q, n - j = q + 1 := ⟨n - j - 1, by omega⟩
            rw [hq] at HT
            have hq2 : n - (j + 1) = q := by omega
            clear hq
            go_wp2_with fail
            refine Rg4.wp_region6_eq #[0, 1, 0, 4, 12, 31, 63, 127] [1, 3, 4, 5, 7] [] (fun _ => True) [0, 2] 1 3 4 [5, 6, 7] (by kernel_rfl) (by rfl) (by rfl) (by rfl) (by rfl) (by rfl) (by kernel_rfl) (by kernel_rfl) (by kernel_rfl) (show Rg4.PB _ by repeat (first | with_reducible exact Rg4.pb_body | with_reducible exact Rg4.pb_bodyD rfl | with_reducible refine Rg4.pb_then ?_ | with_reducible refine Rg4.pb_inBlock ?_ | with_reducible refine Rg4.pb_noGoto ?_)) trivial ?_
            replace st := st.drew
            change Rg4.wp5 _ _ _ _ _ _ _ _ _ _ (World.drew _) _ _
            generalize World.drew _ = w at st ⊢
            (try clear hc); have hc := st.facts; (try simp only [nfl, nft, Nat.reduceAdd] at hc)
            iterate 2 (refine Rg4.w5_any (Rg4.want_none rfl) rfl ?_; apply Exists.intro; refine ⟨fun w' => ?_, ?_⟩; (focus (first | (go_simp; done) | (go_simp; first | rfl | (rw [if_neg] <;> first | rfl | omega) | (rw [if_pos] <;> first | rfl | omega)))); (try simp only [Rg4.nrm]))
            refine Rg4.w5_end ?_
            refine Rg4.tree_load' (show Rg4.PB _ by repeat (first | with_reducible exact Rg4.pb_body | with_reducible exact Rg4.pb_bodyD rfl | with_reducible refine Rg4.pb_then ?_ | with_reducible refine Rg4.pb_inBlock ?_ | with_reducible refine Rg4.pb_noGoto ?_)) (fun W' => Blk W' b3 [.int .i64 2, .int .i64 0, .int .i64 0, .string ⟨#[]⟩, .slice va j vc, .slice none 0 0]) (by rfl) (by rfl) rfl rfl rfl rfl rfl rfl (by kernel_rfl) (by kernel_rfl) nofun nofun nofun (fun _ => trivial) (st.blk (i := 2) get2) ?_
            apply Exists.intro; refine ⟨fun w' hcl => ?_, ?_⟩; (focus (have q4 := Blk.cell hcl 4; (try simp at q4); (focus (first | (go_simp; done) | (go_simp; first | rfl | (rw [if_neg] <;> first | rfl | omega) | (rw [if_pos] <;> first | rfl | omega)))))); (try simp only [Rg4.nrm])
            intro K hK
            go_wp2_with fail
            obtain ⟨fr', al', st', back⟩ := st.sub [0] (by decide) (by simp)
            (try simp only [nsl, Value.cells, unB] at st')
            refine (roleGet_c st' (by omega)).mono ?_
            clear st'
            intro en w hen
            unfold RdC at hen
            cases hr : rdRole us with
            | error e =>
              rw [hr] at hen
              obtain ⟨rfl, st'⟩ := hen
              replace st := back _ _ (by simp) st'
              clear back st'
              (try simp only [nsl, Value.cells, unB] at st)
              (try clear hc); have hc := st.facts; (try simp only [nfl, nft, Nat.reduceAdd] at hc)
              have H1 : Hid (rdMg xs = .error e) := Lib.hid (by simp [rdMg, HR1.out, HR2.out, HT.out, addN_er rdRole out q hr, bdm])
              clear hr
              go_wp2_with fail
              refine ⟨rfl, ?_⟩
              unfold RdC
              rw [H1.out]
              have st' := st.keep [0] (by decide) (by simp)
              exact ⟨rfl, by simpa [pick] using st'⟩
            | ok p =>
              obtain ⟨⟨ro, rd⟩, ts⟩ := p
              rw [hr] at hen
              obtain ⟨v, M, rfl, ⟨rfl, rfl⟩, st'⟩ := hen
              replace st := back _ _ (by simp) st'
              clear back st'
              (try simp only [nsl, Value.cells, unB] at st)
              (try clear hc); have hc := st.facts; (try simp only [nfl, nft, Nat.reduceAdd] at hc)
              have hl3 := rdRole_le hr
              have H1 : Hid (rdN rdRole n zs = addN (out ++ [(ro, rd)]) (rdN rdRole q ts)) := Lib.hid (by rw [HT.out]; exact addN_ok rdRole _ _ hr)
              have HRO := Lib.hid hl3.2
              clear hr
              unfold rV S
              refine hK _ _ ⟨st.blk (i := 2) get2, ?_⟩
              clear K hK
              intro K hK
              (try simp only [Rg4.nrm])
              (refine owp_buildSlice (o := ⟨some 27, _, _, _, _, _⟩) rfl st ?_; apply Exists.intro; apply Exists.intro; apply Exists.intro; apply Exists.intro; refine ⟨?_, ?_⟩; (focus (go_simp; (first | done | exact ⟨⟨rfl, rfl⟩, rfl⟩ | rfl))); (clear st; intro b27 w hb st; clear hb); (try simp only [nsl, Value.cells, unB] at st); (try clear hc); have hc := st.facts; (try simp only [nfl, nft, Nat.reduceAdd] at hc))
              refine hK _ _ ⟨st.blk (i := 2) get2, ?_⟩
              clear K hK
              (try simp only [Rg4.nrm])

              refine Rg4.w4_bar (Rg4.want_none rfl) rfl (fun w' hw' hcl _ K hK => ?_)
              subst hw'
              obtain ⟨inf, hinf, hz0, hz1, hz2⟩ := roleInfo
              refine owp_append rfl st 3 get3 Try.underlying109 hinf hz0 hz1 hz2 rfl (by decide) rfl rfl ((st.blk (i := 4) get4).flat rfl) (by simp [Value.oneCell']) (by simp only [maxLen]; omega) (by omega) ?_
              clear hinf hz0 hz1 hz2 inf
              clear st
              intro v' w st
              obtain ⟨va', vc', rfl⟩ := own_slice (st.row (i := 3) get3)
              (try simp only [nsl, Value.cells, unB] at st)
              (try clear hc); have hc := st.facts; (try simp only [nfl, nft, Nat.reduceAdd] at hc)
              refine hK _ _ ⟨trivial, ?_⟩
              clear hK
              (try simp only [Rg4.nrm])
              (refine Rg4.w4_any (Rg4.want_none rfl) rfl ?_; apply Exists.intro; refine ⟨fun w' => ?_, ?_⟩; (focus (first | (go_simp; done) | (go_simp; first | rfl | (rw [if_neg] <;> first | rfl | omega) | (rw [if_pos] <;> first | rfl | omega)))); (try simp only [Rg4.nrm]))
              (refine Rg4.w4_bar (Rg4.want_none rfl) rfl (fun w' hw' hcl' _ K hK => ?_); subst hw'; (refine owp_store rfl st ?_; apply Exists.intro; apply Exists.intro; refine ⟨?_, ?_, ?_⟩; (focus (go_simp; try rfl)); (focus (go_simp; try rfl)); (with_reducible refine ⟨2, _, _, _, _, get2, rfl, rfl, ?_, ?_, ?_, ?_⟩); (kernel_rfl); (simp [Value.cells]); (rfl); (clear st; intro w st); (try simp only [nsl, Value.cells, unB] at st); (try clear hc); have hc := st.facts; (try simp only [nfl, nft, Nat.reduceAdd] at hc)); refine hK _ _ ⟨trivial, ?_⟩; (try simp only [Rg4.nrm]))
              refine Rg4.w4_nil (fun w' hw' hcl' _ => ?_); subst hw'; clear hcl'
              go_wp2_with fail
              have st' := st.keep [0, 1, 2, 3] (by decide) (by simp)
              go_roundg (n - (j + 1))
              case measure => omega
              case rel =>
                refine ⟨j + 1, out ++ [(ro, rd)], ts, va', vc', by omega, by omega, by go_num, by rw [hq2]; exact H1, Lib.hid ⟨by simp [HJ.out.1], fun x hx => by
                  rcases List.mem_append.1 hx with z | z
                  · exact HJ.out.2 x z
                  · rw [List.mem_singleton.1 z]; exact HRO.out⟩, by omega, ?_⟩
                rw [cellsL_append, cellsL_one']
                exact st'
          · obtain rfl : j = n := by omega
            have HW : Hid (rdN rdRole j zs = .ok (out, us)) := Lib.hid (by rw [HT.out, Nat.sub_self]; exact addN_end rdRole _ _)
            clear HT
            go_wp2_with fail
            obtain ⟨fr', al', st', back⟩ := st.sub [0] (by decide) (by simp)
            (try simp only [nsl, Value.cells, unB] at st')
            refine (number_c st' 8).mono ?_
            clear st'
            intro en w hen
            unfold RdC at hen
            cases hr : rdNumber 8 us with
            | error e =>
              rw [hr] at hen
              obtain ⟨rfl, st'⟩ := hen
              replace st := back _ _ (by simp) st'
              clear back st'
              (try simp only [nsl, Value.cells, unB] at st)
              (try clear hc); have hc := st.facts; (try simp only [nfl, nft, Nat.reduceAdd] at hc)
              have H1 : Hid (rdMg xs = .error e) := Lib.hid (by simp [rdMg, HR1.out, HR2.out, HW.out, hr, bdm])
              clear hr
              go_wp2_with fail
              refine ⟨rfl, ?_⟩
              unfold RdC
              rw [H1.out]
              have st' := st.keep [0] (by decide) (by simp)
              exact ⟨rfl, by simpa [pick] using st'⟩
            | ok p =>
              obtain ⟨m, vs⟩ := p
              have hl3 := rdNumber_leM hr
              rw [hr] at hen
              obtain ⟨v, M, rfl, ⟨rfl, rfl⟩, st'⟩ := hen
              replace st := back _ _ (by simp) st'
              clear back st'
              (try simp only [nsl, Value.cells, unB] at st)
              (try clear hc); have hc := st.facts; (try simp only [nfl, nft, Nat.reduceAdd] at hc)
              have HR3 := Lib.hid hr
              clear hr
              have hm : m ≤ 8 := by omega
              replace st := (st.row_nil 35 10).noSgs
              (try simp only [nsl, Value.cells, unB] at st)
              (try clear hc); have hc := st.facts; (try simp only [nfl, nft, Nat.reduceAdd] at hc)
              go_wp2_with fail
              go_loopg [33] m (fun kk i wr => ∃ (q : Nat) (sl : List SgnT) (ts : List UInt8) (ta : Option Addr) (tc : Nat), q ≤ m ∧ kk = m - q ∧ i = .int .i64 (q : Int) ∧ Hid (rdN rdSg m vs = addN (sl.map stripS) (rdN rdSg (m - q) ts)) ∧ Hid (q = sl.length ∧ ∀ x ∈ sl, (credR x.c = true ∧ x.n = 8) ∧ (x.n ≤ x.m ∧ x.m ≤ maxLen)) ∧ ts.length ≤ 100000 ∧ Own fr al W [rdI r ts, blkI b2 [.int .i64 0, .int .i64 0, .int .i64 0, .string ⟨#[]⟩, .slice none 0 0, .slice none 0 0], blkI b3 [.int .i64 2, .int .i64 0, .int .i64 0, .string ⟨#[]⟩, .slice va j vc, .slice ta q tc], rowI 30 2 (.slice va j vc) j (cellsL out), rowI 35 10 (.slice ta q tc) q (cellsL sl), sgsI sl] wr)
              case atStart => exact ⟨0, [], vs, none, 0, by omega, by omega, rfl, Lib.hid (by rw [List.map_nil, addN_nil]; rfl), Lib.hid ⟨rfl, by simp⟩, by omega, st⟩
              case round =>
                obtain ⟨q, sl, ts, ta, tc, hq, rfl, rfl, HT, HQJ, htl, st'⟩ := hrel
                clear st hc
                have st := st'
                clear st'
                (try simp only [nsl, Value.cells, unB] at st)
                (try clear hc); have hc := st.facts; (try simp only [nfl, nft, Nat.reduceAdd] at hc)
                by_cases hqn : q < m
                · obtain ⟨d, hd⟩ : ∃ d, m - q = d + 1 := ⟨m - q - 1, by omega⟩
                  rw [hd] at HT
                  have hd2 : m - (q + 1) = d := by omega
                  clear hd
                  go_wp2_with fail
                  refine Rg4.wp_region6_eq #[0, 1, 0, 4, 12, 31, 63, 127] [1, 3, 4, 5, 7] [] (fun _ => True) [0, 2] 1 3 4 [5, 6, 7] (by kernel_rfl) (by rfl) (by rfl) (by rfl) (by rfl) (by rfl) (by kernel_rfl) (by kernel_rfl) (by kernel_rfl) (show Rg4.PB _ by repeat (first | with_reducible exact Rg4.pb_body | with_reducible exact Rg4.pb_bodyD rfl | with_reducible refine Rg4.pb_then ?_ | with_reducible refine Rg4.pb_inBlock ?_ | with_reducible refine Rg4.pb_noGoto ?_)) trivial ?_
                  replace st := st.drew
                  change Rg4.wp5 _ _ _ _ _ _ _ _ _ _ (World.drew _) _ _
                  generalize World.drew _ = w at st ⊢
                  (try clear hc); have hc := st.facts; (try simp only [nfl, nft, Nat.reduceAdd] at hc)
                  iterate 2 (refine Rg4.w5_any (Rg4.want_none rfl) rfl ?_; apply Exists.intro; refine ⟨fun w' => ?_, ?_⟩; (focus (first | (go_simp; done) | (go_simp; first | rfl | (rw [if_neg] <;> first | rfl | omega) | (rw [if_pos] <;> first | rfl | omega)))); (try simp only [Rg4.nrm]))
                  refine Rg4.w5_end ?_
                  refine Rg4.tree_load' (show Rg4.PB _ by repeat (first | with_reducible exact Rg4.pb_body | with_reducible exact Rg4.pb_bodyD rfl | with_reducible refine Rg4.pb_then ?_ | with_reducible refine Rg4.pb_inBlock ?_ | with_reducible refine Rg4.pb_noGoto ?_)) (fun W' => Blk W' b3 [.int .i64 2, .int .i64 0, .int .i64 0, .string ⟨#[]⟩, .slice va j vc, .slice ta q tc]) (by rfl) (by rfl) rfl rfl rfl rfl rfl rfl (by kernel_rfl) (by kernel_rfl) nofun nofun nofun (fun _ => trivial) (st.blk (i := 2) get2) ?_
                  apply Exists.intro; refine ⟨fun w' hcl => ?_, ?_⟩; (focus (have q5 := Blk.cell hcl 5; (try simp at q5); (focus (first | (go_simp; done) | (go_simp; first | rfl | (rw [if_neg] <;> first | rfl | omega) | (rw [if_pos] <;> first | rfl | omega)))))); (try simp only [Rg4.nrm])
                  intro K hK
                  go_wp2_with fail
                  obtain ⟨fr', al', st', back⟩ := st.sub [0] (by decide) (by simp)
                  (try simp only [nsl, Value.cells, unB] at st')
                  refine (keysGet_c st' (by omega)).mono ?_
                  clear st'
                  intro en w hen
                  unfold RdC at hen
                  cases hr : rdSg ts with
                  | error e =>
                    rw [hr] at hen
                    obtain ⟨rfl, st'⟩ := hen
                    replace st := back _ _ (by simp) st'
                    clear back st'
                    (try simp only [nsl, Value.cells, unB] at st)
                    (try clear hc); have hc := st.facts; (try simp only [nfl, nft, Nat.reduceAdd] at hc)
                    have H1 : Hid (rdMg xs = .error e) := Lib.hid (by simp [rdMg, HR1.out, HR2.out, HW.out, HR3.out, HT.out, addN_er rdSg (sl.map stripS) d hr, bdm])
                    clear hr
                    go_wp2_with fail
                    refine ⟨rfl, ?_⟩
                    unfold RdC
                    rw [H1.out]
                    have st' := st.keep [0] (by decide) (by simp)
                    exact ⟨rfl, by simpa [pick] using st'⟩
                  | ok p =>
                    obtain ⟨x, us2⟩ := p
                    rw [hr] at hen
                    obtain ⟨v, M, rfl, ⟨xa, xm, rfl, hxm, rfl⟩, st'⟩ := hen
                    replace st := back _ _ (by simp) st'
                    clear back st'
                    (try simp only [nsl, Value.cells, unB] at st)
                    (try clear hc); have hc := st.facts; (try simp only [nfl, nft, Nat.reduceAdd] at hc)
                    have hl4 := rdSg_le hr
                    have hcr := rdSg_cr hr
                    have hsx : stripS ⟨x.c, xa, 8, xm, x.xs⟩ = x := rdSg_strip hr xa xm
                    have H1 : Hid (rdN rdSg m vs = addN ((sl ++ [(⟨x.c, xa, 8, xm, x.xs⟩ : SgnT)]).map stripS) (rdN rdSg d us2)) := Lib.hid (by rw [HT.out, List.map_append, List.map_cons, List.map_nil, hsx]; exact addN_ok rdSg _ _ hr)
                    have HCR := Lib.hid hcr
                    clear hr hcr hsx
                    replace st := st.moreSgs (i := 5) (j := 6) (x := ⟨x.c, xa, 8, xm, x.xs⟩) get5 get6 hxm
                    have st9 := st.keep [0, 1, 2, 3, 4, 7] (by decide) (by simp)
                    clear st
                    have st := st9
                    clear st9
                    obtain ⟨⟨ck, ⟨ho, hd⟩, cw, ⟨bo, bd'⟩, ⟨co, cd⟩, we⟩, xa0, xn0, xm0, tg⟩ := x
                    unfold sgV S
                    simp only at st H1 HCR ⊢
                    (try simp only [nsl, Value.cells, unB] at st)
                    (try clear hc); have hc := st.facts; (try simp only [nfl, nft, Nat.reduceAdd] at hc)
                    refine hK _ _ ⟨st.blk (i := 2) get2, ?_⟩
                    clear K hK
                    intro K hK
                    (try simp only [Rg4.nrm])
                    (refine owp_buildSlice (o := ⟨some 39, _, _, _, _, _⟩) rfl st ?_; apply Exists.intro; apply Exists.intro; apply Exists.intro; apply Exists.intro; refine ⟨?_, ?_⟩; (focus (go_simp; (first | done | exact ⟨⟨rfl, rfl⟩, rfl⟩ | rfl))); (clear st; intro b39 w hb st; clear hb); (try simp only [nsl, Value.cells, unB] at st); (try clear hc); have hc := st.facts; (try simp only [nfl, nft, Nat.reduceAdd] at hc))
                    refine hK _ _ ⟨st.blk (i := 2) get2, ?_⟩
                    clear K hK
                    (try simp only [Rg4.nrm])

                    refine Rg4.w4_bar (Rg4.want_none rfl) rfl (fun w' hw' hcl _ K hK => ?_)
                    subst hw'
                    obtain ⟨inf, hinf, hz0, hz1, hz2⟩ := sgnInfo
                    refine owp_append rfl st 4 get4 Try.underlying45 hinf hz0 hz1 hz2 rfl (by decide) rfl rfl ((st.blk (i := 6) get6).flat rfl) (by simp [Value.oneCell']) (by simp only [maxLen]; omega) (by omega) ?_
                    clear hinf hz0 hz1 hz2 inf
                    clear st
                    intro v' w st
                    obtain ⟨ta', tc', rfl⟩ := own_slice (st.row (i := 4) get4)
                    (try simp only [nsl, Value.cells, unB] at st)
                    (try clear hc); have hc := st.facts; (try simp only [nfl, nft, Nat.reduceAdd] at hc)
                    refine hK _ _ ⟨trivial, ?_⟩
                    clear hK
                    (try simp only [Rg4.nrm])
                    (refine Rg4.w4_any (Rg4.want_none rfl) rfl ?_; apply Exists.intro; refine ⟨fun w' => ?_, ?_⟩; (focus (first | (go_simp; done) | (go_simp; first | rfl | (rw [if_neg] <;> first | rfl | omega) | (rw [if_pos] <;> first | rfl | omega)))); (try simp only [Rg4.nrm]))
                    (refine Rg4.w4_bar (Rg4.want_none rfl) rfl (fun w' hw' hcl' _ K hK => ?_); subst hw'; (refine owp_store rfl st ?_; apply Exists.intro; apply Exists.intro; refine ⟨?_, ?_, ?_⟩; (focus (go_simp; try rfl)); (focus (go_simp; try rfl)); (with_reducible refine ⟨2, _, _, _, _, get2, rfl, rfl, ?_, ?_, ?_, ?_⟩); (kernel_rfl); (simp [Value.cells]); (rfl); (clear st; intro w st); (try simp only [nsl, Value.cells, unB] at st); (try clear hc); have hc := st.facts; (try simp only [nfl, nft, Nat.reduceAdd] at hc)); refine hK _ _ ⟨trivial, ?_⟩; (try simp only [Rg4.nrm]))
                    refine Rg4.w4_nil (fun w' hw' hcl' _ => ?_); subst hw'; clear hcl'
                    go_wp2_with fail
                    have st' := st.keep [0, 1, 2, 3, 4, 5] (by decide) (by simp)
                    go_roundg (m - (q + 1))
                    case measure => omega
                    case rel =>
                      refine ⟨q + 1, sl ++ [(⟨⟨ck, (ho, hd), cw, (bo, bd'), (co, cd), we⟩, xa, 8, xm, tg⟩ : SgnT)], us2, ta', tc', by omega, by omega, by go_num, by rw [hd2]; exact H1, Lib.hid ⟨by simp [HQJ.out.1], fun x hx => by
                        rcases List.mem_append.1 hx with z | z
                        · exact HQJ.out.2 x z
                        · rw [List.mem_singleton.1 z]; exact ⟨⟨HCR.out, rfl⟩, hxm⟩⟩, by omega, ?_⟩
                      rw [cellsL_append, cellsL_one']
                      exact st'
                · obtain rfl : q = m := by omega
                  have HS : Hid (rdN rdSg q vs = .ok (sl.map stripS, ts)) := Lib.hid (by rw [HT.out, Nat.sub_self]; exact addN_end rdSg _ _)
                  clear HT
                  have hwf := rowFl' (α := Role) st (i := 3) get3
                  have hsf := rowFl' (α := SgnT) st (i := 4) get4
                  have HCP := Lib.hid (And.intro hwf.1 hsf.1)
                  have hby := st.sgsAt (i := 5) get5
                  have hok : ∀ w', Ext w w' → True := fun _ _ => trivial
                  have hmo : MgOk wr ⟨2, 0, 0, [], va, j, vc, out, ta, q, tc, sl⟩ := ⟨⟨hwf.1, hwf.2⟩, ⟨hsf.1, hsf.2⟩, hby⟩
                  have hml : MgL ⟨2, 0, 0, [], va, j, vc, out, ta, q, tc, sl⟩ := ⟨by simp only; omega, by simp only; omega, by simp, fun y hy => by have := roleR_len (HJ.out.2 y hy); omega, fun y hy => ⟨by have := (HQJ.out.2 y hy).1.2; omega, credR_S (HQJ.out.2 y hy).1.1⟩⟩
                  have HQ := Lib.hid (msgRight_any _ wr hmo hml)
                  unfold mgV S at HQ
                  simp only at HQ
                  rw [mgR_turn] at HQ
                  have HLJ := Lib.hid (And.intro HJ.out.1 HQJ.out.1)
                  clear hwf hsf hby hok hmo hml
                  go_wp2_with fail
                  refine HQ.out.mono ?_
                  rintro en w ⟨rfl, hx⟩
                  replace st := st.ext hx
                  clear hx
                  cases hmr : (wantsR out && showsR sl) with
                  | true =>
                    have H1 : Hid (rdMg xs = .ok (⟨2, 0, 0, [], none, j, 0, out, none, q, 0, sl.map stripS⟩, ts)) := Lib.hid (by simp [rdMg, HR1.out, HR2.out, HW.out, HR3.out, HS.out, bdm, okMg, mgR_turn, showsR_strip, hmr, ← HLJ.out.1, ← HLJ.out.2])
                    clear hmr HQ
                    (try simp only [nsl, Value.cells, unB] at st)
                    (try clear hc); have hc := st.facts; (try simp only [nfl, nft, Nat.reduceAdd] at hc)
                    go_wp2_with ((((with_reducible refine wl_store ?_ (fun K hK => ?_)); rfl; refine owp_store rfl st ?_; apply Exists.intro; apply Exists.intro; refine ⟨?_, ?_, ?_⟩; (focus (go_simp; try rfl)); (focus (go_simp; try rfl)); (with_reducible refine ⟨1, _, _, _, _, get1, rfl, rfl, ?_, ?_, ?_, ?_⟩); (kernel_rfl); (simp [Value.cells]); (rfl); (clear st; intro w st))); (try simp only [nsl, Value.cells, unB] at st); (try clear hc); have hc := st.facts; (try simp only [nfl, nft, Nat.reduceAdd] at hc))
                    (try simp only [Exit.inBlock, Exit.then])
                    refine bodyPost_cell rfl rfl (st.blk (i := 1) get1) Try.underlying111 rfl (by kernel_rfl) rfl ?_
                    unfold RdC
                    rw [H1.out]
                    have st' := ((st.rowToFl (α := Role) (i := 3) get3).rowToFl (α := SgnT) (i := 4) get4).keep [0, 3, 4, 5] (by decide) (by simp)
                    exact ⟨_, _, rfl, ⟨va, vc, ta, tc, sl, rfl, rfl, HCP.out, rfl⟩, by simpa [pick] using st'⟩
                  | false =>
                    have H1 : Hid (rdMg xs = .error 11) := Lib.hid (by simp [rdMg, HR1.out, HR2.out, HW.out, HR3.out, HS.out, bdm, okMg, mgR_turn, showsR_strip, hmr])
                    clear hmr HQ
                    (try simp only [nsl, Value.cells, unB] at st)
                    (try clear hc); have hc := st.facts; (try simp only [nfl, nft, Nat.reduceAdd] at hc)
                    obtain ⟨_, sq, ⟨_, hrd⟩, _⟩ := st.get (i := 0) (I := rdI r ts) get0
                    have HRD := Lib.hid hrd.any
                    clear hrd
                    go_wp2_with fail
                    refine (fail_any _ r 11 HRD.out (by decide)).mono ?_
                    rintro en w' ⟨rfl, rfl⟩
                    go_wp2_with fail
                    refine ⟨rfl, ?_⟩
                    unfold RdC
                    rw [H1.out]
                    have st' := (st.rdAny (i := 0) get0).keep [0] (by decide) (by simp)
                    exact ⟨rfl, by simpa [pick] using st'⟩
    have k1b : ((k : Int) == 1) = false := by simpa using (by omega : (k : Int) ≠ 1)
    have k2b : ((k : Int) == 2) = false := by simpa using (by omega : (k : Int) ≠ 2)
    by_cases k5 : k = 5
    · subst k5
      clear k1 k2
      go_wp2_with ((first
            | ((with_reducible refine wl_alloc ?_ (fun K hK => ?_)); rfl; refine owp_alloc (o := ⟨some 3, _, _, _, _, _⟩) rfl st ?_; apply Exists.intro; apply Exists.intro; refine ⟨?_, ?_⟩; (focus (first | (go_simp; done) | (go_simp; rfl))); (clear st; intro b3 w hb st; clear hb))
            | ((with_reducible refine wl_store ?_ (fun K hK => ?_)); rfl; refine owp_store rfl st ?_; apply Exists.intro; apply Exists.intro; refine ⟨?_, ?_, ?_⟩; (focus (go_simp; try rfl)); (focus (go_simp; try rfl)); (with_reducible refine ⟨2, _, _, _, _, get2, rfl, rfl, ?_, ?_, ?_, ?_⟩); (kernel_rfl); (simp [Value.cells]); (rfl); (clear st; intro w st))); (try simp only [nsl, Value.cells, unB] at st); (try clear hc); have hc := st.facts; (try simp only [nfl, nft, Nat.reduceAdd] at hc))
      obtain ⟨fr', al', st', back⟩ := st.sub [0] (by decide) (by simp)
      (try simp only [nsl, Value.cells, unB] at st')
      refine (number_c st' 99).mono ?_
      clear st'
      intro en w hen
      unfold RdC at hen
      cases hr : rdNumber 99 ys with
      | error e =>
        rw [hr] at hen
        obtain ⟨rfl, st'⟩ := hen
        replace st := back _ _ (by simp) st'
        clear back st'
        (try simp only [nsl, Value.cells, unB] at st)
        (try clear hc); have hc := st.facts; (try simp only [nfl, nft, Nat.reduceAdd] at hc)
        have H1 : Hid (rdMg xs = .error e) := Lib.hid (by simp [rdMg, HR1.out, hr, bdm])
        clear hr
        go_wp2_with fail
        refine ⟨rfl, ?_⟩
        unfold RdC
        rw [H1.out]
        have st' := st.keep [0] (by decide) (by simp)
        exact ⟨rfl, by simpa [pick] using st'⟩
      | ok p =>
        obtain ⟨en, us⟩ := p
        rw [hr] at hen
        obtain ⟨v, M, rfl, ⟨rfl, rfl⟩, st'⟩ := hen
        replace st := back _ _ (by simp) st'
        clear back st'
        (try simp only [nsl, Value.cells, unB] at st)
        (try clear hc); have hc := st.facts; (try simp only [nfl, nft, Nat.reduceAdd] at hc)
        have HR3 := Lib.hid hr
        clear hr
        have HQ := Lib.hid (fun W => msgRight_any (mg0 5 0 en []) W (mg0_ok W _ _ _ _) (mg0_L (by first | omega | simp)))
        unfold mgV mg0 S at HQ
        simp only at HQ
        go_wp2_with ((((with_reducible refine wl_store ?_ (fun K hK => ?_)); rfl; refine owp_store rfl st ?_; apply Exists.intro; apply Exists.intro; refine ⟨?_, ?_, ?_⟩; (focus (go_simp; try rfl)); (focus (go_simp; try rfl)); (with_reducible refine ⟨2, _, _, _, _, get2, rfl, rfl, ?_, ?_, ?_, ?_⟩); (kernel_rfl); (simp [Value.cells]); (rfl); (clear st; intro w st))); (try simp only [nsl, Value.cells, unB] at st); (try clear hc); have hc := st.facts; (try simp only [nfl, nft, Nat.reduceAdd] at hc))
        refine (HQ.out _).mono ?_
        rintro en w ⟨rfl, hx⟩
        replace st := st.ext hx
        clear hx
        cases hmr : mgR (mg0 5 0 en []) with
        | true =>
          have H1 : Hid (rdMg xs = .ok ((mg0 5 0 en []), us)) := Lib.hid (by simp [rdMg, HR1.out, HR3.out, bdm, okMg, hmr])
          have hmr2 := hmr
          unfold mg0 at hmr2
          rw [hmr2]
          clear hmr hmr2 HQ
          (try simp only [nsl, Value.cells, unB] at st)
          (try clear hc); have hc := st.facts; (try simp only [nfl, nft, Nat.reduceAdd] at hc)
          go_wp2_with ((((with_reducible refine wl_store ?_ (fun K hK => ?_)); rfl; refine owp_store rfl st ?_; apply Exists.intro; apply Exists.intro; refine ⟨?_, ?_, ?_⟩; (focus (go_simp; try rfl)); (focus (go_simp; try rfl)); (with_reducible refine ⟨1, _, _, _, _, get1, rfl, rfl, ?_, ?_, ?_, ?_⟩); (kernel_rfl); (simp [Value.cells]); (rfl); (clear st; intro w st))); (try simp only [nsl, Value.cells, unB] at st); (try clear hc); have hc := st.facts; (try simp only [nfl, nft, Nat.reduceAdd] at hc))
          (try simp only [Exit.inBlock, Exit.then])
          refine bodyPost_cell rfl rfl (st.blk (i := 1) get1) Try.underlying111 rfl (by kernel_rfl) rfl ?_
          unfold RdC
          rw [H1.out]
          have st' := (((st.keep [0] (by decide) (by simp)).nilFl (α := Role)).nilFl (α := SgnT)).noSgs
          exact ⟨_, _, rfl, ⟨none, 0, none, 0, [], rfl, rfl, ⟨⟨Nat.le_refl _, by simp [maxLen]⟩, ⟨Nat.le_refl _, by simp [maxLen]⟩⟩, rfl⟩, by simpa [pick, mg0] using st'⟩
        | false =>
          have H1 : Hid (rdMg xs = .error 11) := Lib.hid (by simp [rdMg, HR1.out, HR3.out, bdm, okMg, hmr])
          have hmr2 := hmr
          unfold mg0 at hmr2
          rw [hmr2]
          clear hmr hmr2 HQ
          (try simp only [nsl, Value.cells, unB] at st)
          (try clear hc); have hc := st.facts; (try simp only [nfl, nft, Nat.reduceAdd] at hc)
          obtain ⟨_, sq, ⟨_, hrd⟩, _⟩ := st.get (i := 0) (I := rdI r us) get0
          have HRD := Lib.hid hrd.any
          clear hrd
          go_wp2_with fail
          refine (fail_any _ r 11 HRD.out (by decide)).mono ?_
          rintro en w' ⟨rfl, rfl⟩
          go_wp2_with fail
          refine ⟨rfl, ?_⟩
          unfold RdC
          rw [H1.out]
          have st' := (st.rdAny (i := 0) get0).keep [0] (by decide) (by simp)
          exact ⟨rfl, by simpa [pick] using st'⟩
    · have k5b : ((k : Int) == 5) = false := by simpa using (by omega : (k : Int) ≠ 5)
      have HK := Lib.hid (And.intro k1 (And.intro k2 k5))
      clear k1 k2 k5
      have HQ := Lib.hid (fun W => msgRight_any (mg0 k 0 0 []) W (mg0_ok W _ _ _ _) (mg0_L (by first | omega | simp)))
      unfold mgV mg0 S at HQ
      simp only at HQ
      go_wp2_with ((first
            | ((with_reducible refine wl_alloc ?_ (fun K hK => ?_)); rfl; refine owp_alloc (o := ⟨some 3, _, _, _, _, _⟩) rfl st ?_; apply Exists.intro; apply Exists.intro; refine ⟨?_, ?_⟩; (focus (first | (go_simp; done) | (go_simp; rfl))); (clear st; intro b3 w hb st; clear hb))
            | ((with_reducible refine wl_store ?_ (fun K hK => ?_)); rfl; refine owp_store rfl st ?_; apply Exists.intro; apply Exists.intro; refine ⟨?_, ?_, ?_⟩; (focus (go_simp; try rfl)); (focus (go_simp; try rfl)); (with_reducible refine ⟨2, _, _, _, _, get2, rfl, rfl, ?_, ?_, ?_, ?_⟩); (kernel_rfl); (simp [Value.cells]); (rfl); (clear st; intro w st))); (try simp only [nsl, Value.cells, unB] at st); (try clear hc); have hc := st.facts; (try simp only [nfl, nft, Nat.reduceAdd] at hc))
      refine (HQ.out _).mono ?_
      rintro en w ⟨rfl, hx⟩
      replace st := st.ext hx
      clear hx
      cases hmr : mgR (mg0 k 0 0 []) with
      | true =>
        have H1 : Hid (rdMg xs = .ok ((mg0 k 0 0 []), ys)) := Lib.hid (by simp [rdMg, HR1.out, HK.out.1, HK.out.2.1, HK.out.2.2, bdm, okMg, hmr])
        have hmr2 := hmr
        unfold mg0 at hmr2
        rw [hmr2]
        clear hmr hmr2 HQ
        (try simp only [nsl, Value.cells, unB] at st)
        (try clear hc); have hc := st.facts; (try simp only [nfl, nft, Nat.reduceAdd] at hc)
        go_wp2_with ((((with_reducible refine wl_store ?_ (fun K hK => ?_)); rfl; refine owp_store rfl st ?_; apply Exists.intro; apply Exists.intro; refine ⟨?_, ?_, ?_⟩; (focus (go_simp; try rfl)); (focus (go_simp; try rfl)); (with_reducible refine ⟨1, _, _, _, _, get1, rfl, rfl, ?_, ?_, ?_, ?_⟩); (kernel_rfl); (simp [Value.cells]); (rfl); (clear st; intro w st))); (try simp only [nsl, Value.cells, unB] at st); (try clear hc); have hc := st.facts; (try simp only [nfl, nft, Nat.reduceAdd] at hc))
        (try simp only [Exit.inBlock, Exit.then])
        refine bodyPost_cell rfl rfl (st.blk (i := 1) get1) Try.underlying111 rfl (by kernel_rfl) rfl ?_
        unfold RdC
        rw [H1.out]
        have st' := (((st.keep [0] (by decide) (by simp)).nilFl (α := Role)).nilFl (α := SgnT)).noSgs
        exact ⟨_, _, rfl, ⟨none, 0, none, 0, [], rfl, rfl, ⟨⟨Nat.le_refl _, by simp [maxLen]⟩, ⟨Nat.le_refl _, by simp [maxLen]⟩⟩, rfl⟩, by simpa [pick, mg0] using st'⟩
      | false =>
        have H1 : Hid (rdMg xs = .error 11) := Lib.hid (by simp [rdMg, HR1.out, HK.out.1, HK.out.2.1, HK.out.2.2, bdm, okMg, hmr])
        have hmr2 := hmr
        unfold mg0 at hmr2
        rw [hmr2]
        clear hmr hmr2 HQ
        (try simp only [nsl, Value.cells, unB] at st)
        (try clear hc); have hc := st.facts; (try simp only [nfl, nft, Nat.reduceAdd] at hc)
        obtain ⟨_, sq, ⟨_, hrd⟩, _⟩ := st.get (i := 0) (I := rdI r ys) get0
        have HRD := Lib.hid hrd.any
        clear hrd
        go_wp2_with fail
        refine (fail_any _ r 11 HRD.out (by decide)).mono ?_
        rintro en w' ⟨rfl, rfl⟩
        go_wp2_with fail
        refine ⟨rfl, ?_⟩
        unfold RdC
        rw [H1.out]
        have st' := (st.rdAny (i := 0) get0).keep [0] (by decide) (by simp)
        exact ⟨rfl, by simpa [pick] using st'⟩
end Go.Proofs.Ytekngjkjgmplpaa

namespace Go.Proofs.Ytekngjkjgmplpaa
set_option linter.unusedSimpArgs false
set_option linter.unusedVariables false
open Go Go.RowKit
theorem rdCred_puts2 {x : CredT} (h : credR x = true) (zs : List UInt8) : rdCred (credB x ++ zs) = .ok (x, zs) := by
  obtain ⟨h1, hc⟩ := credR_cases h
  obtain ⟨k, hh, w, b, c, e⟩ := x
  simp only at h1 hc
  have hn : ∀ (k : Nat) (ys : List UInt8), k ≤ 4 → rdNumber 9223372036854775807 (numB k ++ ys) = .ok (k, ys) := fun k ys hk => rdNumber_put 9223372036854775807 k ys (by omega) (by decide)
  rcases hc with ⟨rfl, q1, rfl, rfl, rfl⟩ | ⟨rfl, q2, ⟨rfl, rfl, rfl⟩ | ⟨rfl, rfl, _, q5⟩ | ⟨rfl, rfl, q5, _⟩⟩
  · have e0 : credB ⟨1, hh, w, nR, nR, []⟩ ++ zs = numB 1 ++ (roleB hh ++ (numB w.length ++ w ++ zs)) := by simp [credB]
    unfold rdCred
    rw [e0, hn 1 _ (by decide), bd_ok, if_neg (by decide), rdRole_puts hh _ h1, bd_ok, if_pos rfl, rdName_put w zs q1, bd_ok, okCr, if_pos h]
  · have e0 : credB ⟨2, hh, [], b, nR, []⟩ ++ zs = numB 2 ++ (roleB hh ++ (roleB b ++ zs)) := by simp [credB]
    unfold rdCred
    rw [e0, hn 2 _ (by decide), bd_ok, if_neg (by decide), rdRole_puts hh _ h1, bd_ok, if_neg (by decide), rdRole_puts b _ q2, bd_ok, if_pos rfl, okCr, if_pos h]
  · have e0 : credB ⟨3, hh, [], b, nR, e⟩ ++ zs = numB 3 ++ (roleB hh ++ (roleB b ++ (numB e.length ++ e ++ zs))) := by simp [credB]
    unfold rdCred
    rw [e0, hn 3 _ (by decide), bd_ok, if_neg (by decide), rdRole_puts hh _ h1, bd_ok, if_neg (by decide), rdRole_puts b _ q2, bd_ok, if_neg (by decide), if_pos rfl, rdName_put e zs q5, bd_ok, okCr, if_pos h]
  · have e0 : credB ⟨4, hh, [], b, c, []⟩ ++ zs = numB 4 ++ (roleB hh ++ (roleB b ++ (roleB c ++ zs))) := by simp [credB]
    unfold rdCred
    rw [e0, hn 4 _ (by decide), bd_ok, if_neg (by decide), rdRole_puts hh _ h1, bd_ok, if_neg (by decide), rdRole_puts b _ q2, bd_ok, if_neg (by decide), if_neg (by decide), rdRole_puts c _ q5, bd_ok, okCr, if_pos h]
/-- A message without its places. -/
def stripM (m : MsgT) : MsgT := ⟨m.k, m.p, m.e, m.nm, none, m.wn, 0, m.ws, none, m.sn, 0, m.ss.map stripS⟩
theorem stripS_twice (l : List SgnT) : (l.map stripS).map stripS = l.map stripS := by
  rw [List.map_map]; rfl
theorem stripM_of {x d : MsgT} (h1 : x.k = d.k) (h2 : x.p = d.p) (h3 : x.e = d.e) (h4 : x.nm = d.nm) (h5 : x.wn = d.wn) (h6 : x.ws = d.ws) (h7 : x.sn = d.sn) (h8 : x.ss.map stripS = d.ss.map stripS) : stripM x = stripM d := by
  unfold stripM
  rw [h1, h2, h3, h4, h5, h6, h7, h8]
theorem sameSs_strip : ∀ l m : List SgnT, sameSs (l.map stripS) (m.map stripS) = sameSs l m
  | [], [] => rfl
  | x :: l, y :: m => by
    simp only [List.map_cons]
    unfold sameSs
    rw [sameSs_strip l m]
    rfl
  | [], _ :: _ => rfl
  | _ :: _, [] => rfl
theorem sameMg_strip (x y : MsgT) : sameMg (stripM x) (stripM y) = sameMg x y := by
  unfold sameMg stripM
  simp only
  rw [sameSs_strip]
theorem sameMg_of {x y : MsgT} (h : stripM x = stripM y) : sameMg x y = true := by
  rw [← sameMg_strip, h]
  unfold sameMg; rw [sameSs_refl]; simp
theorem bare_strip (x : MsgT) : stripM (bareMg x) = stripM (bareMg (stripM x)) := by
  have e : ∀ y : MsgT, bareMg (stripM y) = if y.k = 1 then ⟨y.k, y.p, 0, y.nm, none, 0, 0, [], none, 0, 0, []⟩ else if y.k = 2 then ⟨y.k, 0, 0, [], none, y.wn, 0, y.ws, none, y.sn, 0, y.ss.map stripS⟩ else if y.k = 5 then ⟨y.k, 0, y.e, [], none, 0, 0, [], none, 0, 0, []⟩ else ⟨y.k, 0, 0, [], none, 0, 0, [], none, 0, 0, []⟩ := fun y => rfl
  rw [e]
  unfold bareMg
  by_cases k1 : x.k = 1
  · rw [if_pos k1, if_pos k1]
  rw [if_neg k1, if_neg k1]
  by_cases k2 : x.k = 2
  · rw [if_pos k2, if_pos k2]
    unfold stripM
    simp only [stripS_twice]
  rw [if_neg k2, if_neg k2]
theorem mgR_strip (x : MsgT) : mgR (stripM x) = mgR x := by
  unfold mgR
  rw [← sameMg_strip (bareMg x) x, bare_strip, ← sameMg_strip (bareMg (stripM x)) (stripM x)]
  have e1 : stripM (stripM x) = stripM x := by unfold stripM; simp only [stripS_twice]
  rw [e1]
  congr 1
  unfold kindR stripM
  simp only
  rw [showsR_strip]
theorem sgB_strip (l : List SgnT) : (l.map stripS).flatMap sgB = l.flatMap sgB := by
  induction l with
  | nil => rfl
  | cons x l ih =>
    simp only [List.map_cons, List.flatMap_cons]
    rw [ih]
    rfl
theorem mgB_strip (x : MsgT) : mgB (stripM x) = mgB x := by
  unfold mgB stripM
  simp only
  rw [sgB_strip]
theorem mgR_by {x y : MsgT} (h : stripM x = stripM y) : mgR x = mgR y := by rw [← mgR_strip, h, mgR_strip]
theorem mgB_by {x y : MsgT} (h : stripM x = stripM y) : mgB x = mgB y := by rw [← mgB_strip, h, mgB_strip]
/-- What is put is got. -/
theorem rdSg_put {x : SgnT} (hc : credR x.c = true) (hn : x.n = 8) (hl : x.xs.length = 8) (ys : List UInt8) : rdSg (sgB x ++ ys) = .ok (stripS x, ys) := by
  have e : rdText 8 (numB x.xs.length ++ x.xs ++ ys) = .ok (x.xs, ys) := rdText_put 8 x.xs ys (by omega) (by decide)
  rw [hl] at e
  unfold rdSg sgB
  rw [List.append_assoc, rdCred_puts2 hc, bdm_ok, hn, e, bdm_ok, if_pos hl]
  unfold stripS
  rw [hn]
theorem bare_0 {x : MsgT} (h : mgR x = true) (k : x.k ≠ 2) : x.ws = [] ∧ x.ss = [] ∧ (x.k ≠ 5 → x.e = 0) ∧ (x.k ≠ 1 → x.nm = [] ∧ x.p = 0) := by
  have hb : sameMg (bareMg x) x = true := by
    unfold mgR at h
    rw [Bool.and_eq_true] at h
    exact h.1
  unfold bareMg at hb
  rw [if_neg k] at hb
  unfold sameMg at hb
  by_cases k1 : x.k = 1
  · rw [if_pos k1] at hb
    simp only [sameSs_nil, Bool.and_eq_true, beq_iff_eq, decide_eq_true_eq] at hb
    exact ⟨hb.1.2.symm, hb.2, fun _ => hb.1.1.1.2.symm, fun q => absurd k1 q⟩
  · rw [if_neg k1] at hb
    by_cases k5 : x.k = 5
    · rw [if_pos k5] at hb
      simp only [sameSs_nil, Bool.and_eq_true, beq_iff_eq, decide_eq_true_eq] at hb
      exact ⟨hb.1.2.symm, hb.2, fun q => absurd k5 q, fun _ => ⟨hb.1.1.2.symm, hb.1.1.1.1.2.symm⟩⟩
    · rw [if_neg k5] at hb
      simp only [sameSs_nil, Bool.and_eq_true, beq_iff_eq, decide_eq_true_eq] at hb
      exact ⟨hb.1.2.symm, hb.2, fun _ => hb.1.1.1.2.symm, fun _ => ⟨hb.1.1.2.symm, hb.1.1.1.1.2.symm⟩⟩
theorem bare_2 {x : MsgT} (h : mgR x = true) (k : x.k = 2) : x.nm = [] ∧ x.p = 0 ∧ x.e = 0 := by
  have hb : sameMg (bareMg x) x = true := by
    unfold mgR at h
    rw [Bool.and_eq_true] at h
    exact h.1
  unfold bareMg at hb
  rw [if_neg (by omega), if_pos k] at hb
  unfold sameMg at hb
  simp only [Bool.and_eq_true, beq_iff_eq] at hb
  exact ⟨hb.1.1.2.symm, hb.1.1.1.1.2.symm, hb.1.1.1.2.symm⟩
theorem rdMg_put {W : World} {x : MsgT} (hx : MgOk W x) (h : mgR x = true) : rdMg (mgB x) = .ok (stripM x, []) := by
  have hR : mgR (stripM x) = true := by rw [mgR_strip, h]
  have hw : x.wn = x.ws.length := hx.1.2.1
  have hs : x.sn = x.ss.length := hx.2.1.2.1
  have hn : ∀ (k : Nat) (ys : List UInt8), k ≤ 5 → rdNumber 9223372036854775807 (numB k ++ ys) = .ok (k, ys) := fun k ys hk => rdNumber_put 9223372036854775807 k ys (by omega) (by decide)
  have hok : ∀ ys, okMg (stripM x) ys = .ok (stripM x, ys) := fun ys => by unfold okMg; rw [if_pos hR]
  by_cases k2 : x.k = 2
  · obtain ⟨b1, b2, b3⟩ := bare_2 h k2
    obtain ⟨h1, h2⟩ := mgR_2 h k2
    have w1 := wantsR_is h1
    have s1 := showsR_is h2
    have e : mgB x = numB 2 ++ (numB x.ws.length ++ (x.ws.flatMap roleB ++ (numB (x.ss.map stripS).length ++ ((x.ss.map stripS).flatMap sgB ++ [])))) := by
      unfold mgB
      rw [if_neg (by omega), if_pos k2, k2, hw, hs, sgB_strip, List.length_map]
      simp
    have n1 : rdNumber 16 (numB x.ws.length ++ (x.ws.flatMap roleB ++ (numB (x.ss.map stripS).length ++ ((x.ss.map stripS).flatMap sgB ++ [])))) = .ok (x.ws.length, _) := rdNumber_put 16 _ _ w1.1 (by decide)
    have n2 : rdNumber 8 (numB (x.ss.map stripS).length ++ ((x.ss.map stripS).flatMap sgB ++ [])) = .ok ((x.ss.map stripS).length, _) := rdNumber_put 8 _ _ (by rw [List.length_map]; exact s1.1) (by decide)
    unfold rdMg
    rw [e, hn 2 _ (by decide), bdm_ok, if_neg (by decide), if_pos rfl, n1, bdm_ok]
    rw [rdN_put rdRole roleB x.ws _ (fun r hr ys => rdRole_puts r ys (w1.2 r hr)), bdm_ok, n2, bdm_ok]
    rw [rdN_put rdSg sgB (x.ss.map stripS) [] (fun y hy ys => by
      obtain ⟨z, hz, rfl⟩ := List.mem_map.1 hy
      have hz8 := (s1.2 z hz).2
      have hl : z.xs.length = 8 := by have := (hx.2.2 z hz).2.1; omega
      exact rdSg_put (x := stripS z) (s1.2 z hz).1 hz8 hl ys), bdm_ok]
    have e2 : (⟨2, 0, 0, [], none, x.ws.length, 0, x.ws, none, (x.ss.map stripS).length, 0, x.ss.map stripS⟩ : MsgT) = stripM x := by
      unfold stripM
      rw [k2, b1, b2, b3, hw, hs, List.length_map]
    rw [e2, hok]
  · obtain ⟨b1, b2, b3, b4⟩ := bare_0 h k2
    have hw0 : x.wn = 0 := by rw [hw, b1]; rfl
    have hs0 : x.sn = 0 := by rw [hs, b2]; rfl
    have e2 : ∀ k p e nm, x.k = k → x.p = p → x.e = e → x.nm = nm → mg0 k p e nm = stripM x := fun k p e nm h1 h2 h3 h4 => by
      unfold stripM mg0
      rw [h1, h2, h3, h4, hw0, hs0, b1, b2]
      rfl
    rcases (mgR_k h).2 with k | k | k | k | k
    · obtain ⟨h1, h2⟩ := mgR_1 h k
      obtain ⟨p, hp, hp2⟩ : ∃ p : Nat, x.p = p ∧ p ≤ 2 := ⟨x.p.toNat, by omega, by omega⟩
      have n1 : rdNumber 2 (numB p ++ []) = .ok (p, []) := rdNumber_put 2 p [] hp2 (by decide)
      have e : mgB x = numB 1 ++ (numB x.nm.length ++ x.nm ++ (numB p ++ [])) := by
        unfold mgB
        rw [if_pos k, k, hp]
        simp
      unfold rdMg
      rw [e, hn 1 _ (by decide), bdm_ok, if_pos rfl, rdName_put x.nm _ h1, bdm_ok, n1, bdm_ok, e2 1 p 0 x.nm k hp (b3 (by omega)) rfl, hok]
    · exact absurd k k2
    · have e : mgB x = numB 3 ++ [] := by
        unfold mgB
        rw [if_neg (by omega), if_neg k2, if_neg (by omega), k]
        rfl
      unfold rdMg
      rw [e, hn 3 _ (by decide), bdm_ok, if_neg (by decide), if_neg (by decide), if_neg (by decide)]
      have := e2 3 0 0 [] k (b4 (by omega)).2 (b3 (by omega)) (b4 (by omega)).1
      rw [show (mg0 ((3 : Nat) : Int) 0 0 []) = stripM x from this, hok]
    · have e : mgB x = numB 4 ++ [] := by
        unfold mgB
        rw [if_neg (by omega), if_neg k2, if_neg (by omega), k]
        rfl
      unfold rdMg
      rw [e, hn 4 _ (by decide), bdm_ok, if_neg (by decide), if_neg (by decide), if_neg (by decide)]
      have := e2 4 0 0 [] k (b4 (by omega)).2 (b3 (by omega)) (b4 (by omega)).1
      rw [show (mg0 ((4 : Nat) : Int) 0 0 []) = stripM x from this, hok]
    · have h5 := mgR_5 h k
      obtain ⟨p, hp, hp2⟩ : ∃ p : Nat, x.e = p ∧ p ≤ 99 := ⟨x.e.toNat, by omega, by omega⟩
      have n1 : rdNumber 99 (numB p ++ []) = .ok (p, []) := rdNumber_put 99 p [] hp2 (by decide)
      have e : mgB x = numB 5 ++ (numB p ++ []) := by
        unfold mgB
        rw [if_neg (by omega), if_neg k2, if_pos k, k, hp]
        simp
      unfold rdMg
      rw [e, hn 5 _ (by decide), bdm_ok, if_neg (by decide), if_neg (by decide), if_pos rfl, n1, bdm_ok, e2 5 0 p [] k (b4 (by omega)).2 hp (b4 (by omega)).1, hok]
/-- What is got is put so. -/
theorem rdNumber_canon {most : Int} {xs : List UInt8} {n : Nat} {ys : List UInt8} (h : rdNumber most xs = .ok (n, ys)) : xs = numB n ++ ys := by
  unfold rdNumber at h
  cases hr : rdNum xs with
  | error e => rw [hr] at h; cases h
  | ok p =>
    obtain ⟨m, zs⟩ := p
    rw [hr] at h
    simp only at h
    split at h
    · cases h
    · cases h; exact rdNum_canon hr
theorem rdText_canon {most : Int} {xs b ys : List UInt8} (h : rdText most xs = .ok (b, ys)) : xs = numB b.length ++ b ++ ys := by
  unfold rdText at h
  cases hr : rdNum xs with
  | error e => rw [hr] at h; cases h
  | ok p =>
    obtain ⟨m, zs⟩ := p
    rw [hr] at h
    simp only at h
    split at h
    · cases h
    · split at h
      · cases h
      · cases h
        have e := rdNum_canon hr
        rw [List.length_take, Nat.min_eq_left (by omega), List.append_assoc, List.take_append_drop]
        exact e
theorem rdName_canon {xs s ys : List UInt8} (h : rdName xs = .ok (s, ys)) : xs = numB s.length ++ s ++ ys := by
  unfold rdName at h
  cases hr : rdText 16 xs with
  | error e => rw [hr] at h; cases h
  | ok p =>
    obtain ⟨m, zs⟩ := p
    rw [hr] at h
    simp only at h
    split at h
    · cases h; exact rdText_canon hr
    · cases h
theorem rdRole_canon {xs ys : List UInt8} {r : Role} (h : rdRole xs = .ok (r, ys)) : xs = roleB r ++ ys := by
  unfold rdRole at h
  cases h1 : rdName xs with
  | error e => rw [h1] at h; cases h
  | ok p =>
    obtain ⟨o, zs⟩ := p
    rw [h1] at h
    simp only at h
    cases h2 : rdName zs with
    | error e => rw [h2] at h; cases h
    | ok q =>
      obtain ⟨d, us⟩ := q
      rw [h2] at h
      simp only at h
      cases h
      rw [rdName_canon h1, rdName_canon h2]
      simp [roleB]
theorem okCr_is {c x : CredT} {us ys : List UInt8} (h : okCr c us = .ok (x, ys)) : x = c ∧ ys = us := by
  unfold okCr at h
  split at h
  · cases h; exact ⟨rfl, rfl⟩
  · cases h
theorem rdCred_canon {xs ys : List UInt8} {x : CredT} (h : rdCred xs = .ok (x, ys)) : xs = credB x ++ ys := by
  unfold rdCred at h
  cases h1 : rdNumber 9223372036854775807 xs with
  | error e => rw [h1, bd_er] at h; cases h
  | ok p =>
    obtain ⟨n, us⟩ := p
    have c1 := rdNumber_canon h1
    rw [h1, bd_ok] at h
    by_cases hn : n < 1 ∨ 4 < n
    · rw [if_pos hn] at h; cases h
    rw [if_neg hn] at h
    cases h2 : rdRole us with
    | error e => rw [h2, bd_er] at h; cases h
    | ok p =>
      obtain ⟨hh, vs⟩ := p
      have c2 := rdRole_canon h2
      rw [h2, bd_ok] at h
      by_cases n1 : n = 1
      · rw [if_pos n1] at h
        cases h3 : rdName vs with
        | error e => rw [h3, bd_er] at h; cases h
        | ok p =>
          obtain ⟨w, ts⟩ := p
          have c3 := rdName_canon h3
          rw [h3, bd_ok] at h
          obtain ⟨rfl, rfl⟩ := okCr_is h
          rw [c1, c2, c3, n1]
          simp [credB]
      rw [if_neg n1] at h
      cases h3 : rdRole vs with
      | error e => rw [h3, bd_er] at h; cases h
      | ok p =>
        obtain ⟨b, ts⟩ := p
        have c3 := rdRole_canon h3
        rw [h3, bd_ok] at h
        by_cases n2 : n = 2
        · rw [if_pos n2] at h
          obtain ⟨rfl, rfl⟩ := okCr_is h
          rw [c1, c2, c3, n2]
          simp [credB]
        rw [if_neg n2] at h
        by_cases n3 : n = 3
        · rw [if_pos n3] at h
          cases h4 : rdName ts with
          | error e => rw [h4, bd_er] at h; cases h
          | ok p =>
            obtain ⟨w, rs⟩ := p
            have c4 := rdName_canon h4
            rw [h4, bd_ok] at h
            obtain ⟨rfl, rfl⟩ := okCr_is h
            rw [c1, c2, c3, c4, n3]
            simp [credB]
        rw [if_neg n3] at h
        cases h4 : rdRole ts with
        | error e => rw [h4, bd_er] at h; cases h
        | ok p =>
          obtain ⟨c, rs⟩ := p
          have c4 := rdRole_canon h4
          rw [h4, bd_ok] at h
          obtain ⟨rfl, rfl⟩ := okCr_is h
          have n4 : n = 4 := by omega
          rw [c1, c2, c3, c4, n4]
          simp [credB]
theorem rdSg_canon {xs ys : List UInt8} {x : SgnT} (h : rdSg xs = .ok (x, ys)) : xs = sgB x ++ ys := by
  unfold rdSg at h
  cases h1 : rdCred xs with
  | error e => rw [h1, bdm_er] at h; cases h
  | ok p =>
    obtain ⟨c, us⟩ := p
    have c1 := rdCred_canon h1
    rw [h1, bdm_ok] at h
    cases h2 : rdText 8 us with
    | error e => rw [h2, bdm_er] at h; cases h
    | ok p =>
      obtain ⟨tg, vs⟩ := p
      have c2 := rdText_canon h2
      rw [h2, bdm_ok] at h
      split at h
      · rename_i h8
        cases h
        rw [h8] at c2
        rw [c1, c2]
        simp [sgB]
      · cases h
theorem rdN_canon {α : Type} (f : List UInt8 → Except Int (α × List UInt8)) (g : α → List UInt8) (hf : ∀ xs x ys, f xs = .ok (x, ys) → xs = g x ++ ys) : ∀ (k : Nat) {xs ys : List UInt8} {l : List α}, rdN f k xs = .ok (l, ys) → xs = l.flatMap g ++ ys ∧ l.length = k
  | 0, xs, ys, l, h => by
    unfold rdN at h
    cases h
    exact ⟨rfl, rfl⟩
  | k + 1, xs, ys, l, h => by
    unfold rdN at h
    cases h1 : f xs with
    | error e => rw [h1] at h; cases h
    | ok p =>
      obtain ⟨x, zs⟩ := p
      rw [h1] at h
      simp only at h
      cases h2 : rdN f k zs with
      | error e => rw [h2] at h; cases h
      | ok q =>
        obtain ⟨m, us⟩ := q
        rw [h2] at h
        simp only [Except.ok.injEq, Prod.mk.injEq] at h
        obtain ⟨rfl, rfl⟩ := h
        obtain ⟨e1, e2⟩ := rdN_canon f g hf k h2
        rw [hf _ _ _ h1, e1, List.flatMap_cons, List.append_assoc, List.length_cons, e2]
        exact ⟨rfl, rfl⟩
theorem okMg_is {m d : MsgT} {us ys : List UInt8} (h : okMg m us = .ok (d, ys)) : d = m ∧ ys = us ∧ mgR m = true := by
  unfold okMg at h
  split at h
  · rename_i q; cases h; exact ⟨rfl, rfl, q⟩
  · cases h
theorem rdMg_canon {xs ys : List UInt8} {d : MsgT} (h : rdMg xs = .ok (d, ys)) : xs = mgB d ++ ys ∧ mgR d = true := by
  unfold rdMg at h
  cases h1 : rdNumber 9223372036854775807 xs with
  | error e => rw [h1, bdm_er] at h; cases h
  | ok p =>
    obtain ⟨k, us⟩ := p
    have c1 := rdNumber_canon h1
    rw [h1, bdm_ok] at h
    by_cases k1 : k = 1
    · rw [if_pos k1] at h
      cases h2 : rdName us with
      | error e => rw [h2, bdm_er] at h; cases h
      | ok p =>
        obtain ⟨nm, vs⟩ := p
        have c2 := rdName_canon h2
        rw [h2, bdm_ok] at h
        cases h3 : rdNumber 2 vs with
        | error e => rw [h3, bdm_er] at h; cases h
        | ok p =>
          obtain ⟨q, ts⟩ := p
          have c3 := rdNumber_canon h3
          rw [h3, bdm_ok] at h
          obtain ⟨rfl, rfl, hR⟩ := okMg_is h
          refine ⟨?_, hR⟩
          rw [c1, c2, c3, k1]
          simp [mgB, mg0]
    rw [if_neg k1] at h
    by_cases k2 : k = 2
    · rw [if_pos k2] at h
      cases h2 : rdNumber 16 us with
      | error e => rw [h2, bdm_er] at h; cases h
      | ok p =>
        obtain ⟨n, vs⟩ := p
        have c2 := rdNumber_canon h2
        rw [h2, bdm_ok] at h
        cases h3 : rdN rdRole n vs with
        | error e => rw [h3, bdm_er] at h; cases h
        | ok p =>
          obtain ⟨ws, ts⟩ := p
          have c3 := rdN_canon rdRole roleB (fun _ _ _ q => rdRole_canon q) n h3
          rw [h3, bdm_ok] at h
          cases h4 : rdNumber 8 ts with
          | error e => rw [h4, bdm_er] at h; cases h
          | ok p =>
            obtain ⟨m, rs⟩ := p
            have c4 := rdNumber_canon h4
            rw [h4, bdm_ok] at h
            cases h5 : rdN rdSg m rs with
            | error e => rw [h5, bdm_er] at h; cases h
            | ok p =>
              obtain ⟨ss, qs⟩ := p
              have c5 := rdN_canon rdSg sgB (fun _ _ _ q => rdSg_canon q) m h5
              rw [h5, bdm_ok] at h
              obtain ⟨rfl, rfl, hR⟩ := okMg_is h
              refine ⟨?_, hR⟩
              rw [c1, c2, c3.1, c4, c5.1, k2, ← c3.2, ← c5.2]
              simp [mgB]
    rw [if_neg k2] at h
    by_cases k5 : k = 5
    · rw [if_pos k5] at h
      cases h2 : rdNumber 99 us with
      | error e => rw [h2, bdm_er] at h; cases h
      | ok p =>
        obtain ⟨n, vs⟩ := p
        have c2 := rdNumber_canon h2
        rw [h2, bdm_ok] at h
        obtain ⟨rfl, rfl, hR⟩ := okMg_is h
        refine ⟨?_, hR⟩
        rw [c1, c2, k5]
        simp [mgB, mg0]
    rw [if_neg k5] at h
    obtain ⟨rfl, rfl, hR⟩ := okMg_is h
    refine ⟨?_, hR⟩
    have i1 : ¬ (k : Int) = 1 := by omega
    have i2 : ¬ (k : Int) = 2 := by omega
    have i5 : ¬ (k : Int) = 5 := by omega
    unfold mgB mg0
    simp only
    rw [if_neg i1, if_neg i2, if_neg i5, c1]
    simp
/-- How long the bytes are, at most. -/
theorem numB_1 {n : Nat} (h : n < 128) : (numB n).length = 1 := by
  unfold numB
  rw [numF_last _ _ (by omega)]
  rfl
theorem nameB_17 {s : List UInt8} (h : nameR s = true) : (numB s.length ++ s).length ≤ 17 := by
  have := (nameR_len h).2
  rw [List.length_append, numB_1 (by omega)]
  omega
theorem roleB_34 {r : Role} (h : roleR r = true) : (roleB r).length ≤ 34 := by
  obtain ⟨o, d⟩ := r
  have hr : nameR o = true ∧ nameR d = true := by simpa [roleR] using h
  have h1 := nameB_17 hr.1
  have h2 := nameB_17 hr.2
  unfold roleB
  rw [List.length_append]
  simp only
  omega
theorem credB_103 {x : CredT} (h : credR x = true) : (credB x).length ≤ 103 := by
  obtain ⟨h1, hc⟩ := credR_cases h
  obtain ⟨k, hh, w, b, c, e⟩ := x
  simp only at h1 hc
  have r1 := roleB_34 h1
  rcases hc with ⟨rfl, q1, rfl, rfl, rfl⟩ | ⟨rfl, q2, ⟨rfl, rfl, rfl⟩ | ⟨rfl, rfl, _, q5⟩ | ⟨rfl, rfl, q5, _⟩⟩
  · have := nameB_17 q1
    have e0 : credB ⟨1, hh, w, nR, nR, []⟩ = numB 1 ++ (roleB hh ++ (numB w.length ++ w)) := by simp [credB]
    rw [e0, List.length_append, List.length_append, numB_1 (by decide)]
    omega
  · have := roleB_34 q2
    have e0 : credB ⟨2, hh, [], b, nR, []⟩ = numB 2 ++ (roleB hh ++ roleB b) := by simp [credB]
    rw [e0, List.length_append, List.length_append, numB_1 (by decide)]
    omega
  · have := roleB_34 q2
    have := nameB_17 q5
    have e0 : credB ⟨3, hh, [], b, nR, e⟩ = numB 3 ++ (roleB hh ++ (roleB b ++ (numB e.length ++ e))) := by simp [credB]
    rw [e0, List.length_append, List.length_append, List.length_append, numB_1 (by decide)]
    omega
  · have := roleB_34 q2
    have := roleB_34 q5
    have e0 : credB ⟨4, hh, [], b, c, []⟩ = numB 4 ++ (roleB hh ++ (roleB b ++ roleB c)) := by simp [credB]
    rw [e0, List.length_append, List.length_append, List.length_append, numB_1 (by decide)]
    omega
theorem sgB_112 {x : SgnT} (h : credR x.c = true) (hn : x.n = 8) (hx : x.n = x.xs.length) : (sgB x).length ≤ 112 := by
  have h1 := credB_103 h
  unfold sgB
  rw [List.length_append, List.length_append, numB_1 (by omega)]
  omega
theorem mgB_2048 {W : World} {x : MsgT} (hx : MgOk W x) (h : mgR x = true) : (mgB x).length ≤ 2048 := by
  have hw : x.wn = x.ws.length := hx.1.2.1
  have hs : x.sn = x.ss.length := hx.2.1.2.1
  have hk := (mgR_k h).2
  have n1 : (numB x.k.toNat).length = 1 := numB_1 (by omega)
  unfold mgB
  rw [List.length_append]
  split
  · obtain ⟨h1, h2⟩ := mgR_1 h (by assumption)
    have := nameB_17 h1
    have n2 : (numB x.p.toNat).length = 1 := numB_1 (by omega)
    rw [List.length_append]
    omega
  · split
    · obtain ⟨h1, h2⟩ := mgR_2 h (by assumption)
      have w1 := wantsR_is h1
      have s1 := showsR_is h2
      have a1 := flatLen roleB 34 x.ws (fun y hy => roleB_34 (w1.2 y hy))
      have a2 := flatLen sgB 112 x.ss (fun y hy => sgB_112 (s1.2 y hy).1 (s1.2 y hy).2 (hx.2.2 y hy).2.1)
      have n2 : (numB x.wn).length = 1 := numB_1 (by omega)
      have n3 : (numB x.sn).length = 1 := numB_1 (by omega)
      simp only [List.length_append]
      omega
    · split
      · have h5 := mgR_5 h (by assumption)
        have n2 : (numB x.e.toNat).length = 1 := numB_1 (by omega)
        omega
      · simp; omega
end Go.Proofs.Ytekngjkjgmplpaa

namespace Go.Proofs.Ytekngjkjgmplpaa
set_option linter.unusedSimpArgs false
set_option linter.unusedVariables false
open Go Go.RowKit
def mgMC (d : MsgT) (cs : List Value) (M : List It) : Prop := ∃ wa wc sa sc ss, cs = mgC ⟨d.k, d.p, d.e, d.nm, wa, d.wn, wc, d.ws, sa, d.sn, sc, ss⟩ ∧ ss.map stripS = d.ss ∧ ((d.wn ≤ wc ∧ wc ≤ maxLen) ∧ (d.sn ≤ sc ∧ sc ≤ maxLen)) ∧ M = [flI wa d.wn d.ws, flI sa d.sn ss, sgsI ss]
theorem rdSg_er {xs : List UInt8} {e : Int} (h : rdSg xs = .error e) : e ≠ 0 := by
  unfold rdSg at h
  cases h1 : rdCred xs with
  | error e => rw [h1, bdm_er] at h; cases h; exact rdCred_er h1
  | ok p =>
    obtain ⟨c, us⟩ := p
    rw [h1, bdm_ok] at h
    cases h2 : rdText 8 us with
    | error e => rw [h2, bdm_er] at h; cases h; exact rdText_er h2
    | ok p =>
      obtain ⟨tg, vs⟩ := p
      rw [h2, bdm_ok] at h
      split at h
      · cases h
      · cases h; decide
theorem rdMg_er {xs : List UInt8} {e : Int} (h : rdMg xs = .error e) : e ≠ 0 := by
  have fin : ∀ {m ys}, okMg m ys = .error e → e ≠ 0 := fun {m ys} h => by
    unfold okMg at h; split at h
    · cases h
    · cases h; decide
  unfold rdMg at h
  cases h1 : rdNumber 9223372036854775807 xs with
  | error e => rw [h1, bdm_er] at h; cases h; exact rdNumber_er h1
  | ok p =>
    obtain ⟨k, us⟩ := p
    rw [h1, bdm_ok] at h
    split at h
    · cases h2 : rdName us with
      | error e => rw [h2, bdm_er] at h; cases h; exact rdName_er h2
      | ok p =>
        obtain ⟨nm, vs⟩ := p
        rw [h2, bdm_ok] at h
        cases h3 : rdNumber 2 vs with
        | error e => rw [h3, bdm_er] at h; cases h; exact rdNumber_er h3
        | ok p => obtain ⟨q, ts⟩ := p; rw [h3, bdm_ok] at h; exact fin h
    · split at h
      · cases h2 : rdNumber 16 us with
        | error e => rw [h2, bdm_er] at h; cases h; exact rdNumber_er h2
        | ok p =>
          obtain ⟨n, vs⟩ := p
          rw [h2, bdm_ok] at h
          cases h3 : rdN rdRole n vs with
          | error e => rw [h3, bdm_er] at h; cases h; exact rdN_er rdRole (fun _ _ q => rdRole_err q) h3
          | ok p =>
            obtain ⟨ws, ts⟩ := p
            rw [h3, bdm_ok] at h
            cases h4 : rdNumber 8 ts with
            | error e => rw [h4, bdm_er] at h; cases h; exact rdNumber_er h4
            | ok p =>
              obtain ⟨m, rs⟩ := p
              rw [h4, bdm_ok] at h
              cases h5 : rdN rdSg m rs with
              | error e => rw [h5, bdm_er] at h; cases h; exact rdN_er rdSg (fun _ _ q => rdSg_er q) h5
              | ok p => obtain ⟨ss, qs⟩ := p; rw [h5, bdm_ok] at h; exact fin h
      · split at h
        · cases h2 : rdNumber 99 us with
          | error e => rw [h2, bdm_er] at h; cases h; exact rdNumber_er h2
          | ok p => obtain ⟨n, vs⟩ := p; rw [h2, bdm_ok] at h; exact fin h
        · exact fin h
set_option maxRecDepth 100000 in
set_option maxHeartbeats 1000000 in
theorem msgRead1F_c {fr al : Nat → Prop} {W : World} {r b : Nat} {xs : List UInt8} (st : Own fr al W [rdI r xs, blkI b (mgC (mg0 0 0 0 []))] W) (hl : xs.length ≤ 100000) :
    Calls Try.prog 154 #[.pointer (some ⟨r, 0, none⟩), .pointer (some ⟨b, 0, none⟩)] W (GetPostM fr al W r b (rdMg xs) (mgC (mg0 0 0 0 [])) mgMC) := by
  go_enter Try.func154, Try.ntmps154
  go_wp2_with fail
  obtain ⟨fr', al', st', back⟩ := st.sub [0] (by decide) (by simp)
  (try simp only [nsl, Value.cells, unB] at st')
  refine (msgGet_c st' hl).mono ?_
  clear st'
  intro en w hen
  unfold RdC at hen
  cases hr : rdMg xs with
  | error e =>
    rw [hr] at hen
    obtain ⟨rfl, st'⟩ := hen
    replace st := back _ _ (by simp) st'
    clear back st'
    (try simp only [nsl, Value.cells, unB] at st)
    (try clear hc); have hc := st.facts; (try simp only [nfl, nft, Nat.reduceAdd] at hc)
    have HR := Lib.hid hr
    clear hr
    go_wp2_with fail
    refine ⟨rfl, ?_⟩
    unfold GetPostM
    (try rw [HR.out])
    exact ⟨rfl, st⟩
  | ok p =>
    obtain ⟨d, ys⟩ := p
    rw [hr] at hen
    obtain ⟨v, M, rfl, ⟨wa, wc, sa, sc, ss, rfl, hss, hcc, rfl⟩, st'⟩ := hen
    replace st := back _ _ (by simp) st'
    clear back st'
    (try simp only [nsl, Value.cells, unB] at st)
    (try clear hc); have hc := st.facts; (try simp only [nfl, nft, Nat.reduceAdd] at hc)
    have HR := Lib.hid hr
    have HS := Lib.hid (And.intro hss hcc)
    clear hr hss hcc
    unfold mgC at st
    unfold mgV S
    (try simp only [nsl, Value.cells, unB] at st)
    (try clear hc); have hc := st.facts; (try simp only [nfl, nft, Nat.reduceAdd] at hc)
    go_wp2_with ((((with_reducible refine wl_store ?_ (fun K hK => ?_)); rfl; refine owp_store rfl st ?_; apply Exists.intro; apply Exists.intro; refine ⟨?_, ?_, ?_⟩; (focus (go_simp; try rfl)); (focus (go_simp; try rfl)); (first | (with_reducible refine ⟨0, _, _, _, _, get0, rfl, rfl, ?_, ?_, ?_, ?_⟩) | (with_reducible refine ⟨1, _, _, _, _, get1, rfl, rfl, ?_, ?_, ?_, ?_⟩) | (with_reducible refine ⟨2, _, _, _, _, get2, rfl, rfl, ?_, ?_, ?_, ?_⟩) | (with_reducible refine ⟨3, _, _, _, _, get3, rfl, rfl, ?_, ?_, ?_, ?_⟩) | (with_reducible refine ⟨4, _, _, _, _, get4, rfl, rfl, ?_, ?_, ?_, ?_⟩) | (with_reducible refine ⟨5, _, _, _, _, get5, rfl, rfl, ?_, ?_, ?_, ?_⟩) | (with_reducible refine ⟨6, _, _, _, _, get6, rfl, rfl, ?_, ?_, ?_, ?_⟩)); (kernel_rfl); (simp [Value.cells]); (rfl); (clear st; intro w st))); (try simp only [nsl, Value.cells, unB] at st); (try clear hc); have hc := st.facts; (try simp only [nfl, nft, Nat.reduceAdd] at hc))
    go_end0
    unfold GetPostM
    (try rw [HR.out])
    exact ⟨rfl, _, _, ⟨wa, wc, sa, sc, ss, rfl, HS.out.1, HS.out.2, rfl⟩, by simpa [S, mgC] using st⟩
/-- What is read: the message that the bytes are, or the error. -/
def RdPost (res : Except Int (MsgT × List UInt8)) (m : MsgT) (er : Int) : Prop := match res with
  | .ok (d, []) => er = 0 ∧ stripM m = stripM d
  | .ok (_, _ :: _) => er = 13
  | .error e => er = e
theorem Own.mgOk {fr al : Nat → Prop} {w0 w : World} {L : List It} (st : Own fr al w0 L w) {i j l : Nat} {m : MsgT} (h1 : L[i]? = some (flI m.wa m.wn m.ws)) (h2 : L[j]? = some (flI m.sa m.sn m.ss)) (h3 : L[l]? = some (sgsI m.ss)) (hb : (m.wn ≤ m.wc ∧ m.wc ≤ maxLen) ∧ (m.sn ≤ m.sc ∧ m.sc ≤ maxLen)) : MgOk w m :=
  ⟨⟨hb.1, st.flAt h1⟩, ⟨hb.2, st.flAt h2⟩, st.sgsAt h3⟩
theorem Own.weak {fr fr' al al' : Nat → Prop} {w0 w : World} {L : List It} (h : Own fr al w0 L w) (hf : ∀ b, fr b → fr' b) (ha : ∀ b, al b → al' b) : Own fr' al' w0 L w :=
  let ⟨hm, e, s, F⟩ := h
  ⟨hm.mono hf, e, s, F.holds, F.lo, fun i b hi he hb => hf _ (F.fr i b hi he hb), fun i b hi hb hl => ha _ (F.al i b hi hb hl), F.ee, F.es⟩
/-- What a call has laid anew comes beside what there was. -/
theorem Own.join {fr al : Nat → Prop} {w0 w w' : World} {L M : List It} (st : Own fr al w0 L w) (h : Own (fun _ => False) (fun _ => False) w M w') : Own fr al w0 (L ++ M) w' := by
  obtain ⟨fr', al', st', back⟩ := st.sub [] (by simp) (by simp)
  have := back M w' (by simp) (h.weak (fun _ q => q.elim) (fun _ q => q.elim))
  simpa [putIt] using this
set_option maxRecDepth 100000 in
set_option maxHeartbeats 2000000 in
theorem msgRead_f (a : Option Addr) (n c : Nat) (xs : List UInt8) (W : World) (h : By W a n xs) (hc : n ≤ c ∧ c ≤ maxLen) (hl : xs.length ≤ 100000) :
    Calls Try.prog 78 #[.slice a n c] W fun e w' => ∃ m er, e = .returned (.tuple #[mgV m, .int .i64 er]) ∧ RdPost (rdMg xs) m er ∧ ((m.wn ≤ m.wc ∧ m.wc ≤ maxLen) ∧ (m.sn ≤ m.sc ∧ m.sc ≤ maxLen)) ∧ Own (fun _ => False) (fun _ => False) W [flI m.wa m.wn m.ws, flI m.sa m.sn m.ss, sgsI m.ss] w' := by
  have st := Own.start (fun _ => False) (fun _ => False) W
  have HB := Lib.hid h
  have HC := Lib.hid hc
  have HN : Hid (n = xs.length) := Lib.hid h.1
  clear hc h
  (try simp only [nsl, Value.cells, unB] at st)
  (try clear hc); have hc := st.facts; (try simp only [nfl, nft, Nat.reduceAdd] at hc)
  go_enter Try.func78, Try.ntmps78
  go_wp2_with ((first
        | ((with_reducible refine wl_alloc ?_ (fun K hK => ?_)); rfl; refine owp_alloc (o := ⟨some 2, _, _, _, _, _⟩) rfl st ?_; apply Exists.intro; apply Exists.intro; refine ⟨?_, ?_⟩; (focus (first | (go_simp; done) | (go_simp; rfl))); (clear st; intro b2 w hb st; clear hb))
        | ((with_reducible refine wl_alloc ?_ (fun K hK => ?_)); rfl; refine owp_alloc (o := ⟨some 4, _, _, _, _, _⟩) rfl st ?_; apply Exists.intro; apply Exists.intro; refine ⟨?_, ?_⟩; (focus (first | (go_simp; done) | (go_simp; rfl))); (clear st; intro b4 w hb st; clear hb))
        | ((with_reducible refine wl_store ?_ (fun K hK => ?_)); rfl; refine owp_store rfl st ?_; apply Exists.intro; apply Exists.intro; refine ⟨?_, ?_, ?_⟩; (focus (go_simp; try rfl)); (focus (go_simp; try rfl)); (first | (with_reducible refine ⟨0, _, _, _, _, get0, rfl, rfl, ?_, ?_, ?_, ?_⟩) | (with_reducible refine ⟨1, _, _, _, _, get1, rfl, rfl, ?_, ?_, ?_, ?_⟩) | (with_reducible refine ⟨2, _, _, _, _, get2, rfl, rfl, ?_, ?_, ?_, ?_⟩) | (with_reducible refine ⟨3, _, _, _, _, get3, rfl, rfl, ?_, ?_, ?_, ?_⟩) | (with_reducible refine ⟨4, _, _, _, _, get4, rfl, rfl, ?_, ?_, ?_, ?_⟩) | (with_reducible refine ⟨5, _, _, _, _, get5, rfl, rfl, ?_, ?_, ?_, ?_⟩) | (with_reducible refine ⟨6, _, _, _, _, get6, rfl, rfl, ?_, ?_, ?_, ?_⟩)); (kernel_rfl); (simp [Value.cells]); (rfl); (clear st; intro w st))); (try simp only [nsl, Value.cells, unB] at st); (try clear hc); have hc := st.facts; (try simp only [nfl, nft, Nat.reduceAdd] at hc))
  refine (readGetM_c (i := 1) (b := b4) (z := mgC (mg0 0 0 0 [])) st get1 (HB.out.ext st.ext0) HC.out (by have := HN.out; omega) 154 (fun _ _ => by kernel_rfl) (rdMg xs) mgMC (fun fr al w r st => msgRead1F_c st hl)).mono ?_
  rintro en w ⟨r1, cs, M, rfl, hg, st'⟩
  clear st
  cases hr : rdMg xs with
  | error e =>
    have he := rdMg_er hr
    have heb : (e != 0) = true := by simpa using he
    rw [hr] at hg
    unfold GotM at hg
    obtain ⟨rfl, rfl⟩ := hg
    have HRD := Lib.hid hr
    clear hr he
    simp only [gotE, List.set, List.append_nil] at st' ⊢
    have st := st'.keep [1, 2] (by decide) (by simp)
    clear st'
    simp only [pick, List.map_cons, List.map_nil, List.getElem?_cons_zero, List.getElem?_cons_succ, Option.getD_some, mgC, mg0, S] at st
    (try simp only [nsl, Value.cells, unB] at st)
    (try clear hc); have hc := st.facts; (try simp only [nfl, nft, Nat.reduceAdd] at hc)
    go_wp2_with ((first
          | ((with_reducible refine wl_alloc ?_ (fun K hK => ?_)); rfl; refine owp_alloc (o := ⟨some 2, _, _, _, _, _⟩) rfl st ?_; apply Exists.intro; apply Exists.intro; refine ⟨?_, ?_⟩; (focus (first | (go_simp; done) | (go_simp; rfl))); (clear st; intro b2 w hb st; clear hb))
          | ((with_reducible refine wl_alloc ?_ (fun K hK => ?_)); rfl; refine owp_alloc (o := ⟨some 4, _, _, _, _, _⟩) rfl st ?_; apply Exists.intro; apply Exists.intro; refine ⟨?_, ?_⟩; (focus (first | (go_simp; done) | (go_simp; rfl))); (clear st; intro b4 w hb st; clear hb))
          | ((with_reducible refine wl_store ?_ (fun K hK => ?_)); rfl; refine owp_store rfl st ?_; apply Exists.intro; apply Exists.intro; refine ⟨?_, ?_, ?_⟩; (focus (go_simp; try rfl)); (focus (go_simp; try rfl)); (first | (with_reducible refine ⟨0, _, _, _, _, get0, rfl, rfl, ?_, ?_, ?_, ?_⟩) | (with_reducible refine ⟨1, _, _, _, _, get1, rfl, rfl, ?_, ?_, ?_, ?_⟩) | (with_reducible refine ⟨2, _, _, _, _, get2, rfl, rfl, ?_, ?_, ?_, ?_⟩) | (with_reducible refine ⟨3, _, _, _, _, get3, rfl, rfl, ?_, ?_, ?_, ?_⟩) | (with_reducible refine ⟨4, _, _, _, _, get4, rfl, rfl, ?_, ?_, ?_, ?_⟩) | (with_reducible refine ⟨5, _, _, _, _, get5, rfl, rfl, ?_, ?_, ?_, ?_⟩) | (with_reducible refine ⟨6, _, _, _, _, get6, rfl, rfl, ?_, ?_, ?_, ?_⟩)); (kernel_rfl); (simp [Value.cells]); (rfl); (clear st; intro w st))); (try simp only [nsl, Value.cells, unB] at st); (try clear hc); have hc := st.facts; (try simp only [nfl, nft, Nat.reduceAdd] at hc))
    (try simp only [Exit.inBlock, Exit.then])
    refine bodyPost_cell2 rfl rfl (st.blk (i := 0) get0) Try.underlying111 rfl (by kernel_rfl) rfl ?_
    have st' := (((st.keep [] (by decide) (by simp)).nilFl (α := Role)).nilFl (α := SgnT)).noSgs
    exact ⟨mg0 0 0 0 [], e, rfl, by unfold RdPost; rw [HRD.out], ⟨⟨Nat.le_refl _, by simp [maxLen, mg0]⟩, ⟨Nat.le_refl _, by simp [maxLen, mg0]⟩⟩, by simpa [pick, mg0] using st'⟩
  | ok p =>
    obtain ⟨d, ys⟩ := p
    rw [hr] at hg
    unfold GotM mgMC at hg
    obtain ⟨wa, wc, sa, sc, ss, rfl, hss, hcc, rfl⟩ := hg
    have HS := Lib.hid (And.intro hss hcc)
    have HRD := Lib.hid hr
    clear hr hss hcc
    simp only [gotE, List.set, List.cons_append, List.nil_append] at st' ⊢
    have st := st'.keep [1, 2, 3, 4, 5] (by decide) (by simp)
    clear st'
    simp only [pick, List.map_cons, List.map_nil, List.getElem?_cons_zero, List.getElem?_cons_succ, Option.getD_some, mgC, S] at st
    cases ys with
    | nil =>
      simp only [if_true]
      (try simp only [nsl, Value.cells, unB] at st)
      (try clear hc); have hc := st.facts; (try simp only [nfl, nft, Nat.reduceAdd] at hc)
      go_wp2_with ((first
            | ((with_reducible refine wl_alloc ?_ (fun K hK => ?_)); rfl; refine owp_alloc (o := ⟨some 2, _, _, _, _, _⟩) rfl st ?_; apply Exists.intro; apply Exists.intro; refine ⟨?_, ?_⟩; (focus (first | (go_simp; done) | (go_simp; rfl))); (clear st; intro b2 w hb st; clear hb))
            | ((with_reducible refine wl_alloc ?_ (fun K hK => ?_)); rfl; refine owp_alloc (o := ⟨some 4, _, _, _, _, _⟩) rfl st ?_; apply Exists.intro; apply Exists.intro; refine ⟨?_, ?_⟩; (focus (first | (go_simp; done) | (go_simp; rfl))); (clear st; intro b4 w hb st; clear hb))
            | ((with_reducible refine wl_store ?_ (fun K hK => ?_)); rfl; refine owp_store rfl st ?_; apply Exists.intro; apply Exists.intro; refine ⟨?_, ?_, ?_⟩; (focus (go_simp; try rfl)); (focus (go_simp; try rfl)); (first | (with_reducible refine ⟨0, _, _, _, _, get0, rfl, rfl, ?_, ?_, ?_, ?_⟩) | (with_reducible refine ⟨1, _, _, _, _, get1, rfl, rfl, ?_, ?_, ?_, ?_⟩) | (with_reducible refine ⟨2, _, _, _, _, get2, rfl, rfl, ?_, ?_, ?_, ?_⟩) | (with_reducible refine ⟨3, _, _, _, _, get3, rfl, rfl, ?_, ?_, ?_, ?_⟩) | (with_reducible refine ⟨4, _, _, _, _, get4, rfl, rfl, ?_, ?_, ?_, ?_⟩) | (with_reducible refine ⟨5, _, _, _, _, get5, rfl, rfl, ?_, ?_, ?_, ?_⟩) | (with_reducible refine ⟨6, _, _, _, _, get6, rfl, rfl, ?_, ?_, ?_, ?_⟩)); (kernel_rfl); (simp [Value.cells]); (rfl); (clear st; intro w st))); (try simp only [nsl, Value.cells, unB] at st); (try clear hc); have hc := st.facts; (try simp only [nfl, nft, Nat.reduceAdd] at hc))
      (try simp only [Exit.inBlock, Exit.then])
      refine bodyPost_cell2 rfl rfl (st.blk (i := 0) get0) Try.underlying111 rfl (by kernel_rfl) rfl ?_
      have st' := st.keep [2, 3, 4] (by decide) (by simp)
      refine ⟨⟨d.k, d.p, d.e, d.nm, wa, d.wn, wc, d.ws, sa, d.sn, sc, ss⟩, 0, rfl, ?_, HS.out.2, by simpa [pick] using st'⟩
      unfold RdPost
      rw [HRD.out]
      refine ⟨rfl, stripM_of rfl rfl rfl rfl rfl rfl rfl ?_⟩
      rw [← HS.out.1, stripS_twice]
    | cons y ys =>
      simp only [if_neg (List.cons_ne_nil y ys)]
      (try simp only [nsl, Value.cells, unB] at st)
      (try clear hc); have hc := st.facts; (try simp only [nfl, nft, Nat.reduceAdd] at hc)
      go_wp2_with ((first
            | ((with_reducible refine wl_alloc ?_ (fun K hK => ?_)); rfl; refine owp_alloc (o := ⟨some 2, _, _, _, _, _⟩) rfl st ?_; apply Exists.intro; apply Exists.intro; refine ⟨?_, ?_⟩; (focus (first | (go_simp; done) | (go_simp; rfl))); (clear st; intro b2 w hb st; clear hb))
            | ((with_reducible refine wl_alloc ?_ (fun K hK => ?_)); rfl; refine owp_alloc (o := ⟨some 4, _, _, _, _, _⟩) rfl st ?_; apply Exists.intro; apply Exists.intro; refine ⟨?_, ?_⟩; (focus (first | (go_simp; done) | (go_simp; rfl))); (clear st; intro b4 w hb st; clear hb))
            | ((with_reducible refine wl_store ?_ (fun K hK => ?_)); rfl; refine owp_store rfl st ?_; apply Exists.intro; apply Exists.intro; refine ⟨?_, ?_, ?_⟩; (focus (go_simp; try rfl)); (focus (go_simp; try rfl)); (first | (with_reducible refine ⟨0, _, _, _, _, get0, rfl, rfl, ?_, ?_, ?_, ?_⟩) | (with_reducible refine ⟨1, _, _, _, _, get1, rfl, rfl, ?_, ?_, ?_, ?_⟩) | (with_reducible refine ⟨2, _, _, _, _, get2, rfl, rfl, ?_, ?_, ?_, ?_⟩) | (with_reducible refine ⟨3, _, _, _, _, get3, rfl, rfl, ?_, ?_, ?_, ?_⟩) | (with_reducible refine ⟨4, _, _, _, _, get4, rfl, rfl, ?_, ?_, ?_, ?_⟩) | (with_reducible refine ⟨5, _, _, _, _, get5, rfl, rfl, ?_, ?_, ?_, ?_⟩) | (with_reducible refine ⟨6, _, _, _, _, get6, rfl, rfl, ?_, ?_, ?_, ?_⟩)); (kernel_rfl); (simp [Value.cells]); (rfl); (clear st; intro w st))); (try simp only [nsl, Value.cells, unB] at st); (try clear hc); have hc := st.facts; (try simp only [nfl, nft, Nat.reduceAdd] at hc))
      (try simp only [Exit.inBlock, Exit.then])
      refine bodyPost_cell2 rfl rfl (st.blk (i := 0) get0) Try.underlying111 rfl (by kernel_rfl) rfl ?_
      have st' := (((st.keep [] (by decide) (by simp)).nilFl (α := Role)).nilFl (α := SgnT)).noSgs
      exact ⟨mg0 0 0 0 [], 13, rfl, by unfold RdPost; rw [HRD.out], ⟨⟨Nat.le_refl _, by simp [maxLen, mg0]⟩, ⟨Nat.le_refl _, by simp [maxLen, mg0]⟩⟩, by simpa [pick, mg0] using st'⟩
theorem msgRead_c {fr al : Nat → Prop} {W : World} {a : Option Addr} {n : Nat} {xs : List UInt8} (c : Nat) (st : Own fr al W [byI a n xs] W) (hc : n ≤ c ∧ c ≤ maxLen) (hl : xs.length ≤ 100000) :
    Calls Try.prog 78 #[.slice a n c] W fun e w' => ∃ m er, e = .returned (.tuple #[mgV m, .int .i64 er]) ∧ RdPost (rdMg xs) m er ∧ ((m.wn ≤ m.wc ∧ m.wc ≤ maxLen) ∧ (m.sn ≤ m.sc ∧ m.sc ≤ maxLen)) ∧ Own fr al W [byI a n xs, flI m.wa m.wn m.ws, flI m.sa m.sn m.ss, sgsI m.ss] w' := by
  refine (msgRead_f a n c xs W (st.by (i := 0) get0) hc hl).mono ?_
  rintro e w' ⟨m, er, h1, h2, h3, h4⟩
  exact ⟨m, er, h1, h2, h3, st.join h4⟩
theorem MgL_by {x y : MsgT} (h : stripM x = stripM y) (hy : MgL y) : MgL x := by
  unfold stripM at h
  injection h with h1 h2 h3 h4 _ h5 _ h6 _ h7 _ h8
  refine ⟨by rw [h5]; exact hy.1, by rw [h7]; exact hy.2.1, by rw [h4]; exact hy.2.2.1, by rw [h6]; exact hy.2.2.2.1, fun z hz => ?_⟩
  have hm : stripS z ∈ y.ss.map stripS := by rw [← h8]; exact List.mem_map.2 ⟨z, hz, rfl⟩
  obtain ⟨u, hu, e⟩ := List.mem_map.1 hm
  unfold stripS at e
  injection e with e1 _ e2
  rw [← e1, ← e2]
  exact hy.2.2.2.2 u hu
theorem mgR_L {W : World} {x : MsgT} (hx : MgOk W x) (h : mgR x = true) : MgL x := by
  have hw : x.wn = x.ws.length := hx.1.2.1
  have hs : x.sn = x.ss.length := hx.2.1.2.1
  by_cases k2 : x.k = 2
  · obtain ⟨b1, _⟩ := bare_2 h k2
    obtain ⟨h1, h2⟩ := mgR_2 h k2
    have w1 := wantsR_is h1
    have s1 := showsR_is h2
    refine ⟨by omega, by omega, by rw [b1]; decide, fun r hr => ?_, fun y hy => ?_⟩
    · have := roleR_len (w1.2 r hr); omega
    · have := (s1.2 y hy).2
      exact ⟨by omega, credR_S (s1.2 y hy).1⟩
  · obtain ⟨b1, b2, _, b4⟩ := bare_0 h k2
    refine ⟨by rw [hw, b1]; decide, by rw [hs, b2]; decide, ?_, by rw [b1]; simp, by rw [b2]; simp⟩
    by_cases k1 : x.k = 1
    · have := (nameR_len (mgR_1 h k1).1).2; omega
    · rw [(b4 k1).1]; decide
/-- What the bytes of a right message are read as. -/
theorem rdPost_self {W w' : World} {x m : MsgT} {er : Int} (hx : MgOk W x) (h : mgR x = true) (hp : RdPost (rdMg (mgB x)) m er) : er = 0 ∧ MgL m ∧ sameMg m x = true := by
  rw [rdMg_put hx h] at hp
  obtain ⟨h1, h2⟩ := hp
  have h3 : stripM m = stripM x := by rw [h2]; unfold stripM; simp only [stripS_twice]
  exact ⟨h1, MgL_by h3 (mgR_L hx h), sameMg_of h3⟩
/-- What is read is put so. -/
theorem rdPost_canon {w : World} {xb : List UInt8} {m : MsgT} {er : Int} (hm : MgOk w m) (hp : RdPost (rdMg xb) m er) : (er = 0 ∧ MgL m ∧ mgR m = true ∧ mgBy m = xb) ∨ er ≠ 0 := by
  cases hr : rdMg xb with
  | error e =>
    rw [hr] at hp
    have : er = e := hp
    subst this
    exact .inr (rdMg_er hr)
  | ok p =>
    obtain ⟨d, ys⟩ := p
    rw [hr] at hp
    cases ys with
    | nil =>
      obtain ⟨rfl, h2⟩ := hp
      obtain ⟨c1, c2⟩ := rdMg_canon hr
      have hR : mgR m = true := by rw [mgR_by h2, c2]
      refine .inl ⟨rfl, mgR_L hm hR, hR, ?_⟩
      unfold mgBy
      rw [if_pos hR, mgB_by h2, c1, List.append_nil]
    | cons y ys =>
      have : er = 13 := hp
      exact .inr (by omega)
end Go.Proofs.Ytekngjkjgmplpaa

namespace Go.Proofs.Ytekngjkjgmplpaa
set_option linter.unusedSimpArgs false
set_option linter.unusedVariables false
open Go Go.RowKit
def helloB : List UInt8 := [1, 3, 97, 110, 110, 2]
abbrev helloM : MsgT := mg0 1 2 0 [97, 110, 110]
theorem rdH1 : rdMg0 [1, 3, 97, 110, 110, 2] = .ok (helloM, []) := by kernel_rfl
theorem rdH2 : rdMg0 [3, 0] = .ok (mg0 3 0 0 [], [0]) := by kernel_rfl
theorem ntH1 : NoTurn [1, 3, 97, 110, 110, 2] := fun ys h => by
  have : rdNumber 9223372036854775807 [1, 3, 97, 110, 110, 2] = .ok (1, [3, 97, 110, 110, 2]) := by kernel_rfl
  rw [this] at h
  injection h with h
  injection h with h1 _
  cases h1
theorem ntH2 : NoTurn [3, 0] := fun ys h => by
  have : rdNumber 9223372036854775807 [3, 0] = .ok (3, [0]) := by kernel_rfl
  rw [this] at h
  injection h with h
  injection h with h1 _
  cases h1
theorem rvH1 : readV (rdMg0 [1, 3, 97, 110, 110, 2]) = .tuple #[.agg #[.int .i64 1, .int .i64 2, .int .i64 0, .string ⟨#[97, 110, 110]⟩, .slice none 0 0, .slice none 0 0], .int .i64 0] := by rw [rdH1]; rfl
theorem rvH2 : readV (rdMg0 [3, 0]) = .tuple #[.agg #[.int .i64 0, .int .i64 0, .int .i64 0, .string ⟨#[]⟩, .slice none 0 0, .slice none 0 0], .int .i64 13] := by rw [rdH2]; rfl
theorem mrH1 : mgR helloM = true := by kernel_rfl
theorem mrH2 : mgR (mg0 0 0 0 []) = false := by kernel_rfl
theorem mbH1 : mgB helloM = [1, 3, 97, 110, 110, 2] := by kernel_rfl
theorem mbH2 : mgBy (mg0 3 0 0 []) = [3] := by kernel_rfl
theorem smH1 : sameMg helloM helloM = true := by kernel_rfl
theorem emH1 : emptyR (mg0 2 0 0 []) = true := by kernel_rfl
theorem emH2 : emptyR helloM = false := by kernel_rfl
theorem lH1 : MgL helloM := mg0_L (by decide)
theorem sameMg_refl (x : MsgT) : sameMg x x = true := by unfold sameMg; rw [sameSs_refl]; simp
set_option maxRecDepth 100000 in
set_option maxHeartbeats 8000000 in
theorem msgFirst_any (W : World) : Calls Try.prog 68 #[] W fun e w' => e = .returned (.bool true) ∧ Ext W w' := by
  have st := Own.startOld W
  have hpy := fun (fr al : Nat → Prop) (W' : World) (p : Nat) (st : Own fr al W' [penI p [], oldI W] W') => msgPut_yes helloM st (mg0_ok W _ _ _ _) lH1 mrH1 (by simp)
  rw [mbH1] at hpy
  have HPY := Lib.hid hpy
  clear hpy
  (try simp only [nsl, Value.cells, unB] at st)
  (try clear hc); have hc := st.facts; (try simp only [nfl, nft, Nat.reduceAdd] at hc)
  go_enter Try.func68, Try.ntmps68
  go_wp2_with ((first
        | ((with_reducible refine wl_alloc ?_ (fun K hK => ?_)); rfl; refine owp_alloc (o := ⟨some 1, _, _, _, _, _⟩) rfl st ?_; apply Exists.intro; apply Exists.intro; refine ⟨?_, ?_⟩; (focus (first | (go_simp; done) | (go_simp; rfl))); (clear st; intro b1 w hb st; clear hb))
        | ((with_reducible refine wl_store ?_ (fun K hK => ?_)); rfl; refine owp_store rfl st ?_; apply Exists.intro; apply Exists.intro; refine ⟨?_, ?_, ?_⟩; (focus (go_simp; try rfl)); (focus (go_simp; try rfl)); (with_reducible refine ⟨1, _, _, _, _, get1, rfl, rfl, ?_, ?_, ?_, ?_⟩); (kernel_rfl); (simp [Value.cells]); (rfl); (clear st; intro w st))
        | ((with_reducible refine wl_buildSlice ?_ (fun K hK => ?_)); rfl; refine owp_buildSlice (o := ⟨some 10, _, _, _, _, _⟩) rfl st ?_; apply Exists.intro; apply Exists.intro; apply Exists.intro; apply Exists.intro; refine ⟨?_, ?_⟩; (focus (go_simp; (first | done | exact ⟨⟨rfl, rfl⟩, rfl⟩ | rfl))); (clear st; intro b10 w hb st; clear hb))
        | ((with_reducible refine wl_convert ?_ (fun K hK => ?_)); rfl; (first | (refine owp_mark (o := ⟨some 11, _, _, _, _, _⟩) rfl st 2 get2 rfl Try.underlying33 Try.underlying5 rfl rfl (fun w st => ?_))))); (try simp only [nsl, Value.cells, unB] at st); (try clear hc); have hc := st.facts; (try simp only [nfl, nft, Nat.reduceAdd] at hc))
  rw [show [UInt8.ofNat (Int.toNat 1), UInt8.ofNat (Int.toNat 3), UInt8.ofNat (Int.toNat 97), UInt8.ofNat (Int.toNat 110), UInt8.ofNat (Int.toNat 110), UInt8.ofNat (Int.toNat 2)] = [1, 3, 97, 110, 110, 2] from rfl] at st
  refine (msgRead0_any _ 6 6 [1, 3, 97, 110, 110, 2] _ (st.by (i := 2) get2) ⟨by omega, by simp [maxLen]⟩ (by decide) ntH1 (fun e h => by rw [rdH1] at h; cases h)).mono ?_
  rintro en w ⟨rfl, hx⟩
  replace st := st.ext hx
  clear hx
  rw [rvH1]
  (try simp only [nsl, Value.cells, unB] at st)
  (try clear hc); have hc := st.facts; (try simp only [nfl, nft, Nat.reduceAdd] at hc)
  go_wp2_with ((first
        | ((with_reducible refine wl_store ?_ (fun K hK => ?_)); rfl; refine owp_store rfl st ?_; apply Exists.intro; apply Exists.intro; refine ⟨?_, ?_, ?_⟩; (focus (go_simp; try rfl)); (focus (go_simp; try rfl)); (with_reducible refine ⟨3, _, _, _, _, get3, rfl, rfl, ?_, ?_, ?_, ?_⟩); (kernel_rfl); (simp [Value.cells]); (rfl); (clear st; intro w st))
        | ((with_reducible refine wl_alloc ?_ (fun K hK => ?_)); rfl; refine owp_alloc (o := ⟨some 2, _, _, _, _, _⟩) rfl st ?_; apply Exists.intro; apply Exists.intro; refine ⟨?_, ?_⟩; (focus (first | (go_simp; done) | (go_simp; rfl))); (clear st; intro b2 w hb st; clear hb))
        | ((with_reducible refine wl_buildSlice ?_ (fun K hK => ?_)); rfl; refine owp_buildSlice (o := ⟨some 16, _, _, _, _, _⟩) rfl st ?_; apply Exists.intro; apply Exists.intro; apply Exists.intro; apply Exists.intro; refine ⟨?_, ?_⟩; (focus (go_simp; (first | done | exact ⟨⟨rfl, rfl⟩, rfl⟩ | rfl))); (clear st; intro b16 w hb st; clear hb))
        | ((with_reducible refine wl_convert ?_ (fun K hK => ?_)); rfl; (first | (refine owp_mark (o := ⟨some 17, _, _, _, _, _⟩) rfl st 4 get4 rfl Try.underlying33 Try.underlying5 rfl rfl (fun w st => ?_))))); (try simp only [nsl, Value.cells, unB] at st); (try clear hc); have hc := st.facts; (try simp only [nfl, nft, Nat.reduceAdd] at hc))
  rw [show [UInt8.ofNat (Int.toNat 3), UInt8.ofNat (Int.toNat 0)] = [3, 0] from rfl] at st
  refine (msgRead0_any _ 2 2 [3, 0] _ (st.by (i := 4) get4) ⟨by omega, by simp [maxLen]⟩ (by decide) ntH2 (fun e h => by rw [rdH2] at h; cases h)).mono ?_
  rintro en w ⟨rfl, hx⟩
  replace st := st.ext hx
  clear hx
  rw [rvH2]
  (try simp only [nsl, Value.cells, unB] at st)
  (try clear hc); have hc := st.facts; (try simp only [nfl, nft, Nat.reduceAdd] at hc)
  go_wp2_with ((first
        | ((with_reducible refine wl_store ?_ (fun K hK => ?_)); rfl; refine owp_store rfl st ?_; apply Exists.intro; apply Exists.intro; refine ⟨?_, ?_, ?_⟩; (focus (go_simp; try rfl)); (focus (go_simp; try rfl)); (with_reducible refine ⟨5, _, _, _, _, get5, rfl, rfl, ?_, ?_, ?_, ?_⟩); (kernel_rfl); (simp [Value.cells]); (rfl); (clear st; intro w st))
        | ((with_reducible refine wl_alloc ?_ (fun K hK => ?_)); rfl; refine owp_alloc (o := ⟨some 4, _, _, _, _, _⟩) rfl st ?_; apply Exists.intro; apply Exists.intro; refine ⟨?_, ?_⟩; (focus (first | (go_simp; done) | (go_simp; rfl))); (clear st; intro b4 w hb st; clear hb))
        | ((with_reducible refine wl_box ?_ (fun K hK => ?_)); rfl; refine owp_box (o := ⟨some 22, _, _, _, _, _⟩) rfl st ?_; apply Exists.intro; refine ⟨?_, ?_⟩; (focus (go_simp; try rfl)); (clear st; intro b22 w hb st; clear hb))); (try simp only [nsl, Value.cells, unB] at st); (try clear hc); have hc := st.facts; (try simp only [nfl, nft, Nat.reduceAdd] at hc))
  replace st := st.newPen (i := 6) get6
  (try simp only [nsl, Value.cells, unB] at st)
  (try clear hc); have hc := st.facts; (try simp only [nfl, nft, Nat.reduceAdd] at hc)
  obtain ⟨fr', al', st', back⟩ := st.sub [6, 0] (by decide) (by simp)
  (try simp only [nsl, Value.cells, unB] at st')
  refine (HPY.out _ _ _ _ st').mono ?_
  clear st'
  rintro en w ⟨rfl, st'⟩
  replace st := back _ _ (by simp) st'
  clear back st'
  (try simp only [nsl, Value.cells, unB] at st)
  (try clear hc); have hc := st.facts; (try simp only [nfl, nft, Nat.reduceAdd] at hc)
  (try simp only [List.nil_append] at st)
  go_wp2_with fail
  refine (msgSame_any helloM helloM _ (mg0_ok _ _ _ _ _) (mg0_ok _ _ _ _ _) lH1 lH1).mono ?_
  rintro en w ⟨rfl, hx⟩
  replace st := st.ext hx
  clear hx
  rw [smH1]
  (try simp only [nsl, Value.cells, unB] at st)
  (try clear hc); have hc := st.facts; (try simp only [nfl, nft, Nat.reduceAdd] at hc)
  go_wp2_with fail
  obtain ⟨fr', al', st', back⟩ := st.sub [6] (by decide) (by simp)
  (try simp only [nsl, Value.cells, unB] at st')
  refine (penBytes_c st' (by simp)).mono ?_
  clear st'
  rintro en w ⟨pa, pc, rfl, hpc, st'⟩
  replace st := back _ _ (by simp) st'
  clear back st'
  (try simp only [nsl, Value.cells, unB] at st)
  (try clear hc); have hc := st.facts; (try simp only [nfl, nft, Nat.reduceAdd] at hc)
  simp only [List.length_cons, List.length_nil] at st hpc ⊢
  (try simp only [nsl, Value.cells, unB] at st)
  (try clear hc); have hc := st.facts; (try simp only [nfl, nft, Nat.reduceAdd] at hc)
  go_wp2_with ((((with_reducible refine wl_convert ?_ (fun K hK => ?_)); rfl; (first | (refine owp_bs (o := ⟨some 43, _, _, _, _, _⟩) rfl st 7 get7 rfl Try.underlying33 Try.underlying5 Try.underlying9 ?_)))); (try simp only [nsl, Value.cells, unB] at st); (try clear hc); have hc := st.facts; (try simp only [nfl, nft, Nat.reduceAdd] at hc))
  refine (msgBytes_any (mg0 3 0 0 []) _ (mg0_ok _ _ _ _ _) (mg0_L (by simp))).mono ?_
  rintro en w ⟨qa, qn, qc, rfl, hfr⟩
  rw [mbH2] at hfr
  have hqn : qn = 1 := (hfr.by).2.1
  subst hqn
  replace st := (st.keep [0, 1] (by decide) (by simp)).fresh hfr
  clear hfr
  (try simp only [nsl, Value.cells, unB] at st)
  (try clear hc); have hc := st.facts; (try simp only [nfl, nft, Nat.reduceAdd] at hc)
  replace st := st.freezeRow (i := 2) (xs := [3]) get2
  (try simp only [nsl, Value.cells, unB] at st)
  (try clear hc); have hc := st.facts; (try simp only [nfl, nft, Nat.reduceAdd] at hc)
  go_wp2_with ((((with_reducible refine wl_convert ?_ (fun K hK => ?_)); rfl; (first | (refine owp_bs (o := ⟨some 49, _, _, _, _, _⟩) rfl st 2 get2 rfl Try.underlying33 Try.underlying5 Try.underlying9 ?_)))); (try simp only [nsl, Value.cells, unB] at st); (try clear hc); have hc := st.facts; (try simp only [nfl, nft, Nat.reduceAdd] at hc))
  refine (msgRight_any helloM _ (mg0_ok _ _ _ _ _) lH1).mono ?_
  rintro en w ⟨rfl, hx⟩
  replace st := st.ext hx
  clear hx
  rw [mrH1]
  (try simp only [nsl, Value.cells, unB] at st)
  (try clear hc); have hc := st.facts; (try simp only [nfl, nft, Nat.reduceAdd] at hc)
  go_wp2_with fail
  refine (msgRight_any (mg0 0 0 0 []) _ (mg0_ok _ _ _ _ _) (mg0_L (by simp))).mono ?_
  rintro en w ⟨rfl, hx⟩
  replace st := st.ext hx
  clear hx
  rw [mrH2]
  (try simp only [nsl, Value.cells, unB] at st)
  (try clear hc); have hc := st.facts; (try simp only [nfl, nft, Nat.reduceAdd] at hc)
  go_wp2_with fail
  refine (msgEmpty_any (mg0 2 0 0 []) _ (mg0_ok _ _ _ _ _) (mg0_L (by simp))).mono ?_
  rintro en w ⟨rfl, hx⟩
  replace st := st.ext hx
  clear hx
  rw [emH1]
  (try simp only [nsl, Value.cells, unB] at st)
  (try clear hc); have hc := st.facts; (try simp only [nfl, nft, Nat.reduceAdd] at hc)
  go_wp2_with fail
  refine (msgEmpty_any helloM _ (mg0_ok _ _ _ _ _) lH1).mono ?_
  rintro en w ⟨rfl, hx⟩
  replace st := st.ext hx
  clear hx
  rw [emH2]
  (try simp only [nsl, Value.cells, unB] at st)
  (try clear hc); have hc := st.facts; (try simp only [nfl, nft, Nat.reduceAdd] at hc)
  go_wp2_with fail
  go_ret
  exact ⟨rfl, st.ext0⟩
end Go.Proofs.Ytekngjkjgmplpaa

namespace Go.Proofs.Ytekngjkjgmplpaa
set_option linter.unusedSimpArgs false
set_option linter.unusedVariables false
open Go Go.RowKit
set_option maxRecDepth 100000 in
set_option maxHeartbeats 16000000 in
theorem msgBack_all (x : MsgT) (a : Option Addr) (n c : Nat) (xb : List UInt8) (W : World) (hx : MgOk W x) (hb : By W a n xb) (hc : n ≤ c ∧ c ≤ maxLen) (hw : weightM x ≤ 100000000) :
    Calls Try.prog 10 #[mgV x, .slice a n c] W fun e w' => e = .returned (.bool true) ∧ Ext W w' := by
  have HX := Lib.hid hx
  have HC := Lib.hid hc
  have HN : Hid (n = xb.length) := Lib.hid hb.1
  have HG := Lib.hid (fun W' (h : Ext W W') => msgGreat_any x W' (hx.ext h) (by omega))
  have HL : Hid (weightM x ≤ 100000 → MgL x) := Lib.hid (weightM_L hx)
  obtain ⟨q, hq⟩ : ∃ q, weightM x = q := ⟨_, rfl⟩
  rw [hq] at HG HL hw
  clear hq
  have st := (Own.startOld W).addOldBy (i := 0) rfl hb
  clear hb hc
  by_cases hg : 4000 < q
  · obtain ⟨k, p, e, nm, wa, wn, wc, ws, sa, sn, sc, ss⟩ := x
    clear hx HL HX
    unfold mgV S at HG
    unfold mgV S
    (try simp only [nsl, Value.cells, unB] at st)
    (try clear hc); have hc := st.facts; (try simp only [nfl, nft, Nat.reduceAdd] at hc)
    go_enter Try.func10, Try.ntmps10
    go_wp2_with ((((with_reducible refine wl_box ?_ (fun K hK => ?_)); rfl; refine owp_box (o := ⟨some 2, _, _, _, _, _⟩) rfl st ?_; apply Exists.intro; refine ⟨?_, ?_⟩; (focus (go_simp; try rfl)); (clear st; intro b2 w hb st; clear hb))); (try simp only [nsl, Value.cells, unB] at st); (try clear hc); have hc := st.facts; (try simp only [nfl, nft, Nat.reduceAdd] at hc))
    refine (msgFirst_any _).mono ?_
    rintro en w ⟨rfl, hx⟩
    replace st := st.ext hx
    clear hx
    (try clear hc); have hc := st.facts; (try simp only [nfl, nft, Nat.reduceAdd] at hc)
    go_wp2_with fail
    refine (HG.out _ st.ext0).mono ?_
    rintro en w ⟨rfl, hx⟩
    replace st := st.ext hx
    clear hx
    (try clear hc); have hc := st.facts; (try simp only [nfl, nft, Nat.reduceAdd] at hc)
    go_wp2_with fail
    go_ret
    exact ⟨rfl, st.ext0⟩
  by_cases hn : 2500 < n
  · obtain ⟨k, p, e, nm, wa, wn, wc, ws, sa, sn, sc, ss⟩ := x
    clear hx HL HX
    unfold mgV S at HG
    unfold mgV S
    (try simp only [nsl, Value.cells, unB] at st)
    (try clear hc); have hc := st.facts; (try simp only [nfl, nft, Nat.reduceAdd] at hc)
    go_enter Try.func10, Try.ntmps10
    go_wp2_with ((((with_reducible refine wl_box ?_ (fun K hK => ?_)); rfl; refine owp_box (o := ⟨some 2, _, _, _, _, _⟩) rfl st ?_; apply Exists.intro; refine ⟨?_, ?_⟩; (focus (go_simp; try rfl)); (clear st; intro b2 w hb st; clear hb))); (try simp only [nsl, Value.cells, unB] at st); (try clear hc); have hc := st.facts; (try simp only [nfl, nft, Nat.reduceAdd] at hc))
    refine (msgFirst_any _).mono ?_
    rintro en w ⟨rfl, hx⟩
    replace st := st.ext hx
    clear hx
    (try clear hc); have hc := st.facts; (try simp only [nfl, nft, Nat.reduceAdd] at hc)
    go_wp2_with fail
    refine (HG.out _ st.ext0).mono ?_
    rintro en w ⟨rfl, hx⟩
    replace st := st.ext hx
    clear hx
    (try clear hc); have hc := st.facts; (try simp only [nfl, nft, Nat.reduceAdd] at hc)
    go_wp2_with fail
    go_ret
    exact ⟨rfl, st.ext0⟩
  have lx := HL.out (by omega)
  have HMR := Lib.hid (fun W' (h : Ext W W') => msgRight_any x W' (hx.ext h) lx)
  have HBY := Lib.hid (fun W' (h : Ext W W') => msgBytes_any x W' (hx.ext h) lx)
  have HSM := Lib.hid (fun W' (m : MsgT) (hm : MgOk W' m) (h : Ext W W') (lm : MgL m) => msgSame_any m x W' hm (hx.ext h) lm lx)
  have HUL : Hid (mgR x = true → (mgB x).length ≤ 2048) := Lib.hid (mgB_2048 hx)
  have HV : Hid (mgR x = true → mgBy x = mgB x) := Lib.hid (fun h => by unfold mgBy; rw [if_pos h])
  have HP : Hid (mgR x = true → ∀ m er, RdPost (rdMg (mgB x)) m er → er = 0 ∧ MgL m ∧ sameMg m x = true) := Lib.hid (fun h m er hp => rdPost_self (w' := W) hx h hp)
  obtain ⟨sx, hsx⟩ : ∃ f : MsgT → Bool, (fun m => sameMg m x) = f := ⟨_, rfl⟩
  have hsx2 : ∀ m, sameMg m x = sx m := fun m => by rw [← hsx]
  simp only [hsx2] at HSM HP
  obtain ⟨u, hu⟩ : ∃ u, mgB x = u := ⟨_, rfl⟩
  obtain ⟨v, hv⟩ : ∃ v, mgBy x = v := ⟨_, rfl⟩
  rw [hu] at HUL HV HP
  rw [hv] at HBY HV
  obtain ⟨mr, hmr⟩ : ∃ r, mgR x = r := ⟨_, rfl⟩
  rw [hmr] at HMR HUL HV HP
  clear hsx hsx2 hu hv hmr lx hx HL HX
  obtain ⟨k, p, e, nm, wa, wn, wc, ws, sa, sn, sc, ss⟩ := x
  unfold mgV S at HG HMR HBY
  unfold mgV S
  (try simp only [nsl, Value.cells, unB] at st)
  (try clear hc); have hc := st.facts; (try simp only [nfl, nft, Nat.reduceAdd] at hc)
  cases mr with
  | false =>
    go_enter Try.func10, Try.ntmps10
    go_wp2_with ((((with_reducible refine wl_box ?_ (fun K hK => ?_)); rfl; refine owp_box (o := ⟨some 2, _, _, _, _, _⟩) rfl st ?_; apply Exists.intro; refine ⟨?_, ?_⟩; (focus (go_simp; try rfl)); (clear st; intro b2 w hb st; clear hb))); (try simp only [nsl, Value.cells, unB] at st); (try clear hc); have hc := st.facts; (try simp only [nfl, nft, Nat.reduceAdd] at hc))
    refine (msgFirst_any _).mono ?_
    rintro en w ⟨rfl, hx⟩
    replace st := st.ext hx
    clear hx
    (try clear hc); have hc := st.facts; (try simp only [nfl, nft, Nat.reduceAdd] at hc)
    go_wp2_with fail
    refine (HG.out _ st.ext0).mono ?_
    rintro en w ⟨rfl, hx⟩
    replace st := st.ext hx
    clear hx
    (try clear hc); have hc := st.facts; (try simp only [nfl, nft, Nat.reduceAdd] at hc)
    go_wp2_with fail
    refine (HMR.out _ st.ext0).mono ?_
    rintro en w ⟨rfl, hx⟩
    replace st := st.ext hx
    clear hx
    (try clear hc); have hc := st.facts; (try simp only [nfl, nft, Nat.reduceAdd] at hc)
    go_wp2_with fail
    obtain ⟨fr', al', st', back⟩ := st.sub [1] (by decide) (by simp)
    (try simp only [nsl, Value.cells, unB] at st')
    refine (msgRead_c c st' HC.out (by have := HN.out; omega)).mono ?_
    clear st'
    rintro en w ⟨m, er, rfl, hp, hcc, st'⟩
    replace st := back _ _ (by simp) st'
    clear back st'
    (try simp only [nsl, Value.cells, unB] at st)
    (try clear hc); have hc := st.facts; (try simp only [nfl, nft, Nat.reduceAdd] at hc)
    have hm := st.mgOk (i := 3) (j := 4) (l := 5) (m := m) get3 get4 get5 hcc
    rcases rdPost_canon hm hp with ⟨rfl, hml, hmr, hby⟩ | he
    · have HM := Lib.hid (And.intro hml (And.intro hmr hby))
      have HCC := Lib.hid hcc
      clear hm hp hml hmr hby hcc
      have HMR2 := Lib.hid (fun W' (h : MgOk W' m) => msgRight_any m W' h HM.out.1)
      have HBY2 := Lib.hid (fun W' (h : MgOk W' m) => msgBytes_any m W' h HM.out.1)
      have HOK : Hid (∀ (w : World), Fl w m.wa m.wn m.ws → Fl w m.sa m.sn m.ss → (∀ y ∈ m.ss, SgOk w y) → MgOk w m) := Lib.hid (fun w h1 h2 h3 => ⟨⟨HCC.out.1, h1⟩, ⟨HCC.out.2, h2⟩, h3⟩)
      rw [HM.out.2.1] at HMR2
      rw [HM.out.2.2] at HBY2
      clear HM HCC
      obtain ⟨mk, mp, me, mnm, mwa, mwn, mwc, mws, msa, msn, msc, mss⟩ := m
      simp only at HOK
      unfold mgV S at HMR2 HBY2
      unfold mgV S
      (try simp only [nsl, Value.cells, unB] at st)
      (try clear hc); have hc := st.facts; (try simp only [nfl, nft, Nat.reduceAdd] at hc)
      go_wp2_with ((first
            | ((with_reducible refine wl_store ?_ (fun K hK => ?_)); rfl; refine owp_store rfl st ?_; apply Exists.intro; apply Exists.intro; refine ⟨?_, ?_, ?_⟩; (focus (go_simp; try rfl)); (focus (go_simp; try rfl)); (with_reducible refine ⟨6, _, _, _, _, get6, rfl, rfl, ?_, ?_, ?_, ?_⟩); (kernel_rfl); (simp [Value.cells]); (rfl); (clear st; intro w st))
            | ((with_reducible refine wl_alloc ?_ (fun K hK => ?_)); rfl; refine owp_alloc (o := ⟨some 8, _, _, _, _, _⟩) rfl st ?_; apply Exists.intro; apply Exists.intro; refine ⟨?_, ?_⟩; (focus (first | (go_simp; done) | (go_simp; rfl))); (clear st; intro b8 w hb st; clear hb))); (try simp only [nsl, Value.cells, unB] at st); (try clear hc); have hc := st.facts; (try simp only [nfl, nft, Nat.reduceAdd] at hc))
      refine Rg4.wp_region4_eq #[0, 1, 3, 7, 15, 31, 63, 127, 255, 63, 575, 2047, 4095, 8191, 16383] [4, 7] [3, 6, 8] (fun W' => Blk W' b8 [.int .i64 mk, .int .i64 mp, .int .i64 me, .string ⟨mnm.toArray⟩, .slice mwa mwn mwc, .slice msa msn msc] ∧ By W' a n xb) [0, 1, 2, 3, 4, 5, 6, 9, 10, 7, 8, 11, 12, 13, 14] (by kernel_rfl) (by kernel_rfl) (by kernel_rfl) (by kernel_rfl) (show Rg4.PB _ by repeat (first | with_reducible exact Rg4.pb_body | with_reducible exact Rg4.pb_bodyD rfl | with_reducible refine Rg4.pb_then ?_ | with_reducible refine Rg4.pb_inBlock ?_ | with_reducible refine Rg4.pb_noGoto ?_)) (⟨st.drew.blk (i := 6) get6, st.drew.by (i := 1) get1⟩) ?_
      replace st := st.drew
      change Rg4.wp4 _ _ _ _ _ _ _ _ _ (World.drew _) _ _
      generalize World.drew _ = w at st ⊢
      (try clear hc); have hc := st.facts; (try simp only [nfl, nft, Nat.reduceAdd] at hc)
      iterate 3 (refine Rg4.w4_any (Rg4.want_none rfl) rfl ?_; apply Exists.intro; refine ⟨fun w' => ?_, ?_⟩; (focus (first | (go_simp; done) | (go_simp; first | rfl | (rw [if_neg] <;> first | rfl | omega) | (rw [if_pos] <;> first | rfl | omega)))); (try simp only [Rg4.nrm]))
      (first | (refine Rg4.w4_read (Rg4.wt rfl rfl rfl) rfl rfl ?_; apply Exists.intro; refine ⟨fun w' hw' hcl' => ?_, ?_⟩; focus (subst hw'; (try (have z4 := conv_bs (P := Try.prog) (src := 33) (dst := 9) (c := qc2) Try.underlying33 Try.underlying5 Try.underlying9 (st.by (i := 7) get7); unfold S at z4)); (focus (first | (go_simp; done) | (go_simp; first | rfl | (rw [if_neg] <;> first | rfl | omega) | (rw [if_pos] <;> first | rfl | omega))))); (try simp only [Rg4.nrm])) | (refine Rg4.w4_skip (Rg4.uw rfl rfl rfl) ?_; (try simp only [Rg4.nrm])) | (refine Rg4.w4_skip (Rg4.un rfl rfl rfl) ?_; (try simp only [Rg4.nrm])))
      refine Rg4.w4_bar (Rg4.want_of 2 49 false rfl rfl rfl) rfl (fun w' hw' hcl _ K hK => ?_)
      subst hw'
      go_wp2_with fail
      refine (HMR2.out _ (HOK.out _ (st.flAt (i := 3) get3) (st.flAt (i := 4) get4) (st.sgsAt (i := 5) get5))).mono ?_
      rintro en w ⟨rfl, hx⟩
      replace st := st.ext hx
      clear hx
      (try simp only [nsl, Value.cells, unB] at st)
      (try clear hc); have hc := st.facts; (try simp only [nfl, nft, Nat.reduceAdd] at hc)
      refine hK _ _ ⟨⟨st.blk (i := 6) get6, st.by (i := 1) get1⟩, ?_⟩
      clear hK
      (try simp only [Rg4.nrm])
      (first | (refine Rg4.w4_any (Rg4.wt rfl rfl rfl) rfl ?_; apply Exists.intro; refine ⟨fun w' => ?_, ?_⟩; (focus (first | (go_simp; done) | (go_simp; first | rfl | (rw [if_neg] <;> first | rfl | omega) | (rw [if_pos] <;> first | rfl | omega)))); (try simp only [Rg4.nrm])) | (refine Rg4.w4_skip (Rg4.uw rfl rfl rfl) ?_; (try simp only [Rg4.nrm])) | (refine Rg4.w4_skip (Rg4.un rfl rfl rfl) ?_; (try simp only [Rg4.nrm])))
      (first | (refine Rg4.w4_read (Rg4.wt rfl rfl rfl) rfl rfl ?_; apply Exists.intro; refine ⟨fun w' hw' hcl' => ?_, ?_⟩; focus (subst hw'; (try (have z4 := conv_bs (P := Try.prog) (src := 33) (dst := 9) (c := qc2) Try.underlying33 Try.underlying5 Try.underlying9 (st.by (i := 7) get7); unfold S at z4)); (focus (first | (go_simp; done) | (go_simp; first | rfl | (rw [if_neg] <;> first | rfl | omega) | (rw [if_pos] <;> first | rfl | omega))))); (try simp only [Rg4.nrm])) | (refine Rg4.w4_skip (Rg4.uw rfl rfl rfl) ?_; (try simp only [Rg4.nrm])) | (refine Rg4.w4_skip (Rg4.un rfl rfl rfl) ?_; (try simp only [Rg4.nrm])))
      (first | (refine Rg4.w4_any (Rg4.wt rfl rfl rfl) rfl ?_; apply Exists.intro; refine ⟨fun w' => ?_, ?_⟩; (focus (first | (go_simp; done) | (go_simp; first | rfl | (rw [if_neg] <;> first | rfl | omega) | (rw [if_pos] <;> first | rfl | omega)))); (try simp only [Rg4.nrm])) | (refine Rg4.w4_skip (Rg4.uw rfl rfl rfl) ?_; (try simp only [Rg4.nrm])) | (refine Rg4.w4_skip (Rg4.un rfl rfl rfl) ?_; (try simp only [Rg4.nrm])))
      (first | (refine Rg4.w4_cl (Rg4.wt rfl rfl rfl) rfl ?_; apply Exists.intro; refine ⟨fun w' hcl => ?_, ?_⟩; (focus (have q0 := Blk.cell hcl.1 0; have q1 := Blk.cell hcl.1 1; have q2 := Blk.cell hcl.1 2; have q3 := Blk.cell hcl.1 3; have q4 := Blk.cell hcl.1 4; have q5 := Blk.cell hcl.1 5; have q6 := conv_bs (P := Try.prog) (src := 33) (dst := 9) (c := c) Try.underlying33 Try.underlying5 Try.underlying9 hcl.2; unfold S at q6; (try simp at q0 q1 q2 q3 q4 q5); (focus (first | (go_simp; done) | (go_simp; first | rfl | (rw [if_neg] <;> first | rfl | omega) | (rw [if_pos] <;> first | rfl | omega)))))); (try simp only [Rg4.nrm])) | (refine Rg4.w4_skip (Rg4.uw rfl rfl rfl) ?_; (try simp only [Rg4.nrm])) | (refine Rg4.w4_skip (Rg4.un rfl rfl rfl) ?_; (try simp only [Rg4.nrm])))
      refine Rg4.w4_bar (Rg4.want_of 5 52 true rfl rfl rfl) rfl (fun w' hw' hcl _ K hK => ?_)
      subst hw'
      go_wp2_with fail
      refine (HBY2.out _ (HOK.out _ (st.flAt (i := 3) get3) (st.flAt (i := 4) get4) (st.sgsAt (i := 5) get5))).mono ?_
      rintro en w ⟨qa2, qn2, qc2, rfl, hfr⟩
      have hqn : qn2 = xb.length := (hfr.by).2.1
      subst hqn
      replace st := st.fresh hfr
      clear hfr
      replace st := st.freezeRow (i := 7) (xs := xb) get7
      (try simp only [nsl, Value.cells, unB] at st)
      (try clear hc); have hc := st.facts; (try simp only [nfl, nft, Nat.reduceAdd] at hc)
      refine hK _ _ ⟨⟨st.blk (i := 6) get6, st.by (i := 1) get1⟩, ?_⟩
      clear hK
      (try simp only [Rg4.nrm])
      (first | (refine Rg4.w4_read (Rg4.wt rfl rfl rfl) rfl rfl ?_; apply Exists.intro; refine ⟨fun w' hw' hcl' => ?_, ?_⟩; focus (subst hw'; (try (have z4 := conv_bs (P := Try.prog) (src := 33) (dst := 9) (c := qc2) Try.underlying33 Try.underlying5 Try.underlying9 (st.by (i := 7) get7); unfold S at z4)); (focus (first | (go_simp; done) | (go_simp; first | rfl | (rw [if_neg] <;> first | rfl | omega) | (rw [if_pos] <;> first | rfl | omega))))); (try simp only [Rg4.nrm])) | (refine Rg4.w4_skip (Rg4.uw rfl rfl rfl) ?_; (try simp only [Rg4.nrm])) | (refine Rg4.w4_skip (Rg4.un rfl rfl rfl) ?_; (try simp only [Rg4.nrm])))
      iterate 2 (first | (refine Rg4.w4_any (Rg4.wt rfl rfl rfl) rfl ?_; apply Exists.intro; refine ⟨fun w' => ?_, ?_⟩; (focus (first | (go_simp; done) | (go_simp; first | rfl | (rw [if_neg] <;> first | rfl | omega) | (rw [if_pos] <;> first | rfl | omega)))); (try simp only [Rg4.nrm])) | (refine Rg4.w4_skip (Rg4.uw rfl rfl rfl) ?_; (try simp only [Rg4.nrm])) | (refine Rg4.w4_skip (Rg4.un rfl rfl rfl) ?_; (try simp only [Rg4.nrm])))
      iterate 2 (refine Rg4.w4_any (Rg4.want_none rfl) rfl ?_; apply Exists.intro; refine ⟨fun w' => ?_, ?_⟩; (focus (first | (go_simp; done) | (go_simp; first | rfl | (rw [if_neg] <;> first | rfl | omega) | (rw [if_pos] <;> first | rfl | omega)))); (try simp only [Rg4.nrm]))
      refine Rg4.w4_nil (fun w' hw' hcl' _ => ?_); subst hw'; clear hcl'
      go_wp2_with fail
      go_ret
      exact ⟨rfl, st.ext0⟩
    · have heb : (er != 0) = true := by simpa using he
      have HE := Lib.hid he
      clear hm hp hcc he
      obtain ⟨mk, mp, me, mnm, mwa, mwn, mwc, mws, msa, msn, msc, mss⟩ := m
      unfold mgV S
      (try simp only [nsl, Value.cells, unB] at st)
      (try clear hc); have hc := st.facts; (try simp only [nfl, nft, Nat.reduceAdd] at hc)
      go_wp2_with ((first
            | ((with_reducible refine wl_store ?_ (fun K hK => ?_)); rfl; refine owp_store rfl st ?_; apply Exists.intro; apply Exists.intro; refine ⟨?_, ?_, ?_⟩; (focus (go_simp; try rfl)); (focus (go_simp; try rfl)); (with_reducible refine ⟨6, _, _, _, _, get6, rfl, rfl, ?_, ?_, ?_, ?_⟩); (kernel_rfl); (simp [Value.cells]); (rfl); (clear st; intro w st))
            | ((with_reducible refine wl_alloc ?_ (fun K hK => ?_)); rfl; refine owp_alloc (o := ⟨some 8, _, _, _, _, _⟩) rfl st ?_; apply Exists.intro; apply Exists.intro; refine ⟨?_, ?_⟩; (focus (first | (go_simp; done) | (go_simp; rfl))); (clear st; intro b8 w hb st; clear hb))); (try simp only [nsl, Value.cells, unB] at st); (try clear hc); have hc := st.facts; (try simp only [nfl, nft, Nat.reduceAdd] at hc))
      refine Rg4.wp_region4_eq #[0, 1, 3, 7, 15, 31, 63, 127, 255, 63, 575, 2047, 4095, 8191, 16383] [4, 7] [3, 6, 8] (fun W' => Blk W' b8 [.int .i64 mk, .int .i64 mp, .int .i64 me, .string ⟨mnm.toArray⟩, .slice mwa mwn mwc, .slice msa msn msc]) [0, 1, 2, 3, 4, 5, 6, 9, 10, 7, 8, 11, 12, 13, 14] (by kernel_rfl) (by kernel_rfl) (by kernel_rfl) (by kernel_rfl) (show Rg4.PB _ by repeat (first | with_reducible exact Rg4.pb_body | with_reducible exact Rg4.pb_bodyD rfl | with_reducible refine Rg4.pb_then ?_ | with_reducible refine Rg4.pb_inBlock ?_ | with_reducible refine Rg4.pb_noGoto ?_)) (st.drew.blk (i := 6) get6) ?_
      replace st := st.drew
      change Rg4.wp4 _ _ _ _ _ _ _ _ _ (World.drew _) _ _
      generalize World.drew _ = w at st ⊢
      (try clear hc); have hc := st.facts; (try simp only [nfl, nft, Nat.reduceAdd] at hc)
      iterate 3 (refine Rg4.w4_any (Rg4.want_none rfl) rfl ?_; apply Exists.intro; refine ⟨fun w' => ?_, ?_⟩; (focus (first | (go_simp; done) | (go_simp; first | rfl | (rw [if_neg] <;> first | rfl | omega) | (rw [if_pos] <;> first | rfl | omega)))); (try simp only [Rg4.nrm]))
      (first | (refine Rg4.w4_read (Rg4.wt rfl rfl rfl) rfl rfl ?_; apply Exists.intro; refine ⟨fun w' hw' hcl' => ?_, ?_⟩; focus (subst hw'; (focus (first | (go_simp; done) | (go_simp; first | rfl | (rw [if_neg] <;> first | rfl | omega) | (rw [if_pos] <;> first | rfl | omega))))); (try simp only [Rg4.nrm])) | (refine Rg4.w4_skip (Rg4.uw rfl rfl rfl) ?_; (try simp only [Rg4.nrm])) | (refine Rg4.w4_skip (Rg4.un rfl rfl rfl) ?_; (try simp only [Rg4.nrm])))
      first | refine Rg4.w4_skip (Rg4.uw rfl rfl rfl) ?_ | refine Rg4.w4_skip (Rg4.un rfl rfl rfl) ?_
      (try simp only [Rg4.nrm])
      (first | (refine Rg4.w4_any (Rg4.wt rfl rfl rfl) rfl ?_; apply Exists.intro; refine ⟨fun w' => ?_, ?_⟩; (focus (first | (go_simp; done) | (go_simp; first | rfl | (rw [if_neg] <;> first | rfl | omega) | (rw [if_pos] <;> first | rfl | omega)))); (try simp only [Rg4.nrm])) | (refine Rg4.w4_skip (Rg4.uw rfl rfl rfl) ?_; (try simp only [Rg4.nrm])) | (refine Rg4.w4_skip (Rg4.un rfl rfl rfl) ?_; (try simp only [Rg4.nrm])))
      (first | (refine Rg4.w4_read (Rg4.wt rfl rfl rfl) rfl rfl ?_; apply Exists.intro; refine ⟨fun w' hw' hcl' => ?_, ?_⟩; focus (subst hw'; (focus (first | (go_simp; done) | (go_simp; first | rfl | (rw [if_neg] <;> first | rfl | omega) | (rw [if_pos] <;> first | rfl | omega))))); (try simp only [Rg4.nrm])) | (refine Rg4.w4_skip (Rg4.uw rfl rfl rfl) ?_; (try simp only [Rg4.nrm])) | (refine Rg4.w4_skip (Rg4.un rfl rfl rfl) ?_; (try simp only [Rg4.nrm])))
      (first | (refine Rg4.w4_any (Rg4.wt rfl rfl rfl) rfl ?_; apply Exists.intro; refine ⟨fun w' => ?_, ?_⟩; (focus (first | (go_simp; done) | (go_simp; first | rfl | (rw [if_neg] <;> first | rfl | omega) | (rw [if_pos] <;> first | rfl | omega)))); (try simp only [Rg4.nrm])) | (refine Rg4.w4_skip (Rg4.uw rfl rfl rfl) ?_; (try simp only [Rg4.nrm])) | (refine Rg4.w4_skip (Rg4.un rfl rfl rfl) ?_; (try simp only [Rg4.nrm])))
      (first | (refine Rg4.w4_cl (Rg4.wt rfl rfl rfl) rfl ?_; apply Exists.intro; refine ⟨fun w' hcl => ?_, ?_⟩; (focus (have q0 := Blk.cell hcl 0; (focus (first | (go_simp; done) | (go_simp; first | rfl | (rw [if_neg] <;> first | rfl | omega) | (rw [if_pos] <;> first | rfl | omega)))))); (try simp only [Rg4.nrm])) | (refine Rg4.w4_skip (Rg4.uw rfl rfl rfl) ?_; (try simp only [Rg4.nrm])) | (refine Rg4.w4_skip (Rg4.un rfl rfl rfl) ?_; (try simp only [Rg4.nrm])))
      first | refine Rg4.w4_skip (Rg4.uw rfl rfl rfl) ?_ | refine Rg4.w4_skip (Rg4.un rfl rfl rfl) ?_
      (try simp only [Rg4.nrm])
      (first | (refine Rg4.w4_read (Rg4.wt rfl rfl rfl) rfl rfl ?_; apply Exists.intro; refine ⟨fun w' hw' hcl' => ?_, ?_⟩; focus (subst hw'; (focus (first | (go_simp; done) | (go_simp; first | rfl | (rw [if_neg] <;> first | rfl | omega) | (rw [if_pos] <;> first | rfl | omega))))); (try simp only [Rg4.nrm])) | (refine Rg4.w4_skip (Rg4.uw rfl rfl rfl) ?_; (try simp only [Rg4.nrm])) | (refine Rg4.w4_skip (Rg4.un rfl rfl rfl) ?_; (try simp only [Rg4.nrm])))
      iterate 2 (first | (refine Rg4.w4_any (Rg4.wt rfl rfl rfl) rfl ?_; apply Exists.intro; refine ⟨fun w' => ?_, ?_⟩; (focus (first | (go_simp; done) | (go_simp; first | rfl | (rw [if_neg] <;> first | rfl | omega) | (rw [if_pos] <;> first | rfl | omega)))); (try simp only [Rg4.nrm])) | (refine Rg4.w4_skip (Rg4.uw rfl rfl rfl) ?_; (try simp only [Rg4.nrm])) | (refine Rg4.w4_skip (Rg4.un rfl rfl rfl) ?_; (try simp only [Rg4.nrm])))
      iterate 2 (refine Rg4.w4_any (Rg4.want_none rfl) rfl ?_; apply Exists.intro; refine ⟨fun w' => ?_, ?_⟩; (focus (first | (go_simp; done) | (go_simp; first | rfl | (rw [if_neg] <;> first | rfl | omega) | (rw [if_pos] <;> first | rfl | omega)))); (try simp only [Rg4.nrm]))
      refine Rg4.w4_nil (fun w' hw' hcl' _ => ?_); subst hw'; clear hcl'
      go_wp2_with fail
      go_ret
      exact ⟨rfl, st.ext0⟩
  | true =>
    have hul := HUL.out (by trivial)
    obtain rfl : v = u := HV.out (by trivial)
    go_enter Try.func10, Try.ntmps10
    go_wp2_with ((((with_reducible refine wl_box ?_ (fun K hK => ?_)); rfl; refine owp_box (o := ⟨some 2, _, _, _, _, _⟩) rfl st ?_; apply Exists.intro; refine ⟨?_, ?_⟩; (focus (go_simp; try rfl)); (clear st; intro b2 w hb st; clear hb))); (try simp only [nsl, Value.cells, unB] at st); (try clear hc); have hc := st.facts; (try simp only [nfl, nft, Nat.reduceAdd] at hc))
    refine (msgFirst_any _).mono ?_
    rintro en w ⟨rfl, hx⟩
    replace st := st.ext hx
    clear hx
    (try clear hc); have hc := st.facts; (try simp only [nfl, nft, Nat.reduceAdd] at hc)
    go_wp2_with fail
    refine (HG.out _ st.ext0).mono ?_
    rintro en w ⟨rfl, hx⟩
    replace st := st.ext hx
    clear hx
    (try clear hc); have hc := st.facts; (try simp only [nfl, nft, Nat.reduceAdd] at hc)
    go_wp2_with fail
    refine (HMR.out _ st.ext0).mono ?_
    rintro en w ⟨rfl, hx⟩
    replace st := st.ext hx
    clear hx
    (try clear hc); have hc := st.facts; (try simp only [nfl, nft, Nat.reduceAdd] at hc)
    go_wp2_with fail
    refine (HBY.out _ st.ext0).mono ?_
    rintro en w ⟨qa, qn, qc, rfl, hfr⟩
    have hqn : qn = v.length := (hfr.by).2.1
    have hqc := (hfr.by).1
    subst hqn
    replace st := st.fresh hfr
    clear hfr
    replace st := st.freezeRow (i := 3) (xs := v) get3
    (try simp only [nsl, Value.cells, unB] at st)
    (try clear hc); have hc := st.facts; (try simp only [nfl, nft, Nat.reduceAdd] at hc)
    go_wp2_with fail
    obtain ⟨fr', al', st', back⟩ := st.sub [3] (by decide) (by simp)
    (try simp only [nsl, Value.cells, unB] at st')
    refine (msgRead_c qc st' hqc (by omega)).mono ?_
    clear st'
    rintro en w ⟨m, er, rfl, hp, hcc, st'⟩
    replace st := back _ _ (by simp) st'
    clear back st'
    (try simp only [nsl, Value.cells, unB] at st)
    (try clear hc); have hc := st.facts; (try simp only [nfl, nft, Nat.reduceAdd] at hc)
    obtain ⟨rfl, hml, hsm⟩ := HP.out (by trivial) m er hp
    have HCC := Lib.hid hcc
    have HM := Lib.hid (And.intro hml hsm)
    have HSM2 := Lib.hid (fun W' (h : MgOk W' m) (hw : Ext W W') => HSM.out W' m h hw HM.out.1)
    have HOK : Hid (∀ (w : World), Fl w m.wa m.wn m.ws → Fl w m.sa m.sn m.ss → (∀ y ∈ m.ss, SgOk w y) → MgOk w m) := Lib.hid (fun w h1 h2 h3 => ⟨⟨HCC.out.1, h1⟩, ⟨HCC.out.2, h2⟩, h3⟩)
    rw [HM.out.2] at HSM2
    clear hp hcc hml hsm HM HCC HSM HP
    obtain ⟨nk, np, ne, nnm, nwa, nwn, nwc, nws, nsa, nsn, nsc, nss⟩ := m
    simp only at HOK
    unfold mgV S at HSM2
    unfold mgV S
    (try simp only [nsl, Value.cells, unB] at st)
    (try clear hc); have hc := st.facts; (try simp only [nfl, nft, Nat.reduceAdd] at hc)
    go_wp2_with ((first
          | ((with_reducible refine wl_alloc ?_ (fun K hK => ?_)); rfl; refine owp_alloc (o := ⟨some 6, _, _, _, _, _⟩) rfl st ?_; apply Exists.intro; apply Exists.intro; refine ⟨?_, ?_⟩; (focus (first | (go_simp; done) | (go_simp; rfl))); (clear st; intro b6 w hb st; clear hb))
          | ((with_reducible refine wl_store ?_ (fun K hK => ?_)); rfl; refine owp_store rfl st ?_; apply Exists.intro; apply Exists.intro; refine ⟨?_, ?_, ?_⟩; (focus (go_simp; try rfl)); (focus (go_simp; try rfl)); (with_reducible refine ⟨7, _, _, _, _, get7, rfl, rfl, ?_, ?_, ?_, ?_⟩); (kernel_rfl); (simp [Value.cells]); (rfl); (clear st; intro w st))); (try simp only [nsl, Value.cells, unB] at st); (try clear hc); have hc := st.facts; (try simp only [nfl, nft, Nat.reduceAdd] at hc))
    refine (HSM2.out _ (HOK.out _ (st.flAt (i := 4) get4) (st.flAt (i := 5) get5) (st.sgsAt (i := 6) get6)) st.ext0).mono ?_
    rintro en w ⟨rfl, hx⟩
    replace st := st.ext hx
    clear hx
    (try simp only [nsl, Value.cells, unB] at st)
    (try clear hc); have hc := st.facts; (try simp only [nfl, nft, Nat.reduceAdd] at hc)
    go_wp2_with fail
    obtain ⟨fr', al', st', back⟩ := st.sub [1] (by decide) (by simp)
    (try simp only [nsl, Value.cells, unB] at st')
    refine (msgRead_c c st' HC.out (by have := HN.out; omega)).mono ?_
    clear st'
    rintro en w ⟨m, er, rfl, hp, hcc, st'⟩
    replace st := back _ _ (by simp) st'
    clear back st'
    (try simp only [nsl, Value.cells, unB] at st)
    (try clear hc); have hc := st.facts; (try simp only [nfl, nft, Nat.reduceAdd] at hc)
    have hm := st.mgOk (i := 8) (j := 9) (l := 10) (m := m) get8 get9 get10 hcc
    rcases rdPost_canon hm hp with ⟨rfl, hml, hmr, hby⟩ | he
    · have HM := Lib.hid (And.intro hml (And.intro hmr hby))
      have HCC := Lib.hid hcc
      clear hm hp hml hmr hby hcc
      have HMR2 := Lib.hid (fun W' (h : MgOk W' m) => msgRight_any m W' h HM.out.1)
      have HBY2 := Lib.hid (fun W' (h : MgOk W' m) => msgBytes_any m W' h HM.out.1)
      have HOK : Hid (∀ (w : World), Fl w m.wa m.wn m.ws → Fl w m.sa m.sn m.ss → (∀ y ∈ m.ss, SgOk w y) → MgOk w m) := Lib.hid (fun w h1 h2 h3 => ⟨⟨HCC.out.1, h1⟩, ⟨HCC.out.2, h2⟩, h3⟩)
      rw [HM.out.2.1] at HMR2
      rw [HM.out.2.2] at HBY2
      clear HM HCC
      obtain ⟨mk, mp, me, mnm, mwa, mwn, mwc, mws, msa, msn, msc, mss⟩ := m
      simp only at HOK
      unfold mgV S at HMR2 HBY2
      unfold mgV S
      (try simp only [nsl, Value.cells, unB] at st)
      (try clear hc); have hc := st.facts; (try simp only [nfl, nft, Nat.reduceAdd] at hc)
      go_wp2_with ((first
            | ((with_reducible refine wl_store ?_ (fun K hK => ?_)); rfl; refine owp_store rfl st ?_; apply Exists.intro; apply Exists.intro; refine ⟨?_, ?_, ?_⟩; (focus (go_simp; try rfl)); (focus (go_simp; try rfl)); (with_reducible refine ⟨11, _, _, _, _, get11, rfl, rfl, ?_, ?_, ?_, ?_⟩); (kernel_rfl); (simp [Value.cells]); (rfl); (clear st; intro w st))
            | ((with_reducible refine wl_alloc ?_ (fun K hK => ?_)); rfl; refine owp_alloc (o := ⟨some 8, _, _, _, _, _⟩) rfl st ?_; apply Exists.intro; apply Exists.intro; refine ⟨?_, ?_⟩; (focus (first | (go_simp; done) | (go_simp; rfl))); (clear st; intro b8 w hb st; clear hb))); (try simp only [nsl, Value.cells, unB] at st); (try clear hc); have hc := st.facts; (try simp only [nfl, nft, Nat.reduceAdd] at hc))
      refine Rg4.wp_region4_eq #[0, 1, 3, 7, 15, 31, 63, 127, 255, 63, 575, 2047, 4095, 8191, 16383] [4, 7] [3, 6, 8] (fun W' => Blk W' b8 [.int .i64 mk, .int .i64 mp, .int .i64 me, .string ⟨mnm.toArray⟩, .slice mwa mwn mwc, .slice msa msn msc] ∧ By W' a n xb) [0, 1, 2, 3, 4, 5, 6, 9, 10, 7, 8, 11, 12, 13, 14] (by kernel_rfl) (by kernel_rfl) (by kernel_rfl) (by kernel_rfl) (show Rg4.PB _ by repeat (first | with_reducible exact Rg4.pb_body | with_reducible exact Rg4.pb_bodyD rfl | with_reducible refine Rg4.pb_then ?_ | with_reducible refine Rg4.pb_inBlock ?_ | with_reducible refine Rg4.pb_noGoto ?_)) (⟨st.drew.blk (i := 11) get11, st.drew.by (i := 1) get1⟩) ?_
      replace st := st.drew
      change Rg4.wp4 _ _ _ _ _ _ _ _ _ (World.drew _) _ _
      generalize World.drew _ = w at st ⊢
      (try clear hc); have hc := st.facts; (try simp only [nfl, nft, Nat.reduceAdd] at hc)
      iterate 3 (refine Rg4.w4_any (Rg4.want_none rfl) rfl ?_; apply Exists.intro; refine ⟨fun w' => ?_, ?_⟩; (focus (first | (go_simp; done) | (go_simp; first | rfl | (rw [if_neg] <;> first | rfl | omega) | (rw [if_pos] <;> first | rfl | omega)))); (try simp only [Rg4.nrm]))
      (first | (refine Rg4.w4_read (Rg4.wt rfl rfl rfl) rfl rfl ?_; apply Exists.intro; refine ⟨fun w' hw' hcl' => ?_, ?_⟩; focus (subst hw'; (try (have z4 := conv_bs (P := Try.prog) (src := 33) (dst := 9) (c := qc2) Try.underlying33 Try.underlying5 Try.underlying9 (st.by (i := 12) get12); unfold S at z4)); (focus (first | (go_simp; done) | (go_simp; first | rfl | (rw [if_neg] <;> first | rfl | omega) | (rw [if_pos] <;> first | rfl | omega))))); (try simp only [Rg4.nrm])) | (refine Rg4.w4_skip (Rg4.uw rfl rfl rfl) ?_; (try simp only [Rg4.nrm])) | (refine Rg4.w4_skip (Rg4.un rfl rfl rfl) ?_; (try simp only [Rg4.nrm])))
      refine Rg4.w4_bar (Rg4.want_of 2 49 false rfl rfl rfl) rfl (fun w' hw' hcl _ K hK => ?_)
      subst hw'
      go_wp2_with fail
      refine (HMR2.out _ (HOK.out _ (st.flAt (i := 8) get8) (st.flAt (i := 9) get9) (st.sgsAt (i := 10) get10))).mono ?_
      rintro en w ⟨rfl, hx⟩
      replace st := st.ext hx
      clear hx
      (try simp only [nsl, Value.cells, unB] at st)
      (try clear hc); have hc := st.facts; (try simp only [nfl, nft, Nat.reduceAdd] at hc)
      refine hK _ _ ⟨⟨st.blk (i := 11) get11, st.by (i := 1) get1⟩, ?_⟩
      clear hK
      (try simp only [Rg4.nrm])
      (first | (refine Rg4.w4_any (Rg4.wt rfl rfl rfl) rfl ?_; apply Exists.intro; refine ⟨fun w' => ?_, ?_⟩; (focus (first | (go_simp; done) | (go_simp; first | rfl | (rw [if_neg] <;> first | rfl | omega) | (rw [if_pos] <;> first | rfl | omega)))); (try simp only [Rg4.nrm])) | (refine Rg4.w4_skip (Rg4.uw rfl rfl rfl) ?_; (try simp only [Rg4.nrm])) | (refine Rg4.w4_skip (Rg4.un rfl rfl rfl) ?_; (try simp only [Rg4.nrm])))
      (first | (refine Rg4.w4_read (Rg4.wt rfl rfl rfl) rfl rfl ?_; apply Exists.intro; refine ⟨fun w' hw' hcl' => ?_, ?_⟩; focus (subst hw'; (try (have z4 := conv_bs (P := Try.prog) (src := 33) (dst := 9) (c := qc2) Try.underlying33 Try.underlying5 Try.underlying9 (st.by (i := 12) get12); unfold S at z4)); (focus (first | (go_simp; done) | (go_simp; first | rfl | (rw [if_neg] <;> first | rfl | omega) | (rw [if_pos] <;> first | rfl | omega))))); (try simp only [Rg4.nrm])) | (refine Rg4.w4_skip (Rg4.uw rfl rfl rfl) ?_; (try simp only [Rg4.nrm])) | (refine Rg4.w4_skip (Rg4.un rfl rfl rfl) ?_; (try simp only [Rg4.nrm])))
      (first | (refine Rg4.w4_any (Rg4.wt rfl rfl rfl) rfl ?_; apply Exists.intro; refine ⟨fun w' => ?_, ?_⟩; (focus (first | (go_simp; done) | (go_simp; first | rfl | (rw [if_neg] <;> first | rfl | omega) | (rw [if_pos] <;> first | rfl | omega)))); (try simp only [Rg4.nrm])) | (refine Rg4.w4_skip (Rg4.uw rfl rfl rfl) ?_; (try simp only [Rg4.nrm])) | (refine Rg4.w4_skip (Rg4.un rfl rfl rfl) ?_; (try simp only [Rg4.nrm])))
      (first | (refine Rg4.w4_cl (Rg4.wt rfl rfl rfl) rfl ?_; apply Exists.intro; refine ⟨fun w' hcl => ?_, ?_⟩; (focus (have q0 := Blk.cell hcl.1 0; have q1 := Blk.cell hcl.1 1; have q2 := Blk.cell hcl.1 2; have q3 := Blk.cell hcl.1 3; have q4 := Blk.cell hcl.1 4; have q5 := Blk.cell hcl.1 5; have q6 := conv_bs (P := Try.prog) (src := 33) (dst := 9) (c := c) Try.underlying33 Try.underlying5 Try.underlying9 hcl.2; unfold S at q6; (try simp at q0 q1 q2 q3 q4 q5); (focus (first | (go_simp; done) | (go_simp; first | rfl | (rw [if_neg] <;> first | rfl | omega) | (rw [if_pos] <;> first | rfl | omega)))))); (try simp only [Rg4.nrm])) | (refine Rg4.w4_skip (Rg4.uw rfl rfl rfl) ?_; (try simp only [Rg4.nrm])) | (refine Rg4.w4_skip (Rg4.un rfl rfl rfl) ?_; (try simp only [Rg4.nrm])))
      refine Rg4.w4_bar (Rg4.want_of 5 52 true rfl rfl rfl) rfl (fun w' hw' hcl _ K hK => ?_)
      subst hw'
      go_wp2_with fail
      refine (HBY2.out _ (HOK.out _ (st.flAt (i := 8) get8) (st.flAt (i := 9) get9) (st.sgsAt (i := 10) get10))).mono ?_
      rintro en w ⟨qa2, qn2, qc2, rfl, hfr⟩
      have hqn : qn2 = xb.length := (hfr.by).2.1
      subst hqn
      replace st := st.fresh hfr
      clear hfr
      replace st := st.freezeRow (i := 12) (xs := xb) get12
      (try simp only [nsl, Value.cells, unB] at st)
      (try clear hc); have hc := st.facts; (try simp only [nfl, nft, Nat.reduceAdd] at hc)
      refine hK _ _ ⟨⟨st.blk (i := 11) get11, st.by (i := 1) get1⟩, ?_⟩
      clear hK
      (try simp only [Rg4.nrm])
      (first | (refine Rg4.w4_read (Rg4.wt rfl rfl rfl) rfl rfl ?_; apply Exists.intro; refine ⟨fun w' hw' hcl' => ?_, ?_⟩; focus (subst hw'; (try (have z4 := conv_bs (P := Try.prog) (src := 33) (dst := 9) (c := qc2) Try.underlying33 Try.underlying5 Try.underlying9 (st.by (i := 12) get12); unfold S at z4)); (focus (first | (go_simp; done) | (go_simp; first | rfl | (rw [if_neg] <;> first | rfl | omega) | (rw [if_pos] <;> first | rfl | omega))))); (try simp only [Rg4.nrm])) | (refine Rg4.w4_skip (Rg4.uw rfl rfl rfl) ?_; (try simp only [Rg4.nrm])) | (refine Rg4.w4_skip (Rg4.un rfl rfl rfl) ?_; (try simp only [Rg4.nrm])))
      iterate 2 (first | (refine Rg4.w4_any (Rg4.wt rfl rfl rfl) rfl ?_; apply Exists.intro; refine ⟨fun w' => ?_, ?_⟩; (focus (first | (go_simp; done) | (go_simp; first | rfl | (rw [if_neg] <;> first | rfl | omega) | (rw [if_pos] <;> first | rfl | omega)))); (try simp only [Rg4.nrm])) | (refine Rg4.w4_skip (Rg4.uw rfl rfl rfl) ?_; (try simp only [Rg4.nrm])) | (refine Rg4.w4_skip (Rg4.un rfl rfl rfl) ?_; (try simp only [Rg4.nrm])))
      iterate 2 (refine Rg4.w4_any (Rg4.want_none rfl) rfl ?_; apply Exists.intro; refine ⟨fun w' => ?_, ?_⟩; (focus (first | (go_simp; done) | (go_simp; first | rfl | (rw [if_neg] <;> first | rfl | omega) | (rw [if_pos] <;> first | rfl | omega)))); (try simp only [Rg4.nrm]))
      refine Rg4.w4_nil (fun w' hw' hcl' _ => ?_); subst hw'; clear hcl'
      go_wp2_with fail
      go_ret
      exact ⟨rfl, st.ext0⟩
    · have heb : (er != 0) = true := by simpa using he
      have HE := Lib.hid he
      clear hm hp hcc he
      obtain ⟨mk, mp, me, mnm, mwa, mwn, mwc, mws, msa, msn, msc, mss⟩ := m
      unfold mgV S
      (try simp only [nsl, Value.cells, unB] at st)
      (try clear hc); have hc := st.facts; (try simp only [nfl, nft, Nat.reduceAdd] at hc)
      go_wp2_with ((first
            | ((with_reducible refine wl_store ?_ (fun K hK => ?_)); rfl; refine owp_store rfl st ?_; apply Exists.intro; apply Exists.intro; refine ⟨?_, ?_, ?_⟩; (focus (go_simp; try rfl)); (focus (go_simp; try rfl)); (with_reducible refine ⟨11, _, _, _, _, get11, rfl, rfl, ?_, ?_, ?_, ?_⟩); (kernel_rfl); (simp [Value.cells]); (rfl); (clear st; intro w st))
            | ((with_reducible refine wl_alloc ?_ (fun K hK => ?_)); rfl; refine owp_alloc (o := ⟨some 8, _, _, _, _, _⟩) rfl st ?_; apply Exists.intro; apply Exists.intro; refine ⟨?_, ?_⟩; (focus (first | (go_simp; done) | (go_simp; rfl))); (clear st; intro b8 w hb st; clear hb))); (try simp only [nsl, Value.cells, unB] at st); (try clear hc); have hc := st.facts; (try simp only [nfl, nft, Nat.reduceAdd] at hc))
      refine Rg4.wp_region4_eq #[0, 1, 3, 7, 15, 31, 63, 127, 255, 63, 575, 2047, 4095, 8191, 16383] [4, 7] [3, 6, 8] (fun W' => Blk W' b8 [.int .i64 mk, .int .i64 mp, .int .i64 me, .string ⟨mnm.toArray⟩, .slice mwa mwn mwc, .slice msa msn msc]) [0, 1, 2, 3, 4, 5, 6, 9, 10, 7, 8, 11, 12, 13, 14] (by kernel_rfl) (by kernel_rfl) (by kernel_rfl) (by kernel_rfl) (show Rg4.PB _ by repeat (first | with_reducible exact Rg4.pb_body | with_reducible exact Rg4.pb_bodyD rfl | with_reducible refine Rg4.pb_then ?_ | with_reducible refine Rg4.pb_inBlock ?_ | with_reducible refine Rg4.pb_noGoto ?_)) (st.drew.blk (i := 11) get11) ?_
      replace st := st.drew
      change Rg4.wp4 _ _ _ _ _ _ _ _ _ (World.drew _) _ _
      generalize World.drew _ = w at st ⊢
      (try clear hc); have hc := st.facts; (try simp only [nfl, nft, Nat.reduceAdd] at hc)
      iterate 3 (refine Rg4.w4_any (Rg4.want_none rfl) rfl ?_; apply Exists.intro; refine ⟨fun w' => ?_, ?_⟩; (focus (first | (go_simp; done) | (go_simp; first | rfl | (rw [if_neg] <;> first | rfl | omega) | (rw [if_pos] <;> first | rfl | omega)))); (try simp only [Rg4.nrm]))
      (first | (refine Rg4.w4_read (Rg4.wt rfl rfl rfl) rfl rfl ?_; apply Exists.intro; refine ⟨fun w' hw' hcl' => ?_, ?_⟩; focus (subst hw'; (focus (first | (go_simp; done) | (go_simp; first | rfl | (rw [if_neg] <;> first | rfl | omega) | (rw [if_pos] <;> first | rfl | omega))))); (try simp only [Rg4.nrm])) | (refine Rg4.w4_skip (Rg4.uw rfl rfl rfl) ?_; (try simp only [Rg4.nrm])) | (refine Rg4.w4_skip (Rg4.un rfl rfl rfl) ?_; (try simp only [Rg4.nrm])))
      first | refine Rg4.w4_skip (Rg4.uw rfl rfl rfl) ?_ | refine Rg4.w4_skip (Rg4.un rfl rfl rfl) ?_
      (try simp only [Rg4.nrm])
      (first | (refine Rg4.w4_any (Rg4.wt rfl rfl rfl) rfl ?_; apply Exists.intro; refine ⟨fun w' => ?_, ?_⟩; (focus (first | (go_simp; done) | (go_simp; first | rfl | (rw [if_neg] <;> first | rfl | omega) | (rw [if_pos] <;> first | rfl | omega)))); (try simp only [Rg4.nrm])) | (refine Rg4.w4_skip (Rg4.uw rfl rfl rfl) ?_; (try simp only [Rg4.nrm])) | (refine Rg4.w4_skip (Rg4.un rfl rfl rfl) ?_; (try simp only [Rg4.nrm])))
      (first | (refine Rg4.w4_read (Rg4.wt rfl rfl rfl) rfl rfl ?_; apply Exists.intro; refine ⟨fun w' hw' hcl' => ?_, ?_⟩; focus (subst hw'; (focus (first | (go_simp; done) | (go_simp; first | rfl | (rw [if_neg] <;> first | rfl | omega) | (rw [if_pos] <;> first | rfl | omega))))); (try simp only [Rg4.nrm])) | (refine Rg4.w4_skip (Rg4.uw rfl rfl rfl) ?_; (try simp only [Rg4.nrm])) | (refine Rg4.w4_skip (Rg4.un rfl rfl rfl) ?_; (try simp only [Rg4.nrm])))
      (first | (refine Rg4.w4_any (Rg4.wt rfl rfl rfl) rfl ?_; apply Exists.intro; refine ⟨fun w' => ?_, ?_⟩; (focus (first | (go_simp; done) | (go_simp; first | rfl | (rw [if_neg] <;> first | rfl | omega) | (rw [if_pos] <;> first | rfl | omega)))); (try simp only [Rg4.nrm])) | (refine Rg4.w4_skip (Rg4.uw rfl rfl rfl) ?_; (try simp only [Rg4.nrm])) | (refine Rg4.w4_skip (Rg4.un rfl rfl rfl) ?_; (try simp only [Rg4.nrm])))
      (first | (refine Rg4.w4_cl (Rg4.wt rfl rfl rfl) rfl ?_; apply Exists.intro; refine ⟨fun w' hcl => ?_, ?_⟩; (focus (have q0 := Blk.cell hcl 0; (focus (first | (go_simp; done) | (go_simp; first | rfl | (rw [if_neg] <;> first | rfl | omega) | (rw [if_pos] <;> first | rfl | omega)))))); (try simp only [Rg4.nrm])) | (refine Rg4.w4_skip (Rg4.uw rfl rfl rfl) ?_; (try simp only [Rg4.nrm])) | (refine Rg4.w4_skip (Rg4.un rfl rfl rfl) ?_; (try simp only [Rg4.nrm])))
      first | refine Rg4.w4_skip (Rg4.uw rfl rfl rfl) ?_ | refine Rg4.w4_skip (Rg4.un rfl rfl rfl) ?_
      (try simp only [Rg4.nrm])
      (first | (refine Rg4.w4_read (Rg4.wt rfl rfl rfl) rfl rfl ?_; apply Exists.intro; refine ⟨fun w' hw' hcl' => ?_, ?_⟩; focus (subst hw'; (focus (first | (go_simp; done) | (go_simp; first | rfl | (rw [if_neg] <;> first | rfl | omega) | (rw [if_pos] <;> first | rfl | omega))))); (try simp only [Rg4.nrm])) | (refine Rg4.w4_skip (Rg4.uw rfl rfl rfl) ?_; (try simp only [Rg4.nrm])) | (refine Rg4.w4_skip (Rg4.un rfl rfl rfl) ?_; (try simp only [Rg4.nrm])))
      iterate 2 (first | (refine Rg4.w4_any (Rg4.wt rfl rfl rfl) rfl ?_; apply Exists.intro; refine ⟨fun w' => ?_, ?_⟩; (focus (first | (go_simp; done) | (go_simp; first | rfl | (rw [if_neg] <;> first | rfl | omega) | (rw [if_pos] <;> first | rfl | omega)))); (try simp only [Rg4.nrm])) | (refine Rg4.w4_skip (Rg4.uw rfl rfl rfl) ?_; (try simp only [Rg4.nrm])) | (refine Rg4.w4_skip (Rg4.un rfl rfl rfl) ?_; (try simp only [Rg4.nrm])))
      iterate 2 (refine Rg4.w4_any (Rg4.want_none rfl) rfl ?_; apply Exists.intro; refine ⟨fun w' => ?_, ?_⟩; (focus (first | (go_simp; done) | (go_simp; first | rfl | (rw [if_neg] <;> first | rfl | omega) | (rw [if_pos] <;> first | rfl | omega)))); (try simp only [Rg4.nrm]))
      refine Rg4.w4_nil (fun w' hw' hcl' _ => ?_); subst hw'; clear hcl'
      go_wp2_with fail
      go_ret
      exact ⟨rfl, st.ext0⟩
end Go.Proofs.Ytekngjkjgmplpaa

namespace Go.Proofs.Ytekngjkjgmplpaa
set_option linter.unusedSimpArgs false
set_option linter.unusedVariables false
open Go Go.RowKit Go.ChangeShapes Go.WideShapes Go.ChangeAt

section
variable {H : Type} {enc : TypeId × Value → H} {P : Program} {w : World} {base : Nat} {spare : Nat → Bool} {held : Bool}
/-- An array of three integers, by value. -/
theorem open_arr3 {r : Reach} {b0 : Nat} {t e : TypeId} {k : IntKind} {v : Value} {d : DataW H} {p : List MemPlace} (ht : P.underlying t = some (.array 3 e)) (he : P.underlying e = some (.int k)) (hC : P.cellsOf t = 3) (hE : P.cellsOf e = 1)
    (hv : Value.okWide P w r b0 t v) (h : DataW.Trod enc P w base spare held t v d p) :
    ∃ x y z : Int, v = .agg #[.int k x, .int k y, .int k z] ∧ (Lit.int k x).wf = true ∧ (Lit.int k y).wf = true ∧ (Lit.int k z).wf = true := by
  simp only [Value.okWide, ht] at hv
  obtain ⟨cs, rfl, hsz, _⟩ := hv
  obtain ⟨fuel, hf⟩ := h
  obtain ⟨xs, m, _, _, hl, hxl, hall⟩ := DataW.trod_array ht hf
  rw [hC] at hsz
  obtain ⟨c0, c1, c2, rfl⟩ : ∃ a b c, cs = #[a, b, c] := by
    obtain ⟨l⟩ := cs
    match l, hsz with
    | [a, b, c], _ => exact ⟨a, b, c, rfl⟩
  have g : ∀ i, i < 3 → ∃ n, (([c0, c1, c2] : List Value).drop i).take 1 = [.int k n] ∧ (Lit.int k n).wf = true := fun i hi => by
    have h1 := hall i hi
    rw [hE, Nat.mul_one] at h1
    have h2 : i < xs.length := by omega
    rw [List.getElem?_eq_getElem h2] at h1
    obtain ⟨n, e1, _, e3⟩ := DataW.trod_int he h1
    exact ⟨n, by simpa [Value.cells] using e1, e3⟩
  obtain ⟨x, hx, wx⟩ := g 0 (by omega)
  obtain ⟨y, hy, wy⟩ := g 1 (by omega)
  obtain ⟨z, hz, wz⟩ := g 2 (by omega)
  simp at hx hy hz
  exact ⟨x, y, z, by rw [hx, hy, hz], wx, wy, wz⟩
/-- A byte slice. -/
theorem open_by {r : Reach} {b0 : Nat} {t e : TypeId} {v : Value} {d : DataW H} {p : List MemPlace} (ht : P.underlying t = some (.slice e)) (he : P.underlying e = some (.int .u8)) (hE : P.cellsOf e = 1)
    (hv : Value.okWide P w r b0 t v) (h : DataW.Trod enc P w base (fun _ => true) held t v d p) : ∃ a n c xs, v = .slice a n c ∧ By w a n xs ∧ n ≤ c ∧ c ≤ maxLen := by
  obtain ⟨a, n, c, rfl⟩ := okWide_slice ht hv
  obtain ⟨fuel, hf⟩ := h
  have : ∃ zs : List Int, (a = none ∧ n = 0 ∧ c = 0 ∧ zs = []) ∨ ∃ x, a = some x ∧ n ≤ c ∧ c ≤ maxLen ∧ zs.length = c ∧ (∀ i, i < zs.length → w.cell? (x.add i) = some (.int .u8 (zs.getD i 0))) ∧ ∀ n ∈ zs, (Lit.int .u8 n).wf = true := by
    rcases open_ints ht he hE hf with ⟨hcs, _⟩ | ⟨x, l, c, zs, hcs, _, hl, hm, hz, _, hcell, hwz⟩
    · simp [Value.cells] at hcs
      obtain ⟨rfl, rfl, rfl⟩ := hcs
      exact ⟨[], .inl ⟨rfl, rfl, rfl, rfl⟩⟩
    · simp [Value.cells] at hcs
      obtain ⟨rfl, rfl, rfl⟩ := hcs
      exact ⟨zs, .inr ⟨_, rfl, hl, hm, by simpa using hz, hcell, hwz⟩⟩
  obtain ⟨zs, hz⟩ := this
  obtain ⟨xs, h1, h2, h3⟩ := By.of_row hz
  exact ⟨a, n, c, xs, rfl, h1, h2, h3⟩
theorem u8_bd {x : Int} (h : (Lit.int .u8 x).wf = true) : 0 ≤ x ∧ x ≤ 255 := by
  simp [Lit.wf, IntKind.min, IntKind.max, IntKind.signed, IntKind.bits] at h
  omega
end
end Go.Proofs.Ytekngjkjgmplpaa

namespace Go.Proofs.Ytekngjkjgmplpaa
set_option linter.unusedSimpArgs false
set_option linter.unusedVariables false
open Go Go.RowKit Go.ChangeShapes Go.WideShapes Go.ChangeAt
theorem upto_bound {H : Type} {l : List (DataW H)} (hk : Rows.uptoSmall H l = true) : Rows.uptoBulkAll l ≤ 1048576 := of_decide_eq_true hk
theorem bulk_pos {H : Type} (d : DataW H) : 1 ≤ Rows.uptoBulk d := by
  cases d with
  | lit l => cases l <;> simp [Rows.uptoBulk]
  | nil => simp [Rows.uptoBulk]
  | ptr d => simp [Rows.uptoBulk]
  | slice elems spare => simp [Rows.uptoBulk]
  | agg parts => simp [Rows.uptoBulk]
  | iface t d => simp [Rows.uptoBulk]
  | map entries => simp [Rows.uptoBulk]
  | held h => simp [Rows.uptoBulk]
theorem bulk_len {H : Type} (l : List (DataW H)) : l.length ≤ Rows.uptoBulkAll l := by
  induction l with
  | nil => simp [Rows.uptoBulkAll]
  | cons x r ih => have := bulk_pos x; simp only [Rows.uptoBulkAll, List.length_cons]; omega
theorem bulk_slice {H : Type} (elems spare : List (DataW H)) : Rows.uptoBulkAll elems + 1 ≤ Rows.uptoBulk (.slice elems spare) := by
  simp only [Rows.uptoBulk]; omega
theorem bulk_str {H : Type} (bytes : List UInt8) : Rows.uptoBulk (DataW.lit (H := H) (.string bytes)) = bytes.length + 1 := by simp [Rows.uptoBulk]
/-- How great texts are: a letter and one for each. -/
def texts (l : List (List UInt8)) : Nat := (l.map fun s => s.length + 1).sum
theorem bulk_strs {H : Type} (l : List (List UInt8)) : Rows.uptoBulkAll (l.map fun s => (DataW.lit (H := H) (.string s))) = texts l := by
  induction l with
  | nil => simp [Rows.uptoBulkAll, texts]
  | cons x r ih => simp only [List.map_cons, Rows.uptoBulkAll, ih, bulk_str, texts, List.sum_cons]
section
variable {H : Type} {enc : TypeId × Value → H} {P : Program} {w : World} {base : Nat} {held : Bool}
theorem open_strsU {r : Reach} {b0 : Nat} {t e : TypeId} {v : Value} {d : DataW H} {p : List MemPlace} (ht : P.underlying t = some (.slice e)) (he : P.underlying e = some .string) (hE : P.cellsOf e = 1)
    (hv : Value.okWide P w r b0 t v) (h : DataW.Trod enc P w base (fun _ => true) held t v d p) : ∃ a n c xs, v = .slice a n c ∧ Fl w a n xs ∧ (n ≤ c ∧ c ≤ maxLen) ∧ texts xs ≤ Rows.uptoBulk d := by
  obtain ⟨a, n, c, rfl⟩ := okWide_slice ht hv
  obtain ⟨fuel, hf⟩ := h
  rcases Go.Deep.open_strs ht he hE hf with ⟨hcs, _⟩ | ⟨a', len, cap, m, Sx, hcs, hb, hl, hm, hmm, hx, hcell⟩
  · simp [Value.cells] at hcs
    obtain ⟨rfl, rfl, rfl⟩ := hcs
    exact ⟨none, 0, 0, [], rfl, Fl.nil _ _, ⟨Nat.le_refl _, by simp [maxLen]⟩, by simp [texts]⟩
  · simp [Value.cells] at hcs
    obtain ⟨rfl, rfl, rfl⟩ := hcs
    have hm' : m = c := by simpa using hmm
    injection hx with hd hp
    subst hd
    refine ⟨some a', n, c, (List.range n).map (fun i => (Sx i).data.toList), rfl, ⟨by simp, fun h0 => ?_⟩, ⟨hl, hm⟩, ?_⟩
    · have hx0 : a'.spot = none := by
        have := (hcell 0 (by omega)).1
        simp only [Addr.add, if_true] at this
        unfold World.cell? at this
        split at this
        · cases hs : a'.spot with
          | none => rfl
          | some q => simp [hs] at this
        · cases this
      obtain ⟨b, off, sp⟩ := a'
      simp at hx0
      subst hx0
      refine ⟨b, off, rfl, fun i x hi j u hu => ?_⟩
      have hj : j = 0 := by
        have := (List.getElem?_eq_some_iff.1 hu).1
        simp [Flt.cells] at this; omega
      subst hj
      obtain ⟨hin, hfx⟩ : i < n ∧ (Sx i).data.toList = x := by
        have h1 := (List.getElem?_eq_some_iff.1 hi).1
        have h2 := (List.getElem?_eq_some_iff.1 hi).2
        simp at h1 h2
        exact ⟨h1, h2⟩
      subst hfx
      have h1 := (hcell i (by omega)).1
      rw [addr_add] at h1
      simp [Flt.cells] at hu
      subst hu
      rw [fltStr_k, Nat.mul_one, Nat.add_zero]
      exact h1
    · have := bulk_slice (H := H) ((List.range n).map fun i => .lit (.string (Sx i).data.toList)) ((List.range (m - n)).map fun j => .lit (.string (Sx (n + j)).data.toList))
      have e := bulk_strs (H := H) ((List.range n).map fun i => (Sx i).data.toList)
      rw [List.map_map] at e
      rw [← e]
      simp only [Function.comp_def]
      omega
end
end Go.Proofs.Ytekngjkjgmplpaa

namespace Go.Proofs.Ytekngjkjgmplpaa
set_option linter.unusedSimpArgs false
set_option linter.unusedVariables false
open Go Go.RowKit Go.ChangeShapes Go.WideShapes Go.ChangeAt
theorem mapM_at {f : Nat → Option Value} : ∀ {l : List Nat} {ys : List Value}, l.mapM f = some ys → ∀ (i k : Nat), l[i]? = some k → f k = ys[i]?
  | [], ys, h, i, k, hk => by simp at hk
  | a :: l, ys, h, i, k, hk => by
    rw [List.mapM_cons] at h
    cases ha : f a with
    | none => rw [ha] at h; cases h
    | some y =>
      rw [ha] at h
      cases hl : l.mapM f with
      | none => rw [hl] at h; cases h
      | some zs =>
        rw [hl] at h
        cases h
        cases i with
        | zero => simp at hk; subst hk; simp [ha]
        | succ i => simp at hk; simpa using mapM_at hl i k hk
theorem cells_at {w : World} {base k : Nat} {a : Addr} {cs : List Value} (h : w.cells? base a k = some cs) (j : Nat) (hj : j < k) : w.cell? (a.add j) = cs[j]? := by
  unfold World.cells? at h
  split at h
  · exact mapM_at (f := fun i => w.cell? (a.add i)) h j j (by simp [hj])
  · cases h
theorem bulk_map {H : Type} {α : Type} (D : Nat → DataW H) (f : Nat → α) (bulk : α → Nat) : ∀ (L : List Nat), (∀ i ∈ L, bulk (f i) ≤ Rows.uptoBulk (D i)) → ((L.map f).map bulk).sum ≤ Rows.uptoBulkAll (L.map D)
  | [], _ => by simp
  | i :: L, h => by
    have ih := bulk_map D f bulk L fun j hj => h j (List.mem_cons_of_mem _ hj)
    have h1 := h i (by simp)
    simp only [List.map_cons, Rows.uptoBulkAll, List.sum_cons]
    omega
section
variable {H : Type} {enc : TypeId × Value → H} {P : Program} {w : World} {base : Nat} {held : Bool}
theorem open_flts {α : Type} [Flt α] [Inhabited α] (bulk : α → Nat) (R : α → Prop) {r : Reach} {b0 : Nat} {t e : TypeId} {v : Value} {d : DataW H} {p : List MemPlace} (ht : P.underlying t = some (.slice e)) (ce : P.cellsOf e = Flt.k α)
    (hel : ∀ (fuel : Nat) (cs : List Value) (x : DataW H × List MemPlace), DataW.trod enc P w base (fun _ => true) held fuel e cs = some x → ∃ y : α, cs = Flt.cells y ∧ bulk y ≤ Rows.uptoBulk x.1 ∧ R y)
    (hv : Value.okWide P w r b0 t v) (h : DataW.Trod enc P w base (fun _ => true) held t v d p) : ∃ a n c xs, v = .slice a n c ∧ Fl w a n (xs : List α) ∧ (n ≤ c ∧ c ≤ maxLen) ∧ (xs.map bulk).sum ≤ Rows.uptoBulk d ∧ ∀ x ∈ xs, R x := by
  obtain ⟨a, n, c, rfl⟩ := okWide_slice ht hv
  obtain ⟨fuel, hf⟩ := h
  rcases Go.Deep.open_slice ht hf with ⟨hcs, _⟩ | ⟨a', len, cap, m, n', D, Pl, hcs, hb, hl, hm, hmm, hxe, hx⟩
  · simp [Value.cells] at hcs
    obtain ⟨rfl, rfl, rfl⟩ := hcs
    exact ⟨none, 0, 0, [], rfl, Fl.nil _ _, ⟨Nat.le_refl _, by simp [maxLen]⟩, by simp, by simp⟩
  · simp [Value.cells] at hcs
    obtain ⟨rfl, rfl, rfl⟩ := hcs
    rw [ce] at hx
    simp at hmm
    injection hxe with hd hp
    have hel2 : ∀ i, i < n → ∃ x : α, (∀ j u, (Flt.cells x)[j]? = some u → w.cell? ((a'.add (i * Flt.k α)).add j) = some u) ∧ bulk x ≤ Rows.uptoBulk (D i) ∧ R x := fun i hi => by
      obtain ⟨cs', hc, htr⟩ := hx i (by omega)
      obtain ⟨x, h1, h2, h3⟩ := hel _ _ _ htr
      subst h1
      refine ⟨x, fun j u hu => ?_, h2, h3⟩
      have hj : j < Flt.k α := by
        have := (List.getElem?_eq_some_iff.1 hu).1
        rwa [Flt.len] at this
      rw [cells_at hc j hj, hu]
    obtain ⟨f, hF⟩ : ∃ f : Nat → α, ∀ i, i < n → (∀ j u, (Flt.cells (f i))[j]? = some u → w.cell? ((a'.add (i * Flt.k α)).add j) = some u) ∧ bulk (f i) ≤ Rows.uptoBulk (D i) ∧ R (f i) :=
      ⟨fun i => if h : i < n then (hel2 i h).choose else default, fun i hi => by simp only [hi, dite_true]; exact (hel2 i hi).choose_spec⟩
    refine ⟨some a', n, c, (List.range n).map f, rfl, ⟨by simp, fun h0 => ?_⟩, ⟨hl, hm⟩, ?_, ?_⟩
    · have hk := Flt.pos (α := α)
      have hx0 : a'.spot = none := by
        obtain ⟨u, hu⟩ : ∃ u, (Flt.cells (f 0))[0]? = some u := ⟨_, List.getElem?_eq_getElem (by rw [Flt.len]; exact hk)⟩
        have := (hF 0 h0).1 0 u hu
        simp only [Addr.add, Nat.zero_mul, if_true] at this
        unfold World.cell? at this
        split at this
        · cases hs : a'.spot with
          | none => rfl
          | some q => simp [hs] at this
        · cases this
      obtain ⟨b, off, sp⟩ := a'
      simp at hx0
      subst hx0
      refine ⟨b, off, rfl, fun i x hi j u hu => ?_⟩
      obtain ⟨hin, hfx⟩ : i < n ∧ f i = x := by
        have h1 := (List.getElem?_eq_some_iff.1 hi).1
        have h2 := (List.getElem?_eq_some_iff.1 hi).2
        simp at h1 h2
        exact ⟨h1, h2⟩
      subst hfx
      have h1 := (hF i hin).1 j u hu
      rw [addr_add, addr_add] at h1
      exact h1
    · have hb1 := bulk_map D f bulk (List.range n) (fun i hi => (hF i (by simpa using hi)).2.1)
      rw [hd]
      have := bulk_slice (H := H) ((List.range n).map D) ((List.range (m - n)).map fun j => D (n + j))
      omega
    · intro x hx
      simp only [List.mem_map, List.mem_range] at hx
      obtain ⟨i, hi, rfl⟩ := hx
      exact (hF i hi).2.2
theorem trod_flts {α : Type} [Flt α] [Inhabited α] (bulk : α → Nat) (R : α → Prop) {t e : TypeId} {fuel : Nat} {cs : List Value} {y : DataW H × List MemPlace} (ht : P.underlying t = some (.slice e)) (ce : P.cellsOf e = Flt.k α)
    (hel : ∀ (fuel : Nat) (cs : List Value) (x : DataW H × List MemPlace), DataW.trod enc P w base (fun _ => true) held fuel e cs = some x → ∃ y : α, cs = Flt.cells y ∧ bulk y ≤ Rows.uptoBulk x.1 ∧ R y)
    (h : DataW.trod enc P w base (fun _ => true) held fuel t cs = some y) : ∃ a n c xs, cs = [.slice a n c] ∧ Fl w a n (xs : List α) ∧ (n ≤ c ∧ c ≤ maxLen) ∧ (xs.map bulk).sum ≤ Rows.uptoBulk y.1 ∧ ∀ x ∈ xs, R x := by
  obtain ⟨d, p⟩ := y
  rcases Go.Deep.open_slice ht h with ⟨hcs, _⟩ | ⟨a', len, cap, m, n', D, Pl, hcs, hb, hl, hm, hmm, hxe, hx⟩
  · exact ⟨none, 0, 0, [], hcs, Fl.nil _ _, ⟨Nat.le_refl _, by simp [maxLen]⟩, by simp, by simp⟩
  · rw [ce] at hx
    simp at hmm
    injection hxe with hd hp
    have hel2 : ∀ i, i < len → ∃ x : α, (∀ j u, (Flt.cells x)[j]? = some u → w.cell? ((a'.add (i * Flt.k α)).add j) = some u) ∧ bulk x ≤ Rows.uptoBulk (D i) ∧ R x := fun i hi => by
      obtain ⟨cs', hc, htr⟩ := hx i (by omega)
      obtain ⟨x, h1, h2, h3⟩ := hel _ _ _ htr
      subst h1
      refine ⟨x, fun j u hu => ?_, h2, h3⟩
      have hj : j < Flt.k α := by
        have := (List.getElem?_eq_some_iff.1 hu).1
        rwa [Flt.len] at this
      rw [cells_at hc j hj, hu]
    obtain ⟨f, hF⟩ : ∃ f : Nat → α, ∀ i, i < len → (∀ j u, (Flt.cells (f i))[j]? = some u → w.cell? ((a'.add (i * Flt.k α)).add j) = some u) ∧ bulk (f i) ≤ Rows.uptoBulk (D i) ∧ R (f i) :=
      ⟨fun i => if h : i < len then (hel2 i h).choose else default, fun i hi => by simp only [hi, dite_true]; exact (hel2 i hi).choose_spec⟩
    refine ⟨some a', len, cap, (List.range len).map f, hcs, ⟨by simp, fun h0 => ?_⟩, ⟨hl, hm⟩, ?_, ?_⟩
    · have hk := Flt.pos (α := α)
      have hx0 : a'.spot = none := by
        obtain ⟨u, hu⟩ : ∃ u, (Flt.cells (f 0))[0]? = some u := ⟨_, List.getElem?_eq_getElem (by rw [Flt.len]; exact hk)⟩
        have := (hF 0 h0).1 0 u hu
        simp only [Addr.add, Nat.zero_mul, if_true] at this
        unfold World.cell? at this
        split at this
        · cases hs : a'.spot with
          | none => rfl
          | some q => simp [hs] at this
        · cases this
      obtain ⟨b, off, sp⟩ := a'
      simp at hx0
      subst hx0
      refine ⟨b, off, rfl, fun i x hi j u hu => ?_⟩
      obtain ⟨hin, hfx⟩ : i < len ∧ f i = x := by
        have h1 := (List.getElem?_eq_some_iff.1 hi).1
        have h2 := (List.getElem?_eq_some_iff.1 hi).2
        simp at h1 h2
        exact ⟨h1, h2⟩
      subst hfx
      have h1 := (hF i hin).1 j u hu
      rw [addr_add, addr_add] at h1
      exact h1
    · have hb1 := bulk_map D f bulk (List.range len) (fun i hi => (hF i (by simpa using hi)).2.1)
      have := bulk_slice (H := H) ((List.range len).map D) ((List.range (m - len)).map fun j => D (len + j))
      subst hd
      simp only
      omega
    · intro x hx
      simp only [List.mem_map, List.mem_range] at hx
      obtain ⟨i, hi, rfl⟩ := hx
      exact (hF i hi).2.2
/-- One of them. -/
theorem open_flt {α : Type} [Flt α] (bulk : α → Nat) (R : α → Prop) {r : Reach} {b0 : Nat} {t : TypeId} {fs : Array Field} {v : Value} {d : DataW H} {p : List MemPlace} (ht : P.underlying t = some (.struct fs))
    (hel : ∀ (fuel : Nat) (cs : List Value) (x : DataW H × List MemPlace), DataW.trod enc P w base (fun _ => true) held fuel t cs = some x → ∃ y : α, cs = Flt.cells y ∧ bulk y ≤ Rows.uptoBulk x.1 ∧ R y)
    (hv : Value.okWide P w r b0 t v) (h : DataW.Trod enc P w base (fun _ => true) held t v d p) : ∃ x : α, v = .agg (Flt.cells x).toArray ∧ bulk x ≤ Rows.uptoBulk d ∧ R x := by
  obtain ⟨cs, rfl, hsz⟩ := okWide_struct ht hv
  obtain ⟨fuel, hf⟩ := h
  obtain ⟨x, h1, h2, h3⟩ := hel _ _ _ hf
  refine ⟨x, ?_, h2, h3⟩
  have : cs.toList = Flt.cells x := by simpa [Value.cells] using h1
  congr 1
  apply Array.toList_inj.1
  rw [this]
theorem trod_fields {t : TypeId} {fs : Array Field} {fuel : Nat} {cs : List Value} {x : DataW H × List MemPlace} (ht : P.underlying t = some (.struct fs)) (h : DataW.trod enc P w base (fun _ => true) held fuel t cs = some x) :
    ∃ (xs : List (DataW H × List MemPlace)) (n : Nat), x.1 = .agg (xs.map (·.1)) ∧ cs.length = P.cellsOf t ∧ xs.length = fs.size ∧
      ∀ (i : Nat) (f : Field), fs[i]? = some f → ∃ y, xs[i]? = some y ∧ DataW.trod enc P w base (fun _ => true) held n f.type ((cs.drop f.offset).take (P.cellsOf f.type)) = some y := by
  obtain ⟨xs, n, _, rfl, hl, hlen, hf⟩ := DataW.trod_struct ht h
  refine ⟨xs, n, rfl, hl, hlen, fun i f hi => ?_⟩
  have := hf i f hi
  have hil : i < xs.length := by rw [hlen]; exact (Array.getElem?_eq_some_iff.1 hi).1
  refine ⟨xs[i], List.getElem?_eq_getElem hil, ?_⟩
  rw [this, List.getElem?_eq_getElem hil]
end
end Go.Proofs.Ytekngjkjgmplpaa

namespace Go.Proofs.Ytekngjkjgmplpaa
set_option linter.unusedSimpArgs false
set_option linter.unusedVariables false
open Go Go.RowKit Go.ChangeShapes Go.WideShapes Go.ChangeAt
def bulkR (l : List Role) : Nat := (l.map fun r => r.1.length + r.2.length + 3).sum
theorem bulk_list {H : Type} (D : Nat → DataW H) (f : Nat → Role) : ∀ (L : List Nat), (∀ i ∈ L, Rows.uptoBulk (D i) = (f i).1.length + (f i).2.length + 3) → Rows.uptoBulkAll (L.map D) = bulkR (L.map f)
  | [], _ => by simp [Rows.uptoBulkAll, bulkR]
  | i :: L, h => by
    have ih := bulk_list D f L fun j hj => h j (List.mem_cons_of_mem _ hj)
    simp only [List.map_cons, Rows.uptoBulkAll, ih, h i (by simp), bulkR, List.sum_cons]
section
variable {H : Type} {enc : TypeId × Value → H} {P : Program} {w : World} {base : Nat} {held : Bool}
theorem trod_role {t : TypeId} {f0 f1 : Field} {fuel : Nat} {cs : List Value} {x : DataW H × List MemPlace} (ht : P.underlying t = some (.struct #[f0, f1])) (ce : P.cellsOf t = 2) (o0 : f0.offset = 0) (o1 : f1.offset = 1) (c0 : P.cellsOf f0.type = 1) (c1 : P.cellsOf f1.type = 1)
    (t0 : P.underlying f0.type = some .string) (t1 : P.underlying f1.type = some .string) (h : DataW.trod enc P w base (fun _ => true) held fuel t cs = some x) : ∃ r : Role, cs = [S r.1, S r.2] ∧ Rows.uptoBulk x.1 = r.1.length + r.2.length + 3 := by
  obtain ⟨y0, y1, n, rfl, hl, h0, h1⟩ := trod_struct2 ht h
  rw [ce] at hl
  rw [o0, c0] at h0
  rw [o1, c1] at h1
  match cs, hl with
  | [u, v], _ =>
    simp at h0 h1
    obtain ⟨s0, q0, rfl, _⟩ := DataW.trod_string t0 h0
    obtain ⟨s1, q1, rfl, _⟩ := DataW.trod_string t1 h1
    simp at q0 q1
    subst q0 q1
    obtain ⟨⟨s0⟩⟩ := s0
    obtain ⟨⟨s1⟩⟩ := s1
    refine ⟨(s0, s1), rfl, ?_⟩
    simp [Rows.uptoBulk, Rows.uptoBulkAll]
    omega
theorem open_role {r : Reach} {b0 : Nat} {t : TypeId} {f0 f1 : Field} {v : Value} {d : DataW H} {p : List MemPlace} (ht : P.underlying t = some (.struct #[f0, f1])) (ce : P.cellsOf t = 2) (o0 : f0.offset = 0) (o1 : f1.offset = 1) (c0 : P.cellsOf f0.type = 1) (c1 : P.cellsOf f1.type = 1)
    (t0 : P.underlying f0.type = some .string) (t1 : P.underlying f1.type = some .string) (hv : Value.okWide P w r b0 t v) (h : DataW.Trod enc P w base (fun _ => true) held t v d p) : ∃ x : Role, v = rV x ∧ Rows.uptoBulk d = x.1.length + x.2.length + 3 := by
  obtain ⟨cs, rfl, hsz⟩ := okWide_struct ht hv
  obtain ⟨fuel, hf⟩ := h
  obtain ⟨x, h1, h2⟩ := trod_role ht ce o0 o1 c0 c1 t0 t1 hf
  refine ⟨x, ?_, h2⟩
  have : cs.toList = [S x.1, S x.2] := by simpa [Value.cells] using h1
  unfold rV
  congr 1
  apply Array.toList_inj.1
  rw [this]
theorem open_roles {r : Reach} {b0 : Nat} {t e : TypeId} {f0 f1 : Field} {v : Value} {d : DataW H} {p : List MemPlace} (ht : P.underlying t = some (.slice e)) (he : P.underlying e = some (.struct #[f0, f1])) (ce : P.cellsOf e = 2) (o0 : f0.offset = 0) (o1 : f1.offset = 1) (c0 : P.cellsOf f0.type = 1) (c1 : P.cellsOf f1.type = 1)
    (t0 : P.underlying f0.type = some .string) (t1 : P.underlying f1.type = some .string)
    (hv : Value.okWide P w r b0 t v) (h : DataW.Trod enc P w base (fun _ => true) held t v d p) : ∃ a n c xs, v = .slice a n c ∧ Fl w a n (xs : List Role) ∧ (n ≤ c ∧ c ≤ maxLen) ∧ bulkR xs ≤ Rows.uptoBulk d := by
  obtain ⟨a, n, c, rfl⟩ := okWide_slice ht hv
  obtain ⟨fuel, hf⟩ := h
  rcases Go.Deep.open_slice ht hf with ⟨hcs, _⟩ | ⟨a', len, cap, m, n', D, Pl, hcs, hb, hl, hm, hmm, hxe, hx⟩
  · simp [Value.cells] at hcs
    obtain ⟨rfl, rfl, rfl⟩ := hcs
    exact ⟨none, 0, 0, [], rfl, Fl.nil _ _, ⟨Nat.le_refl _, by simp [maxLen]⟩, by simp [bulkR]⟩
  · simp [Value.cells] at hcs
    obtain ⟨rfl, rfl, rfl⟩ := hcs
    rw [ce] at hx
    simp at hmm
    injection hxe with hd hp
    have hel : ∀ i, i < n → ∃ x : Role, (w.cell? (a'.add (i * 2)) = some (S x.1) ∧ w.cell? ((a'.add (i * 2)).add 1) = some (S x.2)) ∧ Rows.uptoBulk (D i) = x.1.length + x.2.length + 3 := fun i hi => by
      obtain ⟨cs', hc, htr⟩ := hx i (by omega)
      obtain ⟨x, h1, h2⟩ := trod_role he ce o0 o1 c0 c1 t0 t1 htr
      subst h1
      refine ⟨x, ?_, h2⟩
      unfold World.cells? at hc
      by_cases hbb : base ≤ (a'.add (i * 2)).block
      · rw [if_pos hbb] at hc
        have hz : (a'.add (i * 2)).add 0 = a'.add (i * 2) := by simp [Addr.add]
        simp only [show List.range 2 = [0, 1] from rfl, List.mapM_cons, List.mapM_nil, hz, Option.pure_def, Option.bind_eq_bind] at hc
        cases q0 : w.cell? (a'.add (i * 2)) with
        | none => rw [q0] at hc; cases hc
        | some y0 =>
          cases q1 : w.cell? ((a'.add (i * 2)).add 1) with
          | none => rw [q0, q1] at hc; cases hc
          | some y1 =>
            rw [q0, q1] at hc
            simp at hc
            obtain ⟨rfl, rfl⟩ := hc
            exact ⟨rfl, rfl⟩
      · rw [if_neg hbb] at hc; cases hc
    obtain ⟨f, hF⟩ : ∃ f : Nat → Role, ∀ i, i < n → (w.cell? (a'.add (i * 2)) = some (S (f i).1) ∧ w.cell? ((a'.add (i * 2)).add 1) = some (S (f i).2)) ∧ Rows.uptoBulk (D i) = (f i).1.length + (f i).2.length + 3 :=
      ⟨fun i => if h : i < n then (hel i h).choose else ([], []), fun i hi => by simp only [hi, dite_true]; exact (hel i hi).choose_spec⟩
    refine ⟨some a', n, c, (List.range n).map f, rfl, ⟨by simp, fun h0 => ?_⟩, ⟨hl, hm⟩, ?_⟩
    · have hx0 : a'.spot = none := by
        have := (hF 0 h0).1.1
        simp only [Addr.add, Nat.zero_mul, if_true] at this
        unfold World.cell? at this
        split at this
        · cases hs : a'.spot with
          | none => rfl
          | some q => simp [hs] at this
        · cases this
      obtain ⟨b, off, sp⟩ := a'
      simp at hx0
      subst hx0
      refine ⟨b, off, rfl, fun i x hi j u hu => ?_⟩
      obtain ⟨hin, hfx⟩ : i < n ∧ f i = x := by
        have h1 := (List.getElem?_eq_some_iff.1 hi).1
        have h2 := (List.getElem?_eq_some_iff.1 hi).2
        simp at h1 h2
        exact ⟨h1, h2⟩
      subst hfx
      have h1 := (hF i hin).1
      rw [addr_add, addr_add] at h1
      rw [fltRole_k]
      match j, hu with
      | 0, hu => cases hu; exact h1.1
      | 1, hu => cases hu; exact h1.2
    · have hb1 := bulk_list D f (List.range n) (fun i hi => (hF i (by simpa using hi)).2)
      rw [← hb1, hd]
      have := bulk_slice (H := H) ((List.range n).map D) ((List.range (m - n)).map fun j => D (n + j))
      omega
end
end Go.Proofs.Ytekngjkjgmplpaa

namespace Go.Proofs.Ytekngjkjgmplpaa
set_option linter.unusedSimpArgs false
set_option linter.unusedVariables false
open Go Go.RowKit Go.ChangeShapes Go.WideShapes Go.ChangeAt
def bulkC (x : CredT) : Nat := 1 + x.h.1.length + x.h.2.length + x.w.length + x.b.1.length + x.b.2.length + x.c.1.length + x.c.2.length + x.e.length
theorem wtC_bulk (x : CredT) : wtC x ≤ 20 * bulkC x := by unfold wtC bulkC; omega
theorem weightC_bulk : ∀ l : List CredT, weightC l ≤ 20 * (l.map bulkC).sum
  | [] => by simp [weightC]
  | x :: l => by have := weightC_bulk l; have := wtC_bulk x; rw [weightC_cons]; simp only [List.map_cons, List.sum_cons]; omega
section
variable {H : Type} {enc : TypeId × Value → H} {P : Program} {w : World} {base : Nat} {held : Bool}
set_option maxRecDepth 100000 in
theorem trod_cred {fuel : Nat} {cs : List Value} {x : DataW H × List MemPlace} (h : DataW.trod enc Try.prog w base (fun _ => true) held fuel 32 cs = some x) : ∃ y : CredT, cs = Flt.cells y ∧ bulkC y ≤ Rows.uptoBulk x.1 ∧ True := by
  have hS := Try.underlying32
  obtain ⟨xs, n, hx, hl, hlen, hf⟩ := trod_fields hS h
  rw [show Try.prog.cellsOf 32 = 9 from by kernel_rfl] at hl
  obtain ⟨y0, e0, h0⟩ := hf 0 _ rfl
  obtain ⟨y1, e1, h1⟩ := hf 1 _ rfl
  obtain ⟨y2, e2, h2⟩ := hf 2 _ rfl
  obtain ⟨y3, e3, h3⟩ := hf 3 _ rfl
  obtain ⟨y4, e4, h4⟩ := hf 4 _ rfl
  obtain ⟨y5, e5, h5⟩ := hf 5 _ rfl
  change DataW.trod enc Try.prog w base (fun _ => true) held n 3 ((cs.drop 0).take (Try.prog.cellsOf 3)) = some y0 at h0
  change DataW.trod enc Try.prog w base (fun _ => true) held n 30 ((cs.drop 1).take (Try.prog.cellsOf 30)) = some y1 at h1
  change DataW.trod enc Try.prog w base (fun _ => true) held n 9 ((cs.drop 3).take (Try.prog.cellsOf 9)) = some y2 at h2
  change DataW.trod enc Try.prog w base (fun _ => true) held n 30 ((cs.drop 4).take (Try.prog.cellsOf 30)) = some y3 at h3
  change DataW.trod enc Try.prog w base (fun _ => true) held n 30 ((cs.drop 6).take (Try.prog.cellsOf 30)) = some y4 at h4
  change DataW.trod enc Try.prog w base (fun _ => true) held n 9 ((cs.drop 8).take (Try.prog.cellsOf 9)) = some y5 at h5
  have k1 : Try.prog.cellsOf 3 = 1 := by kernel_rfl
  have k2 : Try.prog.cellsOf 30 = 2 := by kernel_rfl
  have k3 : Try.prog.cellsOf 9 = 1 := by kernel_rfl
  rw [k1] at h0
  rw [k2] at h1 h3 h4
  rw [k3] at h2 h5
  have hl6 : xs.length = 6 := hlen
  match cs, hl, xs, hl6 with
  | [c0, c1, c2, c3, c4, c5, c6, c7, c8], _, [z0, z1, z2, z3, z4, z5], _ =>
    simp at e0 e1 e2 e3 e4 e5
    subst e0 e1 e2 e3 e4 e5
    simp only [List.drop_succ_cons, List.drop_zero, List.take_succ_cons, List.take_zero] at h0 h1 h2 h3 h4 h5
    obtain ⟨i0, q0, rfl, _⟩ := DataW.trod_int Try.underlying3 h0
    obtain ⟨r1, q1, b1⟩ := trod_role Try.underlying30 (by kernel_rfl) rfl rfl (by kernel_rfl) (by kernel_rfl) Try.underlying9 Try.underlying9 h1
    obtain ⟨s2, q2, rfl, _⟩ := DataW.trod_string Try.underlying9 h2
    obtain ⟨r3, q3, b3⟩ := trod_role Try.underlying30 (by kernel_rfl) rfl rfl (by kernel_rfl) (by kernel_rfl) Try.underlying9 Try.underlying9 h3
    obtain ⟨r4, q4, b4⟩ := trod_role Try.underlying30 (by kernel_rfl) rfl rfl (by kernel_rfl) (by kernel_rfl) Try.underlying9 Try.underlying9 h4
    obtain ⟨s5, q5, rfl, _⟩ := DataW.trod_string Try.underlying9 h5
    simp at q0 q1 q2 q3 q4 q5
    obtain ⟨⟨s2⟩⟩ := s2
    obtain ⟨⟨s5⟩⟩ := s5
    refine ⟨⟨i0, r1, s2, r3, r4, s5⟩, ?_, ?_, trivial⟩
    · rw [q0, q1.1, q1.2, q2, q3.1, q3.2, q4.1, q4.2, q5]; rfl
    · rw [hx]
      simp only [List.map_cons, List.map_nil, Rows.uptoBulk, Rows.uptoBulkAll, b1, b3, b4, bulkC]
      simp [Rows.uptoBulk]
      omega
  | [], hl, _, _ => simp at hl
end
end Go.Proofs.Ytekngjkjgmplpaa

namespace Go.Proofs.Ytekngjkjgmplpaa
set_option linter.unusedSimpArgs false
set_option linter.unusedVariables false
open Go Go.RowKit Go.ChangeShapes Go.WideShapes Go.ChangeAt
section
variable {H : Type} {enc : TypeId × Value → H} {w : World} {base : Nat} {held : Bool}
set_option maxRecDepth 100000 in
theorem trod_by {fuel : Nat} {cs : List Value} {x : DataW H × List MemPlace} (h : DataW.trod enc Try.prog w base (fun _ => true) held fuel 33 cs = some x) : ∃ a n c xs, cs = [.slice a n c] ∧ By w a n xs ∧ (n ≤ c ∧ c ≤ maxLen) ∧ n ≤ Rows.uptoBulk x.1 := by
  rcases open_ints Try.underlying33 Try.underlying5 (by kernel_rfl) h with ⟨rfl, _⟩ | ⟨a, l, c, zs, rfl, _, hl, hm, hz, hx, hcell, hwz⟩
  · exact ⟨none, 0, 0, [], rfl, By.nil _ _, ⟨Nat.le_refl _, by simp [maxLen]⟩, Nat.zero_le _⟩
  · have hz2 : zs.length = c := by simpa using hz
    obtain ⟨xs, h1, h2, h3⟩ := By.of_row (w := w) (a := some a) (len := l) (cap := c) (zs := zs) (.inr ⟨_, rfl, hl, hm, hz2, hcell, hwz⟩)
    refine ⟨some a, l, c, xs, rfl, h1, ⟨hl, hm⟩, ?_⟩
    rw [hx]
    simp only [Rows.uptoBulk]
    have := bulk_len (H := H) (lits .u8 (zs.take l))
    have hlen : (lits (H := H) .u8 (zs.take l)).length = l := by simp [lits, hz2, hl]
    omega
end
end Go.Proofs.Ytekngjkjgmplpaa

namespace Go.Proofs.Ytekngjkjgmplpaa
set_option linter.unusedSimpArgs false
set_option linter.unusedVariables false
open Go Go.RowKit Go.ChangeShapes Go.WideShapes Go.ChangeAt
def bulkRo (r : Role) : Nat := 1 + r.1.length + r.2.length
def bulkSg (x : SgnT) : Nat := bulkC x.c + x.n
def bulkMsg (x : MsgT) : Nat := x.nm.length + (x.ws.map bulkRo).sum + (x.ss.map bulkSg).sum
theorem weightSg_bulk : ∀ l : List SgnT, weightSg l ≤ 20 * (l.map bulkSg).sum
  | [] => by simp [weightSg]
  | x :: l => by
    have := weightSg_bulk l
    have h1 := wtC_bulk x.c
    have h2 : wtSg x = wtC x.c + x.n := rfl
    have h3 : bulkSg x = bulkC x.c + x.n := rfl
    rw [weightSg_cons]; simp only [List.map_cons, List.sum_cons]; omega
theorem weightW_bulk : ∀ l : List Role, weightW l ≤ 5 * (l.map bulkRo).sum
  | [] => by simp [weightW]
  | x :: l => by
    have := weightW_bulk l
    have h2 : wtR x = 5 + x.1.length + x.2.length := rfl
    have h3 : bulkRo x = 1 + x.1.length + x.2.length := rfl
    rw [weightW_cons]; simp only [List.map_cons, List.sum_cons]; omega
theorem weightM_bulk (x : MsgT) : weightM x ≤ 20 * bulkMsg x := by
  have h1 := weightSg_bulk x.ss
  have h2 := weightW_bulk x.ws
  unfold weightM bulkMsg
  omega
section
variable {H : Type} {enc : TypeId × Value → H} {w : World} {base : Nat} {held : Bool}
theorem trod_roleF {fuel : Nat} {cs : List Value} {x : DataW H × List MemPlace} (h : DataW.trod enc Try.prog w base (fun _ => true) held fuel 30 cs = some x) : ∃ y : Role, cs = Flt.cells y ∧ bulkRo y ≤ Rows.uptoBulk x.1 ∧ True := by
  obtain ⟨r, q, b⟩ := trod_role Try.underlying30 (by kernel_rfl) rfl rfl (by kernel_rfl) (by kernel_rfl) Try.underlying9 Try.underlying9 h
  exact ⟨r, q, by unfold bulkRo; omega, trivial⟩
set_option maxRecDepth 100000 in
theorem trod_sgn {fuel : Nat} {cs : List Value} {x : DataW H × List MemPlace} (h : DataW.trod enc Try.prog w base (fun _ => true) held fuel 35 cs = some x) : ∃ y : SgnT, cs = Flt.cells y ∧ bulkSg y ≤ Rows.uptoBulk x.1 ∧ SgOk w y := by
  have hS := Try.underlying35
  obtain ⟨xs, n, hx, hl, hlen, hf⟩ := trod_fields hS h
  rw [show Try.prog.cellsOf 35 = 10 from by kernel_rfl] at hl
  obtain ⟨y0, e0, h0⟩ := hf 0 _ rfl
  obtain ⟨y1, e1, h1⟩ := hf 1 _ rfl
  change DataW.trod enc Try.prog w base (fun _ => true) held n 32 ((cs.drop 0).take (Try.prog.cellsOf 32)) = some y0 at h0
  change DataW.trod enc Try.prog w base (fun _ => true) held n 33 ((cs.drop 9).take (Try.prog.cellsOf 33)) = some y1 at h1
  have k1 : Try.prog.cellsOf 32 = 9 := by kernel_rfl
  have k2 : Try.prog.cellsOf 33 = 1 := by kernel_rfl
  rw [k1] at h0
  rw [k2] at h1
  have hl2 : xs.length = 2 := hlen
  match cs, hl, xs, hl2 with
  | [c0, c1, c2, c3, c4, c5, c6, c7, c8, c9], _, [z0, z1], _ =>
    simp at e0 e1
    subst e0 e1
    simp only [List.drop_succ_cons, List.drop_zero, List.take_succ_cons, List.take_zero] at h0 h1
    obtain ⟨y, q0, b0, _⟩ := trod_cred h0
    obtain ⟨a, m, c, ys, q1, hb, hc, hk⟩ := trod_by h1
    refine ⟨⟨y, a, m, c, ys⟩, ?_, ?_, hc, hb⟩
    · simp [Flt.cells, cC] at q0
      simp at q1
      obtain ⟨rfl, rfl, rfl, rfl, rfl, rfl, rfl, rfl, rfl⟩ := q0
      subst q1
      rfl
    · rw [hx]
      simp only [List.map_cons, List.map_nil, Rows.uptoBulk, Rows.uptoBulkAll, bulkSg]
      omega
  | [], hl, _, _ => simp at hl
set_option maxRecDepth 100000 in
theorem trod_msg {fuel : Nat} {cs : List Value} {x : DataW H × List MemPlace} (h : DataW.trod enc Try.prog w base (fun _ => true) held fuel 111 cs = some x) : ∃ y : MsgT, cs = Flt.cells y ∧ bulkMsg y ≤ Rows.uptoBulk x.1 ∧ MgOk w y := by
  have hS := Try.underlying111
  obtain ⟨xs, n, hx, hl, hlen, hf⟩ := trod_fields hS h
  rw [show Try.prog.cellsOf 111 = 6 from by kernel_rfl] at hl
  obtain ⟨y0, e0, h0⟩ := hf 0 _ rfl
  obtain ⟨y1, e1, h1⟩ := hf 1 _ rfl
  obtain ⟨y2, e2, h2⟩ := hf 2 _ rfl
  obtain ⟨y3, e3, h3⟩ := hf 3 _ rfl
  obtain ⟨y4, e4, h4⟩ := hf 4 _ rfl
  obtain ⟨y5, e5, h5⟩ := hf 5 _ rfl
  change DataW.trod enc Try.prog w base (fun _ => true) held n 3 ((cs.drop 0).take (Try.prog.cellsOf 3)) = some y0 at h0
  change DataW.trod enc Try.prog w base (fun _ => true) held n 3 ((cs.drop 1).take (Try.prog.cellsOf 3)) = some y1 at h1
  change DataW.trod enc Try.prog w base (fun _ => true) held n 3 ((cs.drop 2).take (Try.prog.cellsOf 3)) = some y2 at h2
  change DataW.trod enc Try.prog w base (fun _ => true) held n 9 ((cs.drop 3).take (Try.prog.cellsOf 9)) = some y3 at h3
  change DataW.trod enc Try.prog w base (fun _ => true) held n 109 ((cs.drop 4).take (Try.prog.cellsOf 109)) = some y4 at h4
  change DataW.trod enc Try.prog w base (fun _ => true) held n 45 ((cs.drop 5).take (Try.prog.cellsOf 45)) = some y5 at h5
  have k1 : Try.prog.cellsOf 3 = 1 := by kernel_rfl
  have k2 : Try.prog.cellsOf 9 = 1 := by kernel_rfl
  have k3 : Try.prog.cellsOf 109 = 1 := by kernel_rfl
  have k4 : Try.prog.cellsOf 45 = 1 := by kernel_rfl
  rw [k1] at h0 h1 h2
  rw [k2] at h3
  rw [k3] at h4
  rw [k4] at h5
  have hl6 : xs.length = 6 := hlen
  match cs, hl, xs, hl6 with
  | [c0, c1, c2, c3, c4, c5], _, [z0, z1, z2, z3, z4, z5], _ =>
    simp at e0 e1 e2 e3 e4 e5
    subst e0 e1 e2 e3 e4 e5
    simp only [List.drop_succ_cons, List.drop_zero, List.take_succ_cons, List.take_zero] at h0 h1 h2 h3 h4 h5
    obtain ⟨i0, q0, rfl, _⟩ := DataW.trod_int Try.underlying3 h0
    obtain ⟨i1, q1, rfl, _⟩ := DataW.trod_int Try.underlying3 h1
    obtain ⟨i2, q2, rfl, _⟩ := DataW.trod_int Try.underlying3 h2
    obtain ⟨s3, q3, rfl, _⟩ := DataW.trod_string Try.underlying9 h3
    obtain ⟨wa, wn, wc, ws, q4, hw1, hw2, hw3, _⟩ := trod_flts (α := Role) bulkRo (fun _ => True) Try.underlying109 (by kernel_rfl) (fun _ _ _ h => trod_roleF h) h4
    obtain ⟨sa, sn, sc, ss, q5, hs1, hs2, hs3, hs4⟩ := trod_flts (α := SgnT) bulkSg (SgOk w) Try.underlying45 (by kernel_rfl) (fun _ _ _ h => trod_sgn h) h5
    simp at q0 q1 q2 q3 q4 q5
    obtain ⟨⟨s3⟩⟩ := s3
    refine ⟨⟨i0, i1, i2, s3, wa, wn, wc, ws, sa, sn, sc, ss⟩, ?_, ?_, ⟨hw2, hw1⟩, ⟨hs2, hs1⟩, hs4⟩
    · rw [q0, q1, q2, q3, q4, q5]; rfl
    · rw [hx]
      simp only [List.map_cons, List.map_nil, Rows.uptoBulk, Rows.uptoBulkAll, bulkMsg]
      simp [Rows.uptoBulk]
      omega
  | [], hl, _, _ => simp at hl
end
end Go.Proofs.Ytekngjkjgmplpaa
