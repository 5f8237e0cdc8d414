/- Tickets got. -/
import Derived.Test.YtdkemfimhdjdiaaTickG
import Derived.Test.YtdkemfimhdjdiaaRow
import Derived.Test.YtdkemfimhdjdiaaCell
namespace Go.Proofs.Ytdkemfimhdjdiaa
set_option linter.unusedSimpArgs false
set_option linter.unusedVariables false
open Go Go.RowKit
/-- The next ticket: its names, its end, its tag. -/
abbrev TickD := List UInt8 × List UInt8 × Nat × List UInt8
def rdTick (xs : List UInt8) : Except Int (TickD × List UInt8) :=
  bdm (rdName xs) fun o ys => bdm (rdName ys) fun cl zs => bdm (rdNumber 1099511627776 zs) fun t us => bdm (rdText 8 us) fun tg vs => if tg.length = 8 then .ok ((o, cl, t, tg), vs) else .error 11
def tickM (s : TickD) (cs : List Value) (M : List It) : Prop := ∃ a c, cs = [S s.1, S s.2.1, .int .i64 (s.2.2.1 : Int), .slice a 8 c] ∧ (8 ≤ c ∧ c ≤ maxLen) ∧ M = [byI a 8 s.2.2.2]
theorem rdName_le2 {xs s ys : List UInt8} (h : rdName xs = .ok (s, ys)) : ys.length ≤ xs.length ∧ nameR s = true := by
  unfold rdName at h
  cases hr : rdText 16 xs with
  | error e => rw [hr] at h; simp at h
  | ok p =>
    obtain ⟨s', ys'⟩ := p
    rw [hr] at h
    simp only at h
    split at h
    · simp at h; obtain ⟨rfl, rfl⟩ := h; exact ⟨(rdText_le hr).2.1, by assumption⟩
    · simp at h
theorem rdNumber_le2 {most : Int} {xs ys : List UInt8} {n : Nat} (hr : rdNumber most xs = .ok (n, ys)) : ys.length ≤ xs.length ∧ (n : Int) ≤ most := by
  unfold rdNumber at hr
  cases h : rdNum xs with
  | error e => rw [h] at hr; simp at hr
  | ok p =>
    obtain ⟨m, zs⟩ := p
    rw [h] at hr
    simp only at hr
    have := rdNum_lt h
    split at hr
    · simp at hr
    · simp at hr; obtain ⟨rfl, rfl⟩ := hr; omega
set_option maxRecDepth 100000 in
set_option maxHeartbeats 2000000 in
theorem tickGet_c {fr al : Nat → Prop} {w : World} {r : Nat} {xs : List UInt8} (st : Own fr al w [rdI r xs] w) (hl : xs.length ≤ 100000) :
    Calls Try.prog 39 #[.pointer (some ⟨r, 0, none⟩)] w (RdC fr al w r (rdTick xs) fun s v M => ∃ cs, v = .agg cs.toArray ∧ tickM s cs M) := by
  go_enter Try.func39, Try.ntmps39
  go_wp2_with ((first
        | ((with_reducible refine wl_alloc ?_ (fun K hK => ?_)); rfl; refine owp_alloc (o := ⟨some 2, _, _, _, _, _⟩) rfl st ?_; apply Exists.intro; apply Exists.intro; refine ⟨?_, ?_⟩; (focus (first | (go_simp; done) | (go_simp; rfl))); (clear st; intro b2 w hb st; clear hb))
        | ((with_reducible refine wl_alloc ?_ (fun K hK => ?_)); rfl; refine owp_alloc (o := ⟨some 3, _, _, _, _, _⟩) rfl st ?_; apply Exists.intro; apply Exists.intro; refine ⟨?_, ?_⟩; (focus (first | (go_simp; done) | (go_simp; rfl))); (clear st; intro b3 w hb st; clear hb))
        | ((with_reducible refine wl_store ?_ (fun K hK => ?_)); rfl; refine owp_store rfl st ?_; apply Exists.intro; apply Exists.intro; refine ⟨?_, ?_, ?_⟩; (focus (go_simp; try rfl)); (focus (go_simp; try rfl)); (first | (with_reducible refine ⟨0, _, _, _, _, get0, rfl, rfl, ?_, ?_, ?_, ?_⟩) | (with_reducible refine ⟨1, _, _, _, _, get1, rfl, rfl, ?_, ?_, ?_, ?_⟩) | (with_reducible refine ⟨2, _, _, _, _, get2, rfl, rfl, ?_, ?_, ?_, ?_⟩) | (with_reducible refine ⟨3, _, _, _, _, get3, rfl, rfl, ?_, ?_, ?_, ?_⟩) | (with_reducible refine ⟨4, _, _, _, _, get4, rfl, rfl, ?_, ?_, ?_, ?_⟩) | (with_reducible refine ⟨5, _, _, _, _, get5, rfl, rfl, ?_, ?_, ?_, ?_⟩)); (kernel_rfl); (simp [Value.cells]); (rfl); (clear st; intro w st))); (try simp only [Value.cells, List.cons_append, List.nil_append, List.set, spl, putIt, pick, List.map_cons, List.map_nil, List.getElem?_cons_zero, List.getElem?_cons_succ, Option.getD_some, List.drop_succ_cons, List.drop_zero, List.drop_nil, List.append_nil, unB] at st); (try clear hc); have hc := st.facts; (try simp only [factsOf, blkI, blkFacts, rowI, byI, datI, nullI, oldI, penI, rdI, rdAnyI, rdOverI, Nat.zero_add, Nat.reduceAdd, and_true, true_and, and_self] at hc))
  obtain ⟨fr', al', st', back⟩ := st.sub [0] (by decide) (by simp)
  (try simp only [Value.cells, List.cons_append, List.nil_append, List.set, spl, putIt, pick, List.map_cons, List.map_nil, List.getElem?_cons_zero, List.getElem?_cons_succ, Option.getD_some, List.drop_succ_cons, List.drop_zero, List.drop_nil, List.append_nil, unB] at st')
  refine (nameGet_c st' hl).mono ?_
  clear st'
  intro en w hen
  unfold RdC at hen
  cases hr : rdName xs with
  | error e =>
    rw [hr] at hen
    obtain ⟨rfl, st'⟩ := hen
    replace st := back _ _ (by simp) st'
    clear back st'
    (try simp only [Value.cells, List.cons_append, List.nil_append, List.set, spl, putIt, pick, List.map_cons, List.map_nil, List.getElem?_cons_zero, List.getElem?_cons_succ, Option.getD_some, List.drop_succ_cons, List.drop_zero, List.drop_nil, List.append_nil, unB] at st)
    (try clear hc); have hc := st.facts; (try simp only [factsOf, blkI, blkFacts, rowI, byI, datI, nullI, oldI, penI, rdI, rdAnyI, rdOverI, Nat.zero_add, Nat.reduceAdd, and_true, true_and, and_self] at hc)
    have H1 : Hid (rdTick xs = .error e) := Lib.hid (by simp [rdTick,  hr, bdm])
    clear hr
    go_wp2_with fail
    refine ⟨rfl, ?_⟩
    unfold RdC
    rw [H1.out]
    have st' := st.keep [0] (by decide) (by simp)
    exact ⟨rfl, by simpa [pick] using st'⟩
  | ok p =>
    obtain ⟨o, ys⟩ := p
    rw [hr] at hen
    obtain ⟨v, M, rfl, ⟨rfl, rfl⟩, st'⟩ := hen
    replace st := back _ _ (by simp) st'
    clear back st'
    (try simp only [Value.cells, List.cons_append, List.nil_append, List.set, spl, putIt, pick, List.map_cons, List.map_nil, List.getElem?_cons_zero, List.getElem?_cons_succ, Option.getD_some, List.drop_succ_cons, List.drop_zero, List.drop_nil, List.append_nil, unB] at st)
    (try clear hc); have hc := st.facts; (try simp only [factsOf, blkI, blkFacts, rowI, byI, datI, nullI, oldI, penI, rdI, rdAnyI, rdOverI, Nat.zero_add, Nat.reduceAdd, and_true, true_and, and_self] at hc)
    have hl1 := rdName_le2 hr
    have HR1 := Lib.hid hr
    clear hr
    unfold S
    go_wp2_with ((first
          | ((with_reducible refine wl_alloc ?_ (fun K hK => ?_)); rfl; refine owp_alloc (o := ⟨some 2, _, _, _, _, _⟩) rfl st ?_; apply Exists.intro; apply Exists.intro; refine ⟨?_, ?_⟩; (focus (first | (go_simp; done) | (go_simp; rfl))); (clear st; intro b2 w hb st; clear hb))
          | ((with_reducible refine wl_alloc ?_ (fun K hK => ?_)); rfl; refine owp_alloc (o := ⟨some 3, _, _, _, _, _⟩) rfl st ?_; apply Exists.intro; apply Exists.intro; refine ⟨?_, ?_⟩; (focus (first | (go_simp; done) | (go_simp; rfl))); (clear st; intro b3 w hb st; clear hb))
          | ((with_reducible refine wl_store ?_ (fun K hK => ?_)); rfl; refine owp_store rfl st ?_; apply Exists.intro; apply Exists.intro; refine ⟨?_, ?_, ?_⟩; (focus (go_simp; try rfl)); (focus (go_simp; try rfl)); (first | (with_reducible refine ⟨0, _, _, _, _, get0, rfl, rfl, ?_, ?_, ?_, ?_⟩) | (with_reducible refine ⟨1, _, _, _, _, get1, rfl, rfl, ?_, ?_, ?_, ?_⟩) | (with_reducible refine ⟨2, _, _, _, _, get2, rfl, rfl, ?_, ?_, ?_, ?_⟩) | (with_reducible refine ⟨3, _, _, _, _, get3, rfl, rfl, ?_, ?_, ?_, ?_⟩) | (with_reducible refine ⟨4, _, _, _, _, get4, rfl, rfl, ?_, ?_, ?_, ?_⟩) | (with_reducible refine ⟨5, _, _, _, _, get5, rfl, rfl, ?_, ?_, ?_, ?_⟩)); (kernel_rfl); (simp [Value.cells]); (rfl); (clear st; intro w st))); (try simp only [Value.cells, List.cons_append, List.nil_append, List.set, spl, putIt, pick, List.map_cons, List.map_nil, List.getElem?_cons_zero, List.getElem?_cons_succ, Option.getD_some, List.drop_succ_cons, List.drop_zero, List.drop_nil, List.append_nil, unB] at st); (try clear hc); have hc := st.facts; (try simp only [factsOf, blkI, blkFacts, rowI, byI, datI, nullI, oldI, penI, rdI, rdAnyI, rdOverI, Nat.zero_add, Nat.reduceAdd, and_true, true_and, and_self] at hc))
    obtain ⟨fr', al', st', back⟩ := st.sub [0] (by decide) (by simp)
    (try simp only [Value.cells, List.cons_append, List.nil_append, List.set, spl, putIt, pick, List.map_cons, List.map_nil, List.getElem?_cons_zero, List.getElem?_cons_succ, Option.getD_some, List.drop_succ_cons, List.drop_zero, List.drop_nil, List.append_nil, unB] at st')
    refine (nameGet_c st' (by omega)).mono ?_
    clear st'
    intro en w hen
    unfold RdC at hen
    cases hr : rdName ys with
    | error e =>
      rw [hr] at hen
      obtain ⟨rfl, st'⟩ := hen
      replace st := back _ _ (by simp) st'
      clear back st'
      (try simp only [Value.cells, List.cons_append, List.nil_append, List.set, spl, putIt, pick, List.map_cons, List.map_nil, List.getElem?_cons_zero, List.getElem?_cons_succ, Option.getD_some, List.drop_succ_cons, List.drop_zero, List.drop_nil, List.append_nil, unB] at st)
      (try clear hc); have hc := st.facts; (try simp only [factsOf, blkI, blkFacts, rowI, byI, datI, nullI, oldI, penI, rdI, rdAnyI, rdOverI, Nat.zero_add, Nat.reduceAdd, and_true, true_and, and_self] at hc)
      have H1 : Hid (rdTick xs = .error e) := Lib.hid (by simp [rdTick, HR1.out, hr, bdm])
      clear hr
      go_wp2_with fail
      refine ⟨rfl, ?_⟩
      unfold RdC
      rw [H1.out]
      have st' := st.keep [0] (by decide) (by simp)
      exact ⟨rfl, by simpa [pick] using st'⟩
    | ok p =>
      obtain ⟨cl, zs⟩ := p
      rw [hr] at hen
      obtain ⟨v, M, rfl, ⟨rfl, rfl⟩, st'⟩ := hen
      replace st := back _ _ (by simp) st'
      clear back st'
      (try simp only [Value.cells, List.cons_append, List.nil_append, List.set, spl, putIt, pick, List.map_cons, List.map_nil, List.getElem?_cons_zero, List.getElem?_cons_succ, Option.getD_some, List.drop_succ_cons, List.drop_zero, List.drop_nil, List.append_nil, unB] at st)
      (try clear hc); have hc := st.facts; (try simp only [factsOf, blkI, blkFacts, rowI, byI, datI, nullI, oldI, penI, rdI, rdAnyI, rdOverI, Nat.zero_add, Nat.reduceAdd, and_true, true_and, and_self] at hc)
      have hl2 := rdName_le2 hr
      have HR2 := Lib.hid hr
      clear hr
      unfold S
      go_wp2_with ((first
            | ((with_reducible refine wl_alloc ?_ (fun K hK => ?_)); rfl; refine owp_alloc (o := ⟨some 2, _, _, _, _, _⟩) rfl st ?_; apply Exists.intro; apply Exists.intro; refine ⟨?_, ?_⟩; (focus (first | (go_simp; done) | (go_simp; rfl))); (clear st; intro b2 w hb st; clear hb))
            | ((with_reducible refine wl_alloc ?_ (fun K hK => ?_)); rfl; refine owp_alloc (o := ⟨some 3, _, _, _, _, _⟩) rfl st ?_; apply Exists.intro; apply Exists.intro; refine ⟨?_, ?_⟩; (focus (first | (go_simp; done) | (go_simp; rfl))); (clear st; intro b3 w hb st; clear hb))
            | ((with_reducible refine wl_store ?_ (fun K hK => ?_)); rfl; refine owp_store rfl st ?_; apply Exists.intro; apply Exists.intro; refine ⟨?_, ?_, ?_⟩; (focus (go_simp; try rfl)); (focus (go_simp; try rfl)); (first | (with_reducible refine ⟨0, _, _, _, _, get0, rfl, rfl, ?_, ?_, ?_, ?_⟩) | (with_reducible refine ⟨1, _, _, _, _, get1, rfl, rfl, ?_, ?_, ?_, ?_⟩) | (with_reducible refine ⟨2, _, _, _, _, get2, rfl, rfl, ?_, ?_, ?_, ?_⟩) | (with_reducible refine ⟨3, _, _, _, _, get3, rfl, rfl, ?_, ?_, ?_, ?_⟩) | (with_reducible refine ⟨4, _, _, _, _, get4, rfl, rfl, ?_, ?_, ?_, ?_⟩) | (with_reducible refine ⟨5, _, _, _, _, get5, rfl, rfl, ?_, ?_, ?_, ?_⟩)); (kernel_rfl); (simp [Value.cells]); (rfl); (clear st; intro w st))); (try simp only [Value.cells, List.cons_append, List.nil_append, List.set, spl, putIt, pick, List.map_cons, List.map_nil, List.getElem?_cons_zero, List.getElem?_cons_succ, Option.getD_some, List.drop_succ_cons, List.drop_zero, List.drop_nil, List.append_nil, unB] at st); (try clear hc); have hc := st.facts; (try simp only [factsOf, blkI, blkFacts, rowI, byI, datI, nullI, oldI, penI, rdI, rdAnyI, rdOverI, Nat.zero_add, Nat.reduceAdd, and_true, true_and, and_self] at hc))
      obtain ⟨fr', al', st', back⟩ := st.sub [0] (by decide) (by simp)
      (try simp only [Value.cells, List.cons_append, List.nil_append, List.set, spl, putIt, pick, List.map_cons, List.map_nil, List.getElem?_cons_zero, List.getElem?_cons_succ, Option.getD_some, List.drop_succ_cons, List.drop_zero, List.drop_nil, List.append_nil, unB] at st')
      refine (number_c st' 1099511627776).mono ?_
      clear st'
      intro en w hen
      unfold RdC at hen
      cases hr : rdNumber 1099511627776 zs with
      | error e =>
        rw [hr] at hen
        obtain ⟨rfl, st'⟩ := hen
        replace st := back _ _ (by simp) st'
        clear back st'
        (try simp only [Value.cells, List.cons_append, List.nil_append, List.set, spl, putIt, pick, List.map_cons, List.map_nil, List.getElem?_cons_zero, List.getElem?_cons_succ, Option.getD_some, List.drop_succ_cons, List.drop_zero, List.drop_nil, List.append_nil, unB] at st)
        (try clear hc); have hc := st.facts; (try simp only [factsOf, blkI, blkFacts, rowI, byI, datI, nullI, oldI, penI, rdI, rdAnyI, rdOverI, Nat.zero_add, Nat.reduceAdd, and_true, true_and, and_self] at hc)
        have H1 : Hid (rdTick xs = .error e) := Lib.hid (by simp [rdTick, HR1.out, HR2.out, hr, bdm])
        clear hr
        go_wp2_with fail
        refine ⟨rfl, ?_⟩
        unfold RdC
        rw [H1.out]
        have st' := st.keep [0] (by decide) (by simp)
        exact ⟨rfl, by simpa [pick] using st'⟩
      | ok p =>
        obtain ⟨t, us⟩ := p
        rw [hr] at hen
        obtain ⟨v, M, rfl, ⟨rfl, rfl⟩, st'⟩ := hen
        replace st := back _ _ (by simp) st'
        clear back st'
        (try simp only [Value.cells, List.cons_append, List.nil_append, List.set, spl, putIt, pick, List.map_cons, List.map_nil, List.getElem?_cons_zero, List.getElem?_cons_succ, Option.getD_some, List.drop_succ_cons, List.drop_zero, List.drop_nil, List.append_nil, unB] at st)
        (try clear hc); have hc := st.facts; (try simp only [factsOf, blkI, blkFacts, rowI, byI, datI, nullI, oldI, penI, rdI, rdAnyI, rdOverI, Nat.zero_add, Nat.reduceAdd, and_true, true_and, and_self] at hc)
        have hl3 := rdNumber_le2 hr
        have HR3 := Lib.hid hr
        clear hr
        go_wp2_with ((first
              | ((with_reducible refine wl_alloc ?_ (fun K hK => ?_)); rfl; refine owp_alloc (o := ⟨some 2, _, _, _, _, _⟩) rfl st ?_; apply Exists.intro; apply Exists.intro; refine ⟨?_, ?_⟩; (focus (first | (go_simp; done) | (go_simp; rfl))); (clear st; intro b2 w hb st; clear hb))
              | ((with_reducible refine wl_alloc ?_ (fun K hK => ?_)); rfl; refine owp_alloc (o := ⟨some 3, _, _, _, _, _⟩) rfl st ?_; apply Exists.intro; apply Exists.intro; refine ⟨?_, ?_⟩; (focus (first | (go_simp; done) | (go_simp; rfl))); (clear st; intro b3 w hb st; clear hb))
              | ((with_reducible refine wl_store ?_ (fun K hK => ?_)); rfl; refine owp_store rfl st ?_; apply Exists.intro; apply Exists.intro; refine ⟨?_, ?_, ?_⟩; (focus (go_simp; try rfl)); (focus (go_simp; try rfl)); (first | (with_reducible refine ⟨0, _, _, _, _, get0, rfl, rfl, ?_, ?_, ?_, ?_⟩) | (with_reducible refine ⟨1, _, _, _, _, get1, rfl, rfl, ?_, ?_, ?_, ?_⟩) | (with_reducible refine ⟨2, _, _, _, _, get2, rfl, rfl, ?_, ?_, ?_, ?_⟩) | (with_reducible refine ⟨3, _, _, _, _, get3, rfl, rfl, ?_, ?_, ?_, ?_⟩) | (with_reducible refine ⟨4, _, _, _, _, get4, rfl, rfl, ?_, ?_, ?_, ?_⟩) | (with_reducible refine ⟨5, _, _, _, _, get5, rfl, rfl, ?_, ?_, ?_, ?_⟩)); (kernel_rfl); (simp [Value.cells]); (rfl); (clear st; intro w st))); (try simp only [Value.cells, List.cons_append, List.nil_append, List.set, spl, putIt, pick, List.map_cons, List.map_nil, List.getElem?_cons_zero, List.getElem?_cons_succ, Option.getD_some, List.drop_succ_cons, List.drop_zero, List.drop_nil, List.append_nil, unB] at st); (try clear hc); have hc := st.facts; (try simp only [factsOf, blkI, blkFacts, rowI, byI, datI, nullI, oldI, penI, rdI, rdAnyI, rdOverI, Nat.zero_add, Nat.reduceAdd, and_true, true_and, and_self] at hc))
        obtain ⟨fr', al', st', back⟩ := st.sub [0] (by decide) (by simp)
        (try simp only [Value.cells, List.cons_append, List.nil_append, List.set, spl, putIt, pick, List.map_cons, List.map_nil, List.getElem?_cons_zero, List.getElem?_cons_succ, Option.getD_some, List.drop_succ_cons, List.drop_zero, List.drop_nil, List.append_nil, unB] at st')
        refine (text_c st' 8 (by omega)).mono ?_
        clear st'
        intro en w hen
        unfold RdC at hen
        cases hr : rdText 8 us with
        | error e =>
          rw [hr] at hen
          obtain ⟨rfl, st'⟩ := hen
          replace st := back _ _ (by simp) st'
          clear back st'
          (try simp only [Value.cells, List.cons_append, List.nil_append, List.set, spl, putIt, pick, List.map_cons, List.map_nil, List.getElem?_cons_zero, List.getElem?_cons_succ, Option.getD_some, List.drop_succ_cons, List.drop_zero, List.drop_nil, List.append_nil, unB] at st)
          (try clear hc); have hc := st.facts; (try simp only [factsOf, blkI, blkFacts, rowI, byI, datI, nullI, oldI, penI, rdI, rdAnyI, rdOverI, Nat.zero_add, Nat.reduceAdd, and_true, true_and, and_self] at hc)
          have H1 : Hid (rdTick xs = .error e) := Lib.hid (by simp [rdTick, HR1.out, HR2.out, HR3.out, hr, bdm])
          clear hr
          go_wp2_with fail
          refine ⟨rfl, ?_⟩
          unfold RdC
          rw [H1.out]
          have st' := st.keep [0] (by decide) (by simp)
          exact ⟨rfl, by simpa [pick] using st'⟩
        | ok p =>
          obtain ⟨tg, vs⟩ := p
          rw [hr] at hen
          obtain ⟨v, M, rfl, ⟨ta, tc, rfl, hc1, rfl⟩, st'⟩ := hen
          replace st := back _ _ (by simp) st'
          clear back st'
          (try simp only [Value.cells, List.cons_append, List.nil_append, List.set, spl, putIt, pick, List.map_cons, List.map_nil, List.getElem?_cons_zero, List.getElem?_cons_succ, Option.getD_some, List.drop_succ_cons, List.drop_zero, List.drop_nil, List.append_nil, unB] at st)
          (try clear hc); have hc := st.facts; (try simp only [factsOf, blkI, blkFacts, rowI, byI, datI, nullI, oldI, penI, rdI, rdAnyI, rdOverI, Nat.zero_add, Nat.reduceAdd, and_true, true_and, and_self] at hc)
          have hl4 := rdText_le hr
          have HR4 := Lib.hid hr
          clear hr
          obtain ⟨tl, htl⟩ : ∃ m, tg.length = m := ⟨_, rfl⟩
          have HTL := Lib.hid htl
          rw [htl] at st hc1 ⊢
          clear htl
          by_cases h8 : tl = 8
          · subst h8
            have H1 : Hid (rdTick xs = .ok ((o, cl, t, tg), vs)) := Lib.hid (by simp [rdTick, HR1.out, HR2.out, HR3.out, HR4.out, bdm, HTL.out])
            go_wp2_with ((first
                  | ((with_reducible refine wl_alloc ?_ (fun K hK => ?_)); rfl; refine owp_alloc (o := ⟨some 2, _, _, _, _, _⟩) rfl st ?_; apply Exists.intro; apply Exists.intro; refine ⟨?_, ?_⟩; (focus (first | (go_simp; done) | (go_simp; rfl))); (clear st; intro b2 w hb st; clear hb))
                  | ((with_reducible refine wl_alloc ?_ (fun K hK => ?_)); rfl; refine owp_alloc (o := ⟨some 3, _, _, _, _, _⟩) rfl st ?_; apply Exists.intro; apply Exists.intro; refine ⟨?_, ?_⟩; (focus (first | (go_simp; done) | (go_simp; rfl))); (clear st; intro b3 w hb st; clear hb))
                  | ((with_reducible refine wl_store ?_ (fun K hK => ?_)); rfl; refine owp_store rfl st ?_; apply Exists.intro; apply Exists.intro; refine ⟨?_, ?_, ?_⟩; (focus (go_simp; try rfl)); (focus (go_simp; try rfl)); (first | (with_reducible refine ⟨0, _, _, _, _, get0, rfl, rfl, ?_, ?_, ?_, ?_⟩) | (with_reducible refine ⟨1, _, _, _, _, get1, rfl, rfl, ?_, ?_, ?_, ?_⟩) | (with_reducible refine ⟨2, _, _, _, _, get2, rfl, rfl, ?_, ?_, ?_, ?_⟩) | (with_reducible refine ⟨3, _, _, _, _, get3, rfl, rfl, ?_, ?_, ?_, ?_⟩) | (with_reducible refine ⟨4, _, _, _, _, get4, rfl, rfl, ?_, ?_, ?_, ?_⟩) | (with_reducible refine ⟨5, _, _, _, _, get5, rfl, rfl, ?_, ?_, ?_, ?_⟩)); (kernel_rfl); (simp [Value.cells]); (rfl); (clear st; intro w st))); (try simp only [Value.cells, List.cons_append, List.nil_append, List.set, spl, putIt, pick, List.map_cons, List.map_nil, List.getElem?_cons_zero, List.getElem?_cons_succ, Option.getD_some, List.drop_succ_cons, List.drop_zero, List.drop_nil, List.append_nil, unB] at st); (try clear hc); have hc := st.facts; (try simp only [factsOf, blkI, blkFacts, rowI, byI, datI, nullI, oldI, penI, rdI, rdAnyI, rdOverI, Nat.zero_add, Nat.reduceAdd, and_true, true_and, and_self] at hc))
            (try simp only [Exit.inBlock, Exit.then])
            refine bodyPost_cell rfl rfl (st.blk (i := 1) get1) Try.underlying66 rfl (by kernel_rfl) rfl ?_
            unfold RdC
            rw [H1.out]
            have st' := st.keep [0, 2] (by decide) (by simp)
            exact ⟨_, [byI ta 8 tg], rfl, ⟨_, rfl, ta, tc, rfl, hc1, rfl⟩, by simpa [pick] using st'⟩
          · have H1 : Hid (rdTick xs = .error 11) := Lib.hid (by simp [rdTick, HR1.out, HR2.out, HR3.out, HR4.out, bdm, HTL.out, h8])
            have h8b : ((tl : Int) != 8) = true := by
              have : (tl : Int) ≠ 8 := by omega
              simpa using this
            have H8 := Lib.hid h8
            clear h8
            go_wp2_with ((first
                  | ((with_reducible refine wl_alloc ?_ (fun K hK => ?_)); rfl; refine owp_alloc (o := ⟨some 2, _, _, _, _, _⟩) rfl st ?_; apply Exists.intro; apply Exists.intro; refine ⟨?_, ?_⟩; (focus (first | (go_simp; done) | (go_simp; rfl))); (clear st; intro b2 w hb st; clear hb))
                  | ((with_reducible refine wl_alloc ?_ (fun K hK => ?_)); rfl; refine owp_alloc (o := ⟨some 3, _, _, _, _, _⟩) rfl st ?_; apply Exists.intro; apply Exists.intro; refine ⟨?_, ?_⟩; (focus (first | (go_simp; done) | (go_simp; rfl))); (clear st; intro b3 w hb st; clear hb))
                  | ((with_reducible refine wl_store ?_ (fun K hK => ?_)); rfl; refine owp_store rfl st ?_; apply Exists.intro; apply Exists.intro; refine ⟨?_, ?_, ?_⟩; (focus (go_simp; try rfl)); (focus (go_simp; try rfl)); (first | (with_reducible refine ⟨0, _, _, _, _, get0, rfl, rfl, ?_, ?_, ?_, ?_⟩) | (with_reducible refine ⟨1, _, _, _, _, get1, rfl, rfl, ?_, ?_, ?_, ?_⟩) | (with_reducible refine ⟨2, _, _, _, _, get2, rfl, rfl, ?_, ?_, ?_, ?_⟩) | (with_reducible refine ⟨3, _, _, _, _, get3, rfl, rfl, ?_, ?_, ?_, ?_⟩) | (with_reducible refine ⟨4, _, _, _, _, get4, rfl, rfl, ?_, ?_, ?_, ?_⟩) | (with_reducible refine ⟨5, _, _, _, _, get5, rfl, rfl, ?_, ?_, ?_, ?_⟩)); (kernel_rfl); (simp [Value.cells]); (rfl); (clear st; intro w st))); (try simp only [Value.cells, List.cons_append, List.nil_append, List.set, spl, putIt, pick, List.map_cons, List.map_nil, List.getElem?_cons_zero, List.getElem?_cons_succ, Option.getD_some, List.drop_succ_cons, List.drop_zero, List.drop_nil, List.append_nil, unB] at st); (try clear hc); have hc := st.facts; (try simp only [factsOf, blkI, blkFacts, rowI, byI, datI, nullI, oldI, penI, rdI, rdAnyI, rdOverI, Nat.zero_add, Nat.reduceAdd, and_true, true_and, and_self] at hc))
            obtain ⟨_, sq, ⟨_, hrd⟩, _⟩ := st.get (i := 0) (I := rdI r vs) get0
            have HRD := Lib.hid hrd.any
            clear hrd
            refine (fail_any _ r 11 HRD.out (by decide)).mono ?_
            rintro en w' ⟨rfl, rfl⟩
            go_wp2_with fail
            refine ⟨rfl, ?_⟩
            unfold RdC
            rw [H1.out]
            have st' := (st.rdAny (i := 0) get0).keep [0] (by decide) (by simp)
            exact ⟨rfl, by simpa [pick] using st'⟩
set_option maxRecDepth 100000 in
set_option maxHeartbeats 1000000 in
theorem tfirstGet_c {fr al : Nat → Prop} {w : World} {r b : Nat} {xs : List UInt8} (st : Own fr al w [rdI r xs, blkI b [.string ⟨#[]⟩, .string ⟨#[]⟩, .int .i64 0, .slice none 0 0]] w) (hl : xs.length ≤ 100000) :
    Calls Try.prog 66 #[.pointer (some ⟨r, 0, none⟩), .pointer (some ⟨b, 0, none⟩)] w (GetPostM fr al w r b (rdTick xs) [.string ⟨#[]⟩, .string ⟨#[]⟩, .int .i64 0, .slice none 0 0] tickM) := by
  go_enter Try.func66, Try.ntmps66
  go_wp2_with fail
  obtain ⟨fr', al', st', back⟩ := st.sub [0] (by decide) (by simp)
  (try simp only [Value.cells, List.cons_append, List.nil_append, List.set, spl, putIt, pick, List.map_cons, List.map_nil, List.getElem?_cons_zero, List.getElem?_cons_succ, Option.getD_some, List.drop_succ_cons, List.drop_zero, List.drop_nil, List.append_nil, unB] at st')
  refine (tickGet_c st' hl).mono ?_
  clear st'
  intro en w hen
  unfold RdC at hen
  cases hr : rdTick xs with
  | error e =>
    rw [hr] at hen
    obtain ⟨rfl, st'⟩ := hen
    replace st := back _ _ (by simp) st'
    clear back st'
    (try simp only [Value.cells, List.cons_append, List.nil_append, List.set, spl, putIt, pick, List.map_cons, List.map_nil, List.getElem?_cons_zero, List.getElem?_cons_succ, Option.getD_some, List.drop_succ_cons, List.drop_zero, List.drop_nil, List.append_nil, unB] at st)
    (try clear hc); have hc := st.facts; (try simp only [factsOf, blkI, blkFacts, rowI, byI, datI, nullI, oldI, penI, rdI, rdAnyI, rdOverI, Nat.zero_add, Nat.reduceAdd, and_true, true_and, and_self] at hc)
    have HR := Lib.hid hr
    clear hr
    go_wp2_with fail
    refine ⟨rfl, ?_⟩
    unfold GetPostM
    (try rw [HR.out])
    exact ⟨rfl, st⟩
  | ok p =>
    obtain ⟨⟨o, cl, t, tg⟩, ys⟩ := p
    rw [hr] at hen
    obtain ⟨v, M, rfl, ⟨cs, rfl, ta, tc, rfl, hc1, rfl⟩, st'⟩ := hen
    replace st := back _ _ (by simp) st'
    clear back st'
    (try simp only [Value.cells, List.cons_append, List.nil_append, List.set, spl, putIt, pick, List.map_cons, List.map_nil, List.getElem?_cons_zero, List.getElem?_cons_succ, Option.getD_some, List.drop_succ_cons, List.drop_zero, List.drop_nil, List.append_nil, unB] at st)
    (try clear hc); have hc := st.facts; (try simp only [factsOf, blkI, blkFacts, rowI, byI, datI, nullI, oldI, penI, rdI, rdAnyI, rdOverI, Nat.zero_add, Nat.reduceAdd, and_true, true_and, and_self] at hc)
    have HR := Lib.hid hr
    clear hr
    unfold S
    (try simp only [Value.cells, List.cons_append, List.nil_append, List.set, spl, putIt, pick, List.map_cons, List.map_nil, List.getElem?_cons_zero, List.getElem?_cons_succ, Option.getD_some, List.drop_succ_cons, List.drop_zero, List.drop_nil, List.append_nil, unB] at st)
    (try clear hc); have hc := st.facts; (try simp only [factsOf, blkI, blkFacts, rowI, byI, datI, nullI, oldI, penI, rdI, rdAnyI, rdOverI, Nat.zero_add, Nat.reduceAdd, and_true, true_and, and_self] at hc)
    go_wp2_with ((((with_reducible refine wl_store ?_ (fun K hK => ?_)); rfl; refine owp_store rfl st ?_; apply Exists.intro; apply Exists.intro; refine ⟨?_, ?_, ?_⟩; (focus (go_simp; try rfl)); (focus (go_simp; try rfl)); (first | (with_reducible refine ⟨0, _, _, _, _, get0, rfl, rfl, ?_, ?_, ?_, ?_⟩) | (with_reducible refine ⟨1, _, _, _, _, get1, rfl, rfl, ?_, ?_, ?_, ?_⟩) | (with_reducible refine ⟨2, _, _, _, _, get2, rfl, rfl, ?_, ?_, ?_, ?_⟩) | (with_reducible refine ⟨3, _, _, _, _, get3, rfl, rfl, ?_, ?_, ?_, ?_⟩) | (with_reducible refine ⟨4, _, _, _, _, get4, rfl, rfl, ?_, ?_, ?_, ?_⟩) | (with_reducible refine ⟨5, _, _, _, _, get5, rfl, rfl, ?_, ?_, ?_, ?_⟩)); (kernel_rfl); (simp [Value.cells]); (rfl); (clear st; intro w st))); (try simp only [Value.cells, List.cons_append, List.nil_append, List.set, spl, putIt, pick, List.map_cons, List.map_nil, List.getElem?_cons_zero, List.getElem?_cons_succ, Option.getD_some, List.drop_succ_cons, List.drop_zero, List.drop_nil, List.append_nil, unB] at st); (try clear hc); have hc := st.facts; (try simp only [factsOf, blkI, blkFacts, rowI, byI, datI, nullI, oldI, penI, rdI, rdAnyI, rdOverI, Nat.zero_add, Nat.reduceAdd, and_true, true_and, and_self] at hc))
    go_end0
    unfold GetPostM
    (try rw [HR.out])
    exact ⟨rfl, _, [byI ta 8 tg], ⟨ta, tc, rfl, hc1, rfl⟩, by simpa [S] using st⟩
set_option maxRecDepth 100000 in
set_option maxHeartbeats 1000000 in
theorem tgetsGet_c {fr al : Nat → Prop} {w : World} {r b : Nat} {xs : List UInt8} (st : Own fr al w [rdI r xs, blkI b [.string ⟨#[]⟩, .string ⟨#[]⟩, .int .i64 0, .slice none 0 0]] w) (hl : xs.length ≤ 100000) :
    Calls Try.prog 38 #[.pointer (some ⟨r, 0, none⟩), .pointer (some ⟨b, 0, none⟩)] w (GetPostM fr al w r b (rdTick xs) [.string ⟨#[]⟩, .string ⟨#[]⟩, .int .i64 0, .slice none 0 0] tickM) := by
  go_enter Try.func38, Try.ntmps38
  go_wp2_with fail
  obtain ⟨fr', al', st', back⟩ := st.sub [0] (by decide) (by simp)
  (try simp only [Value.cells, List.cons_append, List.nil_append, List.set, spl, putIt, pick, List.map_cons, List.map_nil, List.getElem?_cons_zero, List.getElem?_cons_succ, Option.getD_some, List.drop_succ_cons, List.drop_zero, List.drop_nil, List.append_nil, unB] at st')
  refine (tickGet_c st' hl).mono ?_
  clear st'
  intro en w hen
  unfold RdC at hen
  cases hr : rdTick xs with
  | error e =>
    rw [hr] at hen
    obtain ⟨rfl, st'⟩ := hen
    replace st := back _ _ (by simp) st'
    clear back st'
    (try simp only [Value.cells, List.cons_append, List.nil_append, List.set, spl, putIt, pick, List.map_cons, List.map_nil, List.getElem?_cons_zero, List.getElem?_cons_succ, Option.getD_some, List.drop_succ_cons, List.drop_zero, List.drop_nil, List.append_nil, unB] at st)
    (try clear hc); have hc := st.facts; (try simp only [factsOf, blkI, blkFacts, rowI, byI, datI, nullI, oldI, penI, rdI, rdAnyI, rdOverI, Nat.zero_add, Nat.reduceAdd, and_true, true_and, and_self] at hc)
    have HR := Lib.hid hr
    clear hr
    go_wp2_with fail
    refine ⟨rfl, ?_⟩
    unfold GetPostM
    (try rw [HR.out])
    exact ⟨rfl, st⟩
  | ok p =>
    obtain ⟨⟨o, cl, t, tg⟩, ys⟩ := p
    rw [hr] at hen
    obtain ⟨v, M, rfl, ⟨cs, rfl, ta, tc, rfl, hc1, rfl⟩, st'⟩ := hen
    replace st := back _ _ (by simp) st'
    clear back st'
    (try simp only [Value.cells, List.cons_append, List.nil_append, List.set, spl, putIt, pick, List.map_cons, List.map_nil, List.getElem?_cons_zero, List.getElem?_cons_succ, Option.getD_some, List.drop_succ_cons, List.drop_zero, List.drop_nil, List.append_nil, unB] at st)
    (try clear hc); have hc := st.facts; (try simp only [factsOf, blkI, blkFacts, rowI, byI, datI, nullI, oldI, penI, rdI, rdAnyI, rdOverI, Nat.zero_add, Nat.reduceAdd, and_true, true_and, and_self] at hc)
    have HR := Lib.hid hr
    clear hr
    unfold S
    (try simp only [Value.cells, List.cons_append, List.nil_append, List.set, spl, putIt, pick, List.map_cons, List.map_nil, List.getElem?_cons_zero, List.getElem?_cons_succ, Option.getD_some, List.drop_succ_cons, List.drop_zero, List.drop_nil, List.append_nil, unB] at st)
    (try clear hc); have hc := st.facts; (try simp only [factsOf, blkI, blkFacts, rowI, byI, datI, nullI, oldI, penI, rdI, rdAnyI, rdOverI, Nat.zero_add, Nat.reduceAdd, and_true, true_and, and_self] at hc)
    go_wp2_with ((((with_reducible refine wl_store ?_ (fun K hK => ?_)); rfl; refine owp_store rfl st ?_; apply Exists.intro; apply Exists.intro; refine ⟨?_, ?_, ?_⟩; (focus (go_simp; try rfl)); (focus (go_simp; try rfl)); (first | (with_reducible refine ⟨0, _, _, _, _, get0, rfl, rfl, ?_, ?_, ?_, ?_⟩) | (with_reducible refine ⟨1, _, _, _, _, get1, rfl, rfl, ?_, ?_, ?_, ?_⟩) | (with_reducible refine ⟨2, _, _, _, _, get2, rfl, rfl, ?_, ?_, ?_, ?_⟩) | (with_reducible refine ⟨3, _, _, _, _, get3, rfl, rfl, ?_, ?_, ?_, ?_⟩) | (with_reducible refine ⟨4, _, _, _, _, get4, rfl, rfl, ?_, ?_, ?_, ?_⟩) | (with_reducible refine ⟨5, _, _, _, _, get5, rfl, rfl, ?_, ?_, ?_, ?_⟩)); (kernel_rfl); (simp [Value.cells]); (rfl); (clear st; intro w st))); (try simp only [Value.cells, List.cons_append, List.nil_append, List.set, spl, putIt, pick, List.map_cons, List.map_nil, List.getElem?_cons_zero, List.getElem?_cons_succ, Option.getD_some, List.drop_succ_cons, List.drop_zero, List.drop_nil, List.append_nil, unB] at st); (try clear hc); have hc := st.facts; (try simp only [factsOf, blkI, blkFacts, rowI, byI, datI, nullI, oldI, penI, rdI, rdAnyI, rdOverI, Nat.zero_add, Nat.reduceAdd, and_true, true_and, and_self] at hc))
    go_end0
    unfold GetPostM
    (try rw [HR.out])
    exact ⟨rfl, _, [byI ta 8 tg], ⟨ta, tc, rfl, hc1, rfl⟩, by simpa [S] using st⟩
end Go.Proofs.Ytdkemfimhdjdiaa
