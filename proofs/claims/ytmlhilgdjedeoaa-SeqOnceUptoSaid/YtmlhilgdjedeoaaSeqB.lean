/- msg.Get in full. -/
import Derived.Test.YtmlhilgdjedeoaaRegion6
import Derived.Test.YtmlhilgdjedeoaaSetsC
import Derived.Test.YtmlhilgdjedeoaaRows
import Derived.Laws.BitsAllLaws
import Derived.Test.YtmlhilgdjedeoaaSlRoleC
namespace Go.Proofs.Ytmlhilgdjedeoaa
set_option linter.unusedSimpArgs false
set_option linter.unusedVariables false
open Go Go.RowKit
def mgM (d : MsgT) (v : Value) (M : List It) : Prop := ∃ wa wc sa sc ss, v = mgV ⟨d.k, d.p, d.e, d.nm, wa, d.wn, wc, d.ws, sa, d.sn, sc, ss⟩ ∧ ss.map stripS = d.ss ∧ ((d.wn ≤ wc ∧ wc ≤ maxLen) ∧ (d.sn ≤ sc ∧ sc ≤ maxLen)) ∧ M = [flI wa d.wn d.ws, flI sa d.sn ss, sgsI ss]
theorem Own.nilFl {fr al : Nat → Prop} {w0 w : World} {L : List It} {α : Type} [Flt α] (st : Own fr al w0 L w) : Own fr al w0 (L ++ [flI none 0 ([] : List α)]) w := st.bare ⟨Fl.nil _ _, fun h => by omega⟩
theorem shAt_strip (l : List SgnT) (j : Nat) : shAt (l.map stripS) j = shAt l j := by
  unfold shAt
  rw [List.getElem?_map, List.getElem?_map]
  cases l[j]? with
  | none => rfl
  | some x =>
    simp only [Option.map_some]
    cases l[j - 1]? with
    | none => rfl
    | some y => rfl
theorem showsR_strip (l : List SgnT) : showsR (l.map stripS) = showsR l := by
  unfold showsR
  rw [List.length_map]
  congr 2
  exact funext (shAt_strip l)
theorem mgR_turn (wa : Option Addr) (wn wc : Nat) (ws : List Role) (sa : Option Addr) (sn sc : Nat) (ss : List SgnT) : mgR ⟨2, 0, 0, [], wa, wn, wc, ws, sa, sn, sc, ss⟩ = (wantsR ws && showsR ss) := by
  unfold mgR bareMg kindR sameMg
  simp [sameSs_refl]
theorem sgnInfo : ∃ i, Try.prog.info? 76 = some i ∧ i.zero = some (sgV ⟨⟨0, ([], []), [], ([], []), ([], []), []⟩, none, 0, 0, []⟩) ∧ i.size = 10 ∧ i.bytes = 160 := info_parts (by kernel_rfl)
set_option maxRecDepth 100000 in
set_option maxHeartbeats 16000000 in
theorem msgGet_c {fr al : Nat → Prop} {W : World} {r : Nat} {xs : List UInt8} (st : Own fr al W [rdI r xs] W) (hl : xs.length ≤ 100000) :
    Calls Try.prog 49 #[.pointer (some ⟨r, 0, none⟩)] W (RdC fr al W r (rdMg xs) mgM) := by
  go_enter Try.func49, Try.ntmps49
  go_wp2_with ((((with_reducible refine wl_alloc ?_ (fun K hK => ?_)); rfl; refine owp_alloc (o := ⟨some 2, _, _, _, _, _⟩) rfl st ?_; apply Exists.intro; apply Exists.intro; refine ⟨?_, ?_⟩; (focus (first | (go_simp; done) | (go_simp; rfl))); (clear st; intro b2 w hb st; clear hb))); (try simp only [nsl, Value.cells, unB] at st); (try clear hc); have hc := st.facts; (try simp only [nfl, nft, Nat.reduceAdd] at hc))
  obtain ⟨fr', al', st', back⟩ := st.sub [0] (by decide) (by simp)
  (try simp only [nsl, Value.cells, unB] at st')
  refine (number_c st' 9223372036854775807).mono ?_
  clear st'
  intro en w hen
  unfold RdC at hen
  cases hr : rdNumber 9223372036854775807 xs with
  | error e =>
    rw [hr] at hen
    obtain ⟨rfl, st'⟩ := hen
    replace st := back _ _ (by simp) st'
    clear back st'
    (try simp only [nsl, Value.cells, unB] at st)
    (try clear hc); have hc := st.facts; (try simp only [nfl, nft, Nat.reduceAdd] at hc)
    have H1 : Hid (rdMg xs = .error e) := Lib.hid (by simp [rdMg, hr, bdm])
    clear hr
    go_wp2_with fail
    refine ⟨rfl, ?_⟩
    unfold RdC
    rw [H1.out]
    have st' := st.keep [0] (by decide) (by simp)
    exact ⟨rfl, by simpa [pick] using st'⟩
  | ok p =>
    obtain ⟨k, ys⟩ := p
    have hl1 := rdNumber_leM hr
    rw [hr] at hen
    obtain ⟨v, M, rfl, ⟨rfl, rfl⟩, st'⟩ := hen
    replace st := back _ _ (by simp) st'
    clear back st'
    (try simp only [nsl, Value.cells, unB] at st)
    (try clear hc); have hc := st.facts; (try simp only [nfl, nft, Nat.reduceAdd] at hc)
    have HR1 := Lib.hid hr
    clear hr
    by_cases k1 : k = 1
    · subst k1
      go_wp2_with ((first
            | ((with_reducible refine wl_alloc ?_ (fun K hK => ?_)); rfl; refine owp_alloc (o := ⟨some 3, _, _, _, _, _⟩) rfl st ?_; apply Exists.intro; apply Exists.intro; refine ⟨?_, ?_⟩; (focus (first | (go_simp; done) | (go_simp; rfl))); (clear st; intro b3 w hb st; clear hb))
            | ((with_reducible refine wl_store ?_ (fun K hK => ?_)); rfl; refine owp_store rfl st ?_; apply Exists.intro; apply Exists.intro; refine ⟨?_, ?_, ?_⟩; (focus (go_simp; try rfl)); (focus (go_simp; try rfl)); (with_reducible refine ⟨2, _, _, _, _, get2, rfl, rfl, ?_, ?_, ?_, ?_⟩); (kernel_rfl); (simp [Value.cells]); (rfl); (clear st; intro w st))); (try simp only [nsl, Value.cells, unB] at st); (try clear hc); have hc := st.facts; (try simp only [nfl, nft, Nat.reduceAdd] at hc))
      obtain ⟨fr', al', st', back⟩ := st.sub [0] (by decide) (by simp)
      (try simp only [nsl, Value.cells, unB] at st')
      refine (nameGet_c st' (by omega)).mono ?_
      clear st'
      intro en w hen
      unfold RdC at hen
      cases hr : rdName ys with
      | error e =>
        rw [hr] at hen
        obtain ⟨rfl, st'⟩ := hen
        replace st := back _ _ (by simp) st'
        clear back st'
        (try simp only [nsl, Value.cells, unB] at st)
        (try clear hc); have hc := st.facts; (try simp only [nfl, nft, Nat.reduceAdd] at hc)
        have H1 : Hid (rdMg xs = .error e) := Lib.hid (by simp [rdMg, HR1.out, hr, bdm])
        clear hr
        go_wp2_with fail
        refine ⟨rfl, ?_⟩
        unfold RdC
        rw [H1.out]
        have st' := st.keep [0] (by decide) (by simp)
        exact ⟨rfl, by simpa [pick] using st'⟩
      | ok p =>
        obtain ⟨nm, zs⟩ := p
        have hl2 := rdName_le hr
        have hl2b := (nameR_len hl2.2).2
        rw [hr] at hen
        obtain ⟨v, M, rfl, ⟨rfl, rfl⟩, st'⟩ := hen
        replace st := back _ _ (by simp) st'
        clear back st'
        (try simp only [nsl, Value.cells, unB] at st)
        (try clear hc); have hc := st.facts; (try simp only [nfl, nft, Nat.reduceAdd] at hc)
        have HR2 := Lib.hid hr
        clear hr
        unfold S
        go_wp2_with ((((with_reducible refine wl_store ?_ (fun K hK => ?_)); rfl; refine owp_store rfl st ?_; apply Exists.intro; apply Exists.intro; refine ⟨?_, ?_, ?_⟩; (focus (go_simp; try rfl)); (focus (go_simp; try rfl)); (with_reducible refine ⟨2, _, _, _, _, get2, rfl, rfl, ?_, ?_, ?_, ?_⟩); (kernel_rfl); (simp [Value.cells]); (rfl); (clear st; intro w st))); (try simp only [nsl, Value.cells, unB] at st); (try clear hc); have hc := st.facts; (try simp only [nfl, nft, Nat.reduceAdd] at hc))
        obtain ⟨fr', al', st', back⟩ := st.sub [0] (by decide) (by simp)
        (try simp only [nsl, Value.cells, unB] at st')
        refine (number_c st' 2).mono ?_
        clear st'
        intro en w hen
        unfold RdC at hen
        cases hr : rdNumber 2 zs with
        | error e =>
          rw [hr] at hen
          obtain ⟨rfl, st'⟩ := hen
          replace st := back _ _ (by simp) st'
          clear back st'
          (try simp only [nsl, Value.cells, unB] at st)
          (try clear hc); have hc := st.facts; (try simp only [nfl, nft, Nat.reduceAdd] at hc)
          have H1 : Hid (rdMg xs = .error e) := Lib.hid (by simp [rdMg, HR1.out, HR2.out, hr, bdm])
          clear hr
          go_wp2_with fail
          refine ⟨rfl, ?_⟩
          unfold RdC
          rw [H1.out]
          have st' := st.keep [0] (by decide) (by simp)
          exact ⟨rfl, by simpa [pick] using st'⟩
        | ok p =>
          obtain ⟨pl, us⟩ := p
          rw [hr] at hen
          obtain ⟨v, M, rfl, ⟨rfl, rfl⟩, st'⟩ := hen
          replace st := back _ _ (by simp) st'
          clear back st'
          (try simp only [nsl, Value.cells, unB] at st)
          (try clear hc); have hc := st.facts; (try simp only [nfl, nft, Nat.reduceAdd] at hc)
          have HR3 := Lib.hid hr
          clear hr
          have HQ := Lib.hid (fun W => msgRight_any (mg0 1 pl 0 nm) W (mg0_ok W _ _ _ _) (mg0_L (by first | omega | simp)))
          unfold mgV mg0 S at HQ
          simp only at HQ
          go_wp2_with ((((with_reducible refine wl_store ?_ (fun K hK => ?_)); rfl; refine owp_store rfl st ?_; apply Exists.intro; apply Exists.intro; refine ⟨?_, ?_, ?_⟩; (focus (go_simp; try rfl)); (focus (go_simp; try rfl)); (with_reducible refine ⟨2, _, _, _, _, get2, rfl, rfl, ?_, ?_, ?_, ?_⟩); (kernel_rfl); (simp [Value.cells]); (rfl); (clear st; intro w st))); (try simp only [nsl, Value.cells, unB] at st); (try clear hc); have hc := st.facts; (try simp only [nfl, nft, Nat.reduceAdd] at hc))
          refine (HQ.out _).mono ?_
          rintro en w ⟨rfl, hx⟩
          replace st := st.ext hx
          clear hx
          cases hmr : mgR (mg0 1 pl 0 nm) with
          | true =>
            have H1 : Hid (rdMg xs = .ok ((mg0 1 pl 0 nm), us)) := Lib.hid (by simp [rdMg, HR1.out, HR2.out, HR3.out, bdm, okMg, hmr])
            have hmr2 := hmr
            unfold mg0 at hmr2
            rw [hmr2]
            clear hmr hmr2 HQ
            (try simp only [nsl, Value.cells, unB] at st)
            (try clear hc); have hc := st.facts; (try simp only [nfl, nft, Nat.reduceAdd] at hc)
            go_wp2_with ((((with_reducible refine wl_store ?_ (fun K hK => ?_)); rfl; refine owp_store rfl st ?_; apply Exists.intro; apply Exists.intro; refine ⟨?_, ?_, ?_⟩; (focus (go_simp; try rfl)); (focus (go_simp; try rfl)); (with_reducible refine ⟨1, _, _, _, _, get1, rfl, rfl, ?_, ?_, ?_, ?_⟩); (kernel_rfl); (simp [Value.cells]); (rfl); (clear st; intro w st))); (try simp only [nsl, Value.cells, unB] at st); (try clear hc); have hc := st.facts; (try simp only [nfl, nft, Nat.reduceAdd] at hc))
            (try simp only [Exit.inBlock, Exit.then])
            refine bodyPost_cell rfl rfl (st.blk (i := 1) get1) Try.underlying41 rfl (by kernel_rfl) rfl ?_
            unfold RdC
            rw [H1.out]
            have st' := (((st.keep [0] (by decide) (by simp)).nilFl (α := Role)).nilFl (α := SgnT)).noSgs
            exact ⟨_, _, rfl, ⟨none, 0, none, 0, [], rfl, rfl, ⟨⟨Nat.le_refl _, by simp [maxLen]⟩, ⟨Nat.le_refl _, by simp [maxLen]⟩⟩, rfl⟩, by simpa [pick, mg0] using st'⟩
          | false =>
            have H1 : Hid (rdMg xs = .error 11) := Lib.hid (by simp [rdMg, HR1.out, HR2.out, HR3.out, bdm, okMg, hmr])
            have hmr2 := hmr
            unfold mg0 at hmr2
            rw [hmr2]
            clear hmr hmr2 HQ
            (try simp only [nsl, Value.cells, unB] at st)
            (try clear hc); have hc := st.facts; (try simp only [nfl, nft, Nat.reduceAdd] at hc)
            obtain ⟨_, sq, ⟨_, hrd⟩, _⟩ := st.get (i := 0) (I := rdI r us) get0
            have HRD := Lib.hid hrd.any
            clear hrd
            go_wp2_with fail
            refine (fail_any _ r 11 HRD.out (by decide)).mono ?_
            rintro en w' ⟨rfl, rfl⟩
            go_wp2_with fail
            refine ⟨rfl, ?_⟩
            unfold RdC
            rw [H1.out]
            have st' := (st.rdAny (i := 0) get0).keep [0] (by decide) (by simp)
            exact ⟨rfl, by simpa [pick] using st'⟩
    by_cases k2 : k = 2
    · subst k2
      clear k1
      go_wp2_with ((first
            | ((with_reducible refine wl_alloc ?_ (fun K hK => ?_)); rfl; refine owp_alloc (o := ⟨some 3, _, _, _, _, _⟩) rfl st ?_; apply Exists.intro; apply Exists.intro; refine ⟨?_, ?_⟩; (focus (first | (go_simp; done) | (go_simp; rfl))); (clear st; intro b3 w hb st; clear hb))
            | ((with_reducible refine wl_store ?_ (fun K hK => ?_)); rfl; refine owp_store rfl st ?_; apply Exists.intro; apply Exists.intro; refine ⟨?_, ?_, ?_⟩; (focus (go_simp; try rfl)); (focus (go_simp; try rfl)); (with_reducible refine ⟨2, _, _, _, _, get2, rfl, rfl, ?_, ?_, ?_, ?_⟩); (kernel_rfl); (simp [Value.cells]); (rfl); (clear st; intro w st))); (try simp only [nsl, Value.cells, unB] at st); (try clear hc); have hc := st.facts; (try simp only [nfl, nft, Nat.reduceAdd] at hc))
      obtain ⟨fr', al', st', back⟩ := st.sub [0] (by decide) (by simp)
      (try simp only [nsl, Value.cells, unB] at st')
      refine (number_c st' 16).mono ?_
      clear st'
      intro en w hen
      unfold RdC at hen
      cases hr : rdNumber 16 ys with
      | error e =>
        rw [hr] at hen
        obtain ⟨rfl, st'⟩ := hen
        replace st := back _ _ (by simp) st'
        clear back st'
        (try simp only [nsl, Value.cells, unB] at st)
        (try clear hc); have hc := st.facts; (try simp only [nfl, nft, Nat.reduceAdd] at hc)
        have H1 : Hid (rdMg xs = .error e) := Lib.hid (by simp [rdMg, HR1.out, hr, bdm])
        clear hr
        go_wp2_with fail
        refine ⟨rfl, ?_⟩
        unfold RdC
        rw [H1.out]
        have st' := st.keep [0] (by decide) (by simp)
        exact ⟨rfl, by simpa [pick] using st'⟩
      | ok p =>
        obtain ⟨n, zs⟩ := p
        have hl2 := rdNumber_leM hr
        rw [hr] at hen
        obtain ⟨v, M, rfl, ⟨rfl, rfl⟩, st'⟩ := hen
        replace st := back _ _ (by simp) st'
        clear back st'
        (try simp only [nsl, Value.cells, unB] at st)
        (try clear hc); have hc := st.facts; (try simp only [nfl, nft, Nat.reduceAdd] at hc)
        have HR2 := Lib.hid hr
        clear hr
        have hn : n ≤ 16 := by omega
        replace st := st.row_nil 71 2
        (try simp only [nsl, Value.cells, unB] at st)
        (try clear hc); have hc := st.facts; (try simp only [nfl, nft, Nat.reduceAdd] at hc)
        go_wp2_with fail
        go_loopg [21] n (fun kk i wr => ∃ (j : Nat) (out : List Role) (us : List UInt8) (va : Option Addr) (vc : Nat), j ≤ n ∧ kk = n - j ∧ i = .int .i64 (j : Int) ∧ Hid (rdN rdRole n zs = addN out (rdN rdRole (n - j) us)) ∧ Hid (j = out.length ∧ ∀ x ∈ out, roleR x = true) ∧ us.length ≤ 100000 ∧ Own fr al W [rdI r us, blkI b2 [.int .i64 0, .int .i64 0, .int .i64 0, .string ⟨#[]⟩, .slice none 0 0, .slice none 0 0], blkI b3 [.int .i64 2, .int .i64 0, .int .i64 0, .string ⟨#[]⟩, .slice va j vc, .slice none 0 0], rowI 71 2 (.slice va j vc) j (cellsL out)] wr)
        case atStart => exact ⟨0, [], zs, none, 0, by omega, by omega, rfl, Lib.hid (by rw [addN_nil]; rfl), Lib.hid ⟨rfl, by simp⟩, by omega, st⟩
        case round =>
          obtain ⟨j, out, us, va, vc, hj, rfl, rfl, HT, HJ, hul, st'⟩ := hrel
          clear st hc
          have st := st'
          clear st'
          (try simp only [nsl, Value.cells, unB] at st)
          (try clear hc); have hc := st.facts; (try simp only [nfl, nft, Nat.reduceAdd] at hc)
          by_cases hjn : j < n
          · obtain ⟨q, hq⟩ : ∃ q, n - j = q + 1 := ⟨n - j - 1, by omega⟩
            rw [hq] at HT
            have hq2 : n - (j + 1) = q := by omega
            clear hq
            go_wp2_with fail
            refine Rg4.wp_region6_eq #[0, 1, 0, 4, 12, 31, 63, 127] [1, 3, 4, 5, 7] [] (fun _ => True) [0, 2] 1 3 4 [5, 6, 7] (by kernel_rfl) (by rfl) (by rfl) (by rfl) (by rfl) (by rfl) (by kernel_rfl) (by kernel_rfl) (by kernel_rfl) (show Rg4.PB _ by repeat (first | with_reducible exact Rg4.pb_body | with_reducible exact Rg4.pb_bodyD rfl | with_reducible refine Rg4.pb_then ?_ | with_reducible refine Rg4.pb_inBlock ?_ | with_reducible refine Rg4.pb_noGoto ?_ | with_reducible assumption)) trivial ?_
            replace st := st.drew
            change Rg4.wp5 _ _ _ _ _ _ _ _ _ _ (World.drew _) _ _
            generalize World.drew _ = w at st ⊢
            (try clear hc); have hc := st.facts; (try simp only [nfl, nft, Nat.reduceAdd] at hc)
            iterate 2 (refine Rg4.w5_any (Rg4.want_none rfl) rfl ?_; apply Exists.intro; refine ⟨fun w' => ?_, ?_⟩; (focus (first | (go_simp; done) | (go_simp; first | rfl | (rw [if_neg] <;> first | rfl | omega) | (rw [if_pos] <;> first | rfl | omega)))); (try simp only [Rg4.nrm]))
            refine Rg4.w5_end ?_
            refine Rg4.tree_load' (show Rg4.PB _ by repeat (first | with_reducible exact Rg4.pb_body | with_reducible exact Rg4.pb_bodyD rfl | with_reducible refine Rg4.pb_then ?_ | with_reducible refine Rg4.pb_inBlock ?_ | with_reducible refine Rg4.pb_noGoto ?_ | with_reducible assumption)) (fun W' => Blk W' b3 [.int .i64 2, .int .i64 0, .int .i64 0, .string ⟨#[]⟩, .slice va j vc, .slice none 0 0]) (by rfl) (by rfl) rfl rfl rfl rfl rfl rfl (by kernel_rfl) (by kernel_rfl) nofun nofun nofun (fun _ => trivial) (st.blk (i := 2) get2) ?_
            apply Exists.intro; refine ⟨fun w' hcl => ?_, ?_⟩; (focus (have q4 := Blk.cell hcl 4; (try simp at q4); (focus (first | (go_simp; done) | (go_simp; first | rfl | (rw [if_neg] <;> first | rfl | omega) | (rw [if_pos] <;> first | rfl | omega)))))); (try simp only [Rg4.nrm])
            intro K hK
            go_wp2_with fail
            obtain ⟨fr', al', st', back⟩ := st.sub [0] (by decide) (by simp)
            (try simp only [nsl, Value.cells, unB] at st')
            refine (roleGet_c st' (by omega)).mono ?_
            clear st'
            intro en w hen
            unfold RdC at hen
            cases hr : rdRole us with
            | error e =>
              rw [hr] at hen
              obtain ⟨rfl, st'⟩ := hen
              replace st := back _ _ (by simp) st'
              clear back st'
              (try simp only [nsl, Value.cells, unB] at st)
              (try clear hc); have hc := st.facts; (try simp only [nfl, nft, Nat.reduceAdd] at hc)
              have H1 : Hid (rdMg xs = .error e) := Lib.hid (by simp [rdMg, HR1.out, HR2.out, HT.out, addN_er rdRole out q hr, bdm])
              clear hr
              go_wp2_with fail
              refine ⟨rfl, ?_⟩
              unfold RdC
              rw [H1.out]
              have st' := st.keep [0] (by decide) (by simp)
              exact ⟨rfl, by simpa [pick] using st'⟩
            | ok p =>
              obtain ⟨⟨ro, rd⟩, ts⟩ := p
              rw [hr] at hen
              obtain ⟨v, M, rfl, ⟨rfl, rfl⟩, st'⟩ := hen
              replace st := back _ _ (by simp) st'
              clear back st'
              (try simp only [nsl, Value.cells, unB] at st)
              (try clear hc); have hc := st.facts; (try simp only [nfl, nft, Nat.reduceAdd] at hc)
              have hl3 := rdRole_le hr
              have H1 : Hid (rdN rdRole n zs = addN (out ++ [(ro, rd)]) (rdN rdRole q ts)) := Lib.hid (by rw [HT.out]; exact addN_ok rdRole _ _ hr)
              have HRO := Lib.hid hl3.2
              clear hr
              unfold rV S
              refine hK _ _ ⟨st.blk (i := 2) get2, ?_⟩
              clear K hK
              intro K hK
              (try simp only [Rg4.nrm])
              (refine owp_buildSlice (o := ⟨some 27, _, _, _, _, _⟩) rfl st ?_; apply Exists.intro; apply Exists.intro; apply Exists.intro; apply Exists.intro; refine ⟨?_, ?_⟩; (focus (go_simp; (first | done | exact ⟨⟨rfl, rfl⟩, rfl⟩ | rfl))); (clear st; intro b27 w hb st; clear hb); (try simp only [nsl, Value.cells, unB] at st); (try clear hc); have hc := st.facts; (try simp only [nfl, nft, Nat.reduceAdd] at hc))
              refine hK _ _ ⟨st.blk (i := 2) get2, ?_⟩
              clear K hK
              (try simp only [Rg4.nrm])

              refine Rg4.w4_bar (Rg4.want_none rfl) rfl (fun w' hw' hcl _ K hK => ?_)
              subst hw'
              obtain ⟨inf, hinf, hz0, hz1, hz2⟩ := roleInfo
              refine owp_append rfl st 3 get3 Try.underlying38 hinf hz0 hz1 hz2 rfl (by decide) rfl rfl ((st.blk (i := 4) get4).flat rfl) (by simp [Value.oneCell']) (by simp only [maxLen]; omega) (by omega) ?_
              clear hinf hz0 hz1 hz2 inf
              clear st
              intro v' w st
              obtain ⟨va', vc', rfl⟩ := own_slice (st.row (i := 3) get3)
              (try simp only [nsl, Value.cells, unB] at st)
              (try clear hc); have hc := st.facts; (try simp only [nfl, nft, Nat.reduceAdd] at hc)
              refine hK _ _ ⟨trivial, ?_⟩
              clear hK
              (try simp only [Rg4.nrm])
              (refine Rg4.w4_any (Rg4.want_none rfl) rfl ?_; apply Exists.intro; refine ⟨fun w' => ?_, ?_⟩; (focus (first | (go_simp; done) | (go_simp; first | rfl | (rw [if_neg] <;> first | rfl | omega) | (rw [if_pos] <;> first | rfl | omega)))); (try simp only [Rg4.nrm]))
              (refine Rg4.w4_bar (Rg4.want_none rfl) rfl (fun w' hw' hcl' _ K hK => ?_); subst hw'; (refine owp_store rfl st ?_; apply Exists.intro; apply Exists.intro; refine ⟨?_, ?_, ?_⟩; (focus (go_simp; try rfl)); (focus (go_simp; try rfl)); (with_reducible refine ⟨2, _, _, _, _, get2, rfl, rfl, ?_, ?_, ?_, ?_⟩); (kernel_rfl); (simp [Value.cells]); (rfl); (clear st; intro w st); (try simp only [nsl, Value.cells, unB] at st); (try clear hc); have hc := st.facts; (try simp only [nfl, nft, Nat.reduceAdd] at hc)); refine hK _ _ ⟨trivial, ?_⟩; (try simp only [Rg4.nrm]))
              refine Rg4.w4_nil (fun w' hw' hcl' _ => ?_); subst hw'; clear hcl'
              go_wp2_with fail
              have st' := st.keep [0, 1, 2, 3] (by decide) (by simp)
              go_roundg (n - (j + 1))
              case measure => omega
              case rel =>
                refine ⟨j + 1, out ++ [(ro, rd)], ts, va', vc', by omega, by omega, by go_num, by rw [hq2]; exact H1, Lib.hid ⟨by simp [HJ.out.1], fun x hx => by
                  rcases List.mem_append.1 hx with z | z
                  · exact HJ.out.2 x z
                  · rw [List.mem_singleton.1 z]; exact HRO.out⟩, by omega, ?_⟩
                rw [cellsL_append, cellsL_one']
                exact st'
          · obtain rfl : j = n := by omega
            have HW : Hid (rdN rdRole j zs = .ok (out, us)) := Lib.hid (by rw [HT.out, Nat.sub_self]; exact addN_end rdRole _ _)
            clear HT
            go_wp2_with fail
            obtain ⟨fr', al', st', back⟩ := st.sub [0] (by decide) (by simp)
            (try simp only [nsl, Value.cells, unB] at st')
            refine (number_c st' 8).mono ?_
            clear st'
            intro en w hen
            unfold RdC at hen
            cases hr : rdNumber 8 us with
            | error e =>
              rw [hr] at hen
              obtain ⟨rfl, st'⟩ := hen
              replace st := back _ _ (by simp) st'
              clear back st'
              (try simp only [nsl, Value.cells, unB] at st)
              (try clear hc); have hc := st.facts; (try simp only [nfl, nft, Nat.reduceAdd] at hc)
              have H1 : Hid (rdMg xs = .error e) := Lib.hid (by simp [rdMg, HR1.out, HR2.out, HW.out, hr, bdm])
              clear hr
              go_wp2_with fail
              refine ⟨rfl, ?_⟩
              unfold RdC
              rw [H1.out]
              have st' := st.keep [0] (by decide) (by simp)
              exact ⟨rfl, by simpa [pick] using st'⟩
            | ok p =>
              obtain ⟨m, vs⟩ := p
              have hl3 := rdNumber_leM hr
              rw [hr] at hen
              obtain ⟨v, M, rfl, ⟨rfl, rfl⟩, st'⟩ := hen
              replace st := back _ _ (by simp) st'
              clear back st'
              (try simp only [nsl, Value.cells, unB] at st)
              (try clear hc); have hc := st.facts; (try simp only [nfl, nft, Nat.reduceAdd] at hc)
              have HR3 := Lib.hid hr
              clear hr
              have hm : m ≤ 8 := by omega
              replace st := (st.row_nil 76 10).noSgs
              (try simp only [nsl, Value.cells, unB] at st)
              (try clear hc); have hc := st.facts; (try simp only [nfl, nft, Nat.reduceAdd] at hc)
              go_wp2_with fail
              go_loopg [33] m (fun kk i wr => ∃ (q : Nat) (sl : List SgnT) (ts : List UInt8) (ta : Option Addr) (tc : Nat), q ≤ m ∧ kk = m - q ∧ i = .int .i64 (q : Int) ∧ Hid (rdN rdSg m vs = addN (sl.map stripS) (rdN rdSg (m - q) ts)) ∧ Hid (q = sl.length ∧ ∀ x ∈ sl, (credR x.c = true ∧ x.n = 8) ∧ (x.n ≤ x.m ∧ x.m ≤ maxLen)) ∧ ts.length ≤ 100000 ∧ Own fr al W [rdI r ts, blkI b2 [.int .i64 0, .int .i64 0, .int .i64 0, .string ⟨#[]⟩, .slice none 0 0, .slice none 0 0], blkI b3 [.int .i64 2, .int .i64 0, .int .i64 0, .string ⟨#[]⟩, .slice va j vc, .slice ta q tc], rowI 71 2 (.slice va j vc) j (cellsL out), rowI 76 10 (.slice ta q tc) q (cellsL sl), sgsI sl] wr)
              case atStart => exact ⟨0, [], vs, none, 0, by omega, by omega, rfl, Lib.hid (by rw [List.map_nil, addN_nil]; rfl), Lib.hid ⟨rfl, by simp⟩, by omega, st⟩
              case round =>
                obtain ⟨q, sl, ts, ta, tc, hq, rfl, rfl, HT, HQJ, htl, st'⟩ := hrel
                clear st hc
                have st := st'
                clear st'
                (try simp only [nsl, Value.cells, unB] at st)
                (try clear hc); have hc := st.facts; (try simp only [nfl, nft, Nat.reduceAdd] at hc)
                by_cases hqn : q < m
                · obtain ⟨d, hd⟩ : ∃ d, m - q = d + 1 := ⟨m - q - 1, by omega⟩
                  rw [hd] at HT
                  have hd2 : m - (q + 1) = d := by omega
                  clear hd
                  go_wp2_with fail
                  refine Rg4.wp_region6_eq #[0, 1, 0, 4, 12, 31, 63, 127] [1, 3, 4, 5, 7] [] (fun _ => True) [0, 2] 1 3 4 [5, 6, 7] (by kernel_rfl) (by rfl) (by rfl) (by rfl) (by rfl) (by rfl) (by kernel_rfl) (by kernel_rfl) (by kernel_rfl) (show Rg4.PB _ by repeat (first | with_reducible exact Rg4.pb_body | with_reducible exact Rg4.pb_bodyD rfl | with_reducible refine Rg4.pb_then ?_ | with_reducible refine Rg4.pb_inBlock ?_ | with_reducible refine Rg4.pb_noGoto ?_ | with_reducible assumption)) trivial ?_
                  replace st := st.drew
                  change Rg4.wp5 _ _ _ _ _ _ _ _ _ _ (World.drew _) _ _
                  generalize World.drew _ = w at st ⊢
                  (try clear hc); have hc := st.facts; (try simp only [nfl, nft, Nat.reduceAdd] at hc)
                  iterate 2 (refine Rg4.w5_any (Rg4.want_none rfl) rfl ?_; apply Exists.intro; refine ⟨fun w' => ?_, ?_⟩; (focus (first | (go_simp; done) | (go_simp; first | rfl | (rw [if_neg] <;> first | rfl | omega) | (rw [if_pos] <;> first | rfl | omega)))); (try simp only [Rg4.nrm]))
                  refine Rg4.w5_end ?_
                  refine Rg4.tree_load' (show Rg4.PB _ by repeat (first | with_reducible exact Rg4.pb_body | with_reducible exact Rg4.pb_bodyD rfl | with_reducible refine Rg4.pb_then ?_ | with_reducible refine Rg4.pb_inBlock ?_ | with_reducible refine Rg4.pb_noGoto ?_ | with_reducible assumption)) (fun W' => Blk W' b3 [.int .i64 2, .int .i64 0, .int .i64 0, .string ⟨#[]⟩, .slice va j vc, .slice ta q tc]) (by rfl) (by rfl) rfl rfl rfl rfl rfl rfl (by kernel_rfl) (by kernel_rfl) nofun nofun nofun (fun _ => trivial) (st.blk (i := 2) get2) ?_
                  apply Exists.intro; refine ⟨fun w' hcl => ?_, ?_⟩; (focus (have q5 := Blk.cell hcl 5; (try simp at q5); (focus (first | (go_simp; done) | (go_simp; first | rfl | (rw [if_neg] <;> first | rfl | omega) | (rw [if_pos] <;> first | rfl | omega)))))); (try simp only [Rg4.nrm])
                  intro K hK
                  go_wp2_with fail
                  obtain ⟨fr', al', st', back⟩ := st.sub [0] (by decide) (by simp)
                  (try simp only [nsl, Value.cells, unB] at st')
                  refine (keysGet_c st' (by omega)).mono ?_
                  clear st'
                  intro en w hen
                  unfold RdC at hen
                  cases hr : rdSg ts with
                  | error e =>
                    rw [hr] at hen
                    obtain ⟨rfl, st'⟩ := hen
                    replace st := back _ _ (by simp) st'
                    clear back st'
                    (try simp only [nsl, Value.cells, unB] at st)
                    (try clear hc); have hc := st.facts; (try simp only [nfl, nft, Nat.reduceAdd] at hc)
                    have H1 : Hid (rdMg xs = .error e) := Lib.hid (by simp [rdMg, HR1.out, HR2.out, HW.out, HR3.out, HT.out, addN_er rdSg (sl.map stripS) d hr, bdm])
                    clear hr
                    go_wp2_with fail
                    refine ⟨rfl, ?_⟩
                    unfold RdC
                    rw [H1.out]
                    have st' := st.keep [0] (by decide) (by simp)
                    exact ⟨rfl, by simpa [pick] using st'⟩
                  | ok p =>
                    obtain ⟨x, us2⟩ := p
                    rw [hr] at hen
                    obtain ⟨v, M, rfl, ⟨xa, xm, rfl, hxm, rfl⟩, st'⟩ := hen
                    replace st := back _ _ (by simp) st'
                    clear back st'
                    (try simp only [nsl, Value.cells, unB] at st)
                    (try clear hc); have hc := st.facts; (try simp only [nfl, nft, Nat.reduceAdd] at hc)
                    have hl4 := rdSg_le hr
                    have hcr := rdSg_cr hr
                    have hsx : stripS ⟨x.c, xa, 8, xm, x.xs⟩ = x := rdSg_strip hr xa xm
                    have H1 : Hid (rdN rdSg m vs = addN ((sl ++ [(⟨x.c, xa, 8, xm, x.xs⟩ : SgnT)]).map stripS) (rdN rdSg d us2)) := Lib.hid (by rw [HT.out, List.map_append, List.map_cons, List.map_nil, hsx]; exact addN_ok rdSg _ _ hr)
                    have HCR := Lib.hid hcr
                    clear hr hcr hsx
                    replace st := st.moreSgs (i := 5) (j := 6) (x := ⟨x.c, xa, 8, xm, x.xs⟩) get5 get6 hxm
                    have st9 := st.keep [0, 1, 2, 3, 4, 7] (by decide) (by simp)
                    clear st
                    have st := st9
                    clear st9
                    obtain ⟨⟨ck, ⟨ho, hd⟩, cw, ⟨bo, bd'⟩, ⟨co, cd⟩, we⟩, xa0, xn0, xm0, tg⟩ := x
                    unfold sgV S
                    simp only at st H1 HCR ⊢
                    (try simp only [nsl, Value.cells, unB] at st)
                    (try clear hc); have hc := st.facts; (try simp only [nfl, nft, Nat.reduceAdd] at hc)
                    refine hK _ _ ⟨st.blk (i := 2) get2, ?_⟩
                    clear K hK
                    intro K hK
                    (try simp only [Rg4.nrm])
                    (refine owp_buildSlice (o := ⟨some 39, _, _, _, _, _⟩) rfl st ?_; apply Exists.intro; apply Exists.intro; apply Exists.intro; apply Exists.intro; refine ⟨?_, ?_⟩; (focus (go_simp; (first | done | exact ⟨⟨rfl, rfl⟩, rfl⟩ | rfl))); (clear st; intro b39 w hb st; clear hb); (try simp only [nsl, Value.cells, unB] at st); (try clear hc); have hc := st.facts; (try simp only [nfl, nft, Nat.reduceAdd] at hc))
                    refine hK _ _ ⟨st.blk (i := 2) get2, ?_⟩
                    clear K hK
                    (try simp only [Rg4.nrm])

                    refine Rg4.w4_bar (Rg4.want_none rfl) rfl (fun w' hw' hcl _ K hK => ?_)
                    subst hw'
                    obtain ⟨inf, hinf, hz0, hz1, hz2⟩ := sgnInfo
                    refine owp_append rfl st 4 get4 Try.underlying39 hinf hz0 hz1 hz2 rfl (by decide) rfl rfl ((st.blk (i := 6) get6).flat rfl) (by simp [Value.oneCell']) (by simp only [maxLen]; omega) (by omega) ?_
                    clear hinf hz0 hz1 hz2 inf
                    clear st
                    intro v' w st
                    obtain ⟨ta', tc', rfl⟩ := own_slice (st.row (i := 4) get4)
                    (try simp only [nsl, Value.cells, unB] at st)
                    (try clear hc); have hc := st.facts; (try simp only [nfl, nft, Nat.reduceAdd] at hc)
                    refine hK _ _ ⟨trivial, ?_⟩
                    clear hK
                    (try simp only [Rg4.nrm])
                    (refine Rg4.w4_any (Rg4.want_none rfl) rfl ?_; apply Exists.intro; refine ⟨fun w' => ?_, ?_⟩; (focus (first | (go_simp; done) | (go_simp; first | rfl | (rw [if_neg] <;> first | rfl | omega) | (rw [if_pos] <;> first | rfl | omega)))); (try simp only [Rg4.nrm]))
                    (refine Rg4.w4_bar (Rg4.want_none rfl) rfl (fun w' hw' hcl' _ K hK => ?_); subst hw'; (refine owp_store rfl st ?_; apply Exists.intro; apply Exists.intro; refine ⟨?_, ?_, ?_⟩; (focus (go_simp; try rfl)); (focus (go_simp; try rfl)); (with_reducible refine ⟨2, _, _, _, _, get2, rfl, rfl, ?_, ?_, ?_, ?_⟩); (kernel_rfl); (simp [Value.cells]); (rfl); (clear st; intro w st); (try simp only [nsl, Value.cells, unB] at st); (try clear hc); have hc := st.facts; (try simp only [nfl, nft, Nat.reduceAdd] at hc)); refine hK _ _ ⟨trivial, ?_⟩; (try simp only [Rg4.nrm]))
                    refine Rg4.w4_nil (fun w' hw' hcl' _ => ?_); subst hw'; clear hcl'
                    go_wp2_with fail
                    have st' := st.keep [0, 1, 2, 3, 4, 5] (by decide) (by simp)
                    go_roundg (m - (q + 1))
                    case measure => omega
                    case rel =>
                      refine ⟨q + 1, sl ++ [(⟨⟨ck, (ho, hd), cw, (bo, bd'), (co, cd), we⟩, xa, 8, xm, tg⟩ : SgnT)], us2, ta', tc', by omega, by omega, by go_num, by rw [hd2]; exact H1, Lib.hid ⟨by simp [HQJ.out.1], fun x hx => by
                        rcases List.mem_append.1 hx with z | z
                        · exact HQJ.out.2 x z
                        · rw [List.mem_singleton.1 z]; exact ⟨⟨HCR.out, rfl⟩, hxm⟩⟩, by omega, ?_⟩
                      rw [cellsL_append, cellsL_one']
                      exact st'
                · obtain rfl : q = m := by omega
                  have HS : Hid (rdN rdSg q vs = .ok (sl.map stripS, ts)) := Lib.hid (by rw [HT.out, Nat.sub_self]; exact addN_end rdSg _ _)
                  clear HT
                  have hwf := rowFl' (α := Role) st (i := 3) get3
                  have hsf := rowFl' (α := SgnT) st (i := 4) get4
                  have HCP := Lib.hid (And.intro hwf.1 hsf.1)
                  have hby := st.sgsAt (i := 5) get5
                  have hok : ∀ w', Ext w w' → True := fun _ _ => trivial
                  have hmo : MgOk wr ⟨2, 0, 0, [], va, j, vc, out, ta, q, tc, sl⟩ := ⟨⟨hwf.1, hwf.2⟩, ⟨hsf.1, hsf.2⟩, hby⟩
                  have hml : MgL ⟨2, 0, 0, [], va, j, vc, out, ta, q, tc, sl⟩ := ⟨by simp only; omega, by simp only; omega, by simp, fun y hy => by have := roleR_len (HJ.out.2 y hy); omega, fun y hy => ⟨by have := (HQJ.out.2 y hy).1.2; omega, credR_S (HQJ.out.2 y hy).1.1⟩⟩
                  have HQ := Lib.hid (msgRight_any _ wr hmo hml)
                  unfold mgV S at HQ
                  simp only at HQ
                  rw [mgR_turn] at HQ
                  have HLJ := Lib.hid (And.intro HJ.out.1 HQJ.out.1)
                  clear hwf hsf hby hok hmo hml
                  go_wp2_with fail
                  refine HQ.out.mono ?_
                  rintro en w ⟨rfl, hx⟩
                  replace st := st.ext hx
                  clear hx
                  cases hmr : (wantsR out && showsR sl) with
                  | true =>
                    have H1 : Hid (rdMg xs = .ok (⟨2, 0, 0, [], none, j, 0, out, none, q, 0, sl.map stripS⟩, ts)) := Lib.hid (by simp [rdMg, HR1.out, HR2.out, HW.out, HR3.out, HS.out, bdm, okMg, mgR_turn, showsR_strip, hmr, ← HLJ.out.1, ← HLJ.out.2])
                    clear hmr HQ
                    (try simp only [nsl, Value.cells, unB] at st)
                    (try clear hc); have hc := st.facts; (try simp only [nfl, nft, Nat.reduceAdd] at hc)
                    go_wp2_with ((((with_reducible refine wl_store ?_ (fun K hK => ?_)); rfl; refine owp_store rfl st ?_; apply Exists.intro; apply Exists.intro; refine ⟨?_, ?_, ?_⟩; (focus (go_simp; try rfl)); (focus (go_simp; try rfl)); (with_reducible refine ⟨1, _, _, _, _, get1, rfl, rfl, ?_, ?_, ?_, ?_⟩); (kernel_rfl); (simp [Value.cells]); (rfl); (clear st; intro w st))); (try simp only [nsl, Value.cells, unB] at st); (try clear hc); have hc := st.facts; (try simp only [nfl, nft, Nat.reduceAdd] at hc))
                    (try simp only [Exit.inBlock, Exit.then])
                    refine bodyPost_cell rfl rfl (st.blk (i := 1) get1) Try.underlying41 rfl (by kernel_rfl) rfl ?_
                    unfold RdC
                    rw [H1.out]
                    have st' := ((st.rowToFl (α := Role) (i := 3) get3).rowToFl (α := SgnT) (i := 4) get4).keep [0, 3, 4, 5] (by decide) (by simp)
                    exact ⟨_, _, rfl, ⟨va, vc, ta, tc, sl, rfl, rfl, HCP.out, rfl⟩, by simpa [pick] using st'⟩
                  | false =>
                    have H1 : Hid (rdMg xs = .error 11) := Lib.hid (by simp [rdMg, HR1.out, HR2.out, HW.out, HR3.out, HS.out, bdm, okMg, mgR_turn, showsR_strip, hmr])
                    clear hmr HQ
                    (try simp only [nsl, Value.cells, unB] at st)
                    (try clear hc); have hc := st.facts; (try simp only [nfl, nft, Nat.reduceAdd] at hc)
                    obtain ⟨_, sq, ⟨_, hrd⟩, _⟩ := st.get (i := 0) (I := rdI r ts) get0
                    have HRD := Lib.hid hrd.any
                    clear hrd
                    go_wp2_with fail
                    refine (fail_any _ r 11 HRD.out (by decide)).mono ?_
                    rintro en w' ⟨rfl, rfl⟩
                    go_wp2_with fail
                    refine ⟨rfl, ?_⟩
                    unfold RdC
                    rw [H1.out]
                    have st' := (st.rdAny (i := 0) get0).keep [0] (by decide) (by simp)
                    exact ⟨rfl, by simpa [pick] using st'⟩
    have k1b : ((k : Int) == 1) = false := by simpa using (by omega : (k : Int) ≠ 1)
    have k2b : ((k : Int) == 2) = false := by simpa using (by omega : (k : Int) ≠ 2)
    by_cases k5 : k = 5
    · subst k5
      clear k1 k2
      go_wp2_with ((first
            | ((with_reducible refine wl_alloc ?_ (fun K hK => ?_)); rfl; refine owp_alloc (o := ⟨some 3, _, _, _, _, _⟩) rfl st ?_; apply Exists.intro; apply Exists.intro; refine ⟨?_, ?_⟩; (focus (first | (go_simp; done) | (go_simp; rfl))); (clear st; intro b3 w hb st; clear hb))
            | ((with_reducible refine wl_store ?_ (fun K hK => ?_)); rfl; refine owp_store rfl st ?_; apply Exists.intro; apply Exists.intro; refine ⟨?_, ?_, ?_⟩; (focus (go_simp; try rfl)); (focus (go_simp; try rfl)); (with_reducible refine ⟨2, _, _, _, _, get2, rfl, rfl, ?_, ?_, ?_, ?_⟩); (kernel_rfl); (simp [Value.cells]); (rfl); (clear st; intro w st))); (try simp only [nsl, Value.cells, unB] at st); (try clear hc); have hc := st.facts; (try simp only [nfl, nft, Nat.reduceAdd] at hc))
      obtain ⟨fr', al', st', back⟩ := st.sub [0] (by decide) (by simp)
      (try simp only [nsl, Value.cells, unB] at st')
      refine (number_c st' 99).mono ?_
      clear st'
      intro en w hen
      unfold RdC at hen
      cases hr : rdNumber 99 ys with
      | error e =>
        rw [hr] at hen
        obtain ⟨rfl, st'⟩ := hen
        replace st := back _ _ (by simp) st'
        clear back st'
        (try simp only [nsl, Value.cells, unB] at st)
        (try clear hc); have hc := st.facts; (try simp only [nfl, nft, Nat.reduceAdd] at hc)
        have H1 : Hid (rdMg xs = .error e) := Lib.hid (by simp [rdMg, HR1.out, hr, bdm])
        clear hr
        go_wp2_with fail
        refine ⟨rfl, ?_⟩
        unfold RdC
        rw [H1.out]
        have st' := st.keep [0] (by decide) (by simp)
        exact ⟨rfl, by simpa [pick] using st'⟩
      | ok p =>
        obtain ⟨en, us⟩ := p
        rw [hr] at hen
        obtain ⟨v, M, rfl, ⟨rfl, rfl⟩, st'⟩ := hen
        replace st := back _ _ (by simp) st'
        clear back st'
        (try simp only [nsl, Value.cells, unB] at st)
        (try clear hc); have hc := st.facts; (try simp only [nfl, nft, Nat.reduceAdd] at hc)
        have HR3 := Lib.hid hr
        clear hr
        have HQ := Lib.hid (fun W => msgRight_any (mg0 5 0 en []) W (mg0_ok W _ _ _ _) (mg0_L (by first | omega | simp)))
        unfold mgV mg0 S at HQ
        simp only at HQ
        go_wp2_with ((((with_reducible refine wl_store ?_ (fun K hK => ?_)); rfl; refine owp_store rfl st ?_; apply Exists.intro; apply Exists.intro; refine ⟨?_, ?_, ?_⟩; (focus (go_simp; try rfl)); (focus (go_simp; try rfl)); (with_reducible refine ⟨2, _, _, _, _, get2, rfl, rfl, ?_, ?_, ?_, ?_⟩); (kernel_rfl); (simp [Value.cells]); (rfl); (clear st; intro w st))); (try simp only [nsl, Value.cells, unB] at st); (try clear hc); have hc := st.facts; (try simp only [nfl, nft, Nat.reduceAdd] at hc))
        refine (HQ.out _).mono ?_
        rintro en w ⟨rfl, hx⟩
        replace st := st.ext hx
        clear hx
        cases hmr : mgR (mg0 5 0 en []) with
        | true =>
          have H1 : Hid (rdMg xs = .ok ((mg0 5 0 en []), us)) := Lib.hid (by simp [rdMg, HR1.out, HR3.out, bdm, okMg, hmr])
          have hmr2 := hmr
          unfold mg0 at hmr2
          rw [hmr2]
          clear hmr hmr2 HQ
          (try simp only [nsl, Value.cells, unB] at st)
          (try clear hc); have hc := st.facts; (try simp only [nfl, nft, Nat.reduceAdd] at hc)
          go_wp2_with ((((with_reducible refine wl_store ?_ (fun K hK => ?_)); rfl; refine owp_store rfl st ?_; apply Exists.intro; apply Exists.intro; refine ⟨?_, ?_, ?_⟩; (focus (go_simp; try rfl)); (focus (go_simp; try rfl)); (with_reducible refine ⟨1, _, _, _, _, get1, rfl, rfl, ?_, ?_, ?_, ?_⟩); (kernel_rfl); (simp [Value.cells]); (rfl); (clear st; intro w st))); (try simp only [nsl, Value.cells, unB] at st); (try clear hc); have hc := st.facts; (try simp only [nfl, nft, Nat.reduceAdd] at hc))
          (try simp only [Exit.inBlock, Exit.then])
          refine bodyPost_cell rfl rfl (st.blk (i := 1) get1) Try.underlying41 rfl (by kernel_rfl) rfl ?_
          unfold RdC
          rw [H1.out]
          have st' := (((st.keep [0] (by decide) (by simp)).nilFl (α := Role)).nilFl (α := SgnT)).noSgs
          exact ⟨_, _, rfl, ⟨none, 0, none, 0, [], rfl, rfl, ⟨⟨Nat.le_refl _, by simp [maxLen]⟩, ⟨Nat.le_refl _, by simp [maxLen]⟩⟩, rfl⟩, by simpa [pick, mg0] using st'⟩
        | false =>
          have H1 : Hid (rdMg xs = .error 11) := Lib.hid (by simp [rdMg, HR1.out, HR3.out, bdm, okMg, hmr])
          have hmr2 := hmr
          unfold mg0 at hmr2
          rw [hmr2]
          clear hmr hmr2 HQ
          (try simp only [nsl, Value.cells, unB] at st)
          (try clear hc); have hc := st.facts; (try simp only [nfl, nft, Nat.reduceAdd] at hc)
          obtain ⟨_, sq, ⟨_, hrd⟩, _⟩ := st.get (i := 0) (I := rdI r us) get0
          have HRD := Lib.hid hrd.any
          clear hrd
          go_wp2_with fail
          refine (fail_any _ r 11 HRD.out (by decide)).mono ?_
          rintro en w' ⟨rfl, rfl⟩
          go_wp2_with fail
          refine ⟨rfl, ?_⟩
          unfold RdC
          rw [H1.out]
          have st' := (st.rdAny (i := 0) get0).keep [0] (by decide) (by simp)
          exact ⟨rfl, by simpa [pick] using st'⟩
    · have k5b : ((k : Int) == 5) = false := by simpa using (by omega : (k : Int) ≠ 5)
      have HK := Lib.hid (And.intro k1 (And.intro k2 k5))
      clear k1 k2 k5
      have HQ := Lib.hid (fun W => msgRight_any (mg0 k 0 0 []) W (mg0_ok W _ _ _ _) (mg0_L (by first | omega | simp)))
      unfold mgV mg0 S at HQ
      simp only at HQ
      go_wp2_with ((first
            | ((with_reducible refine wl_alloc ?_ (fun K hK => ?_)); rfl; refine owp_alloc (o := ⟨some 3, _, _, _, _, _⟩) rfl st ?_; apply Exists.intro; apply Exists.intro; refine ⟨?_, ?_⟩; (focus (first | (go_simp; done) | (go_simp; rfl))); (clear st; intro b3 w hb st; clear hb))
            | ((with_reducible refine wl_store ?_ (fun K hK => ?_)); rfl; refine owp_store rfl st ?_; apply Exists.intro; apply Exists.intro; refine ⟨?_, ?_, ?_⟩; (focus (go_simp; try rfl)); (focus (go_simp; try rfl)); (with_reducible refine ⟨2, _, _, _, _, get2, rfl, rfl, ?_, ?_, ?_, ?_⟩); (kernel_rfl); (simp [Value.cells]); (rfl); (clear st; intro w st))); (try simp only [nsl, Value.cells, unB] at st); (try clear hc); have hc := st.facts; (try simp only [nfl, nft, Nat.reduceAdd] at hc))
      refine (HQ.out _).mono ?_
      rintro en w ⟨rfl, hx⟩
      replace st := st.ext hx
      clear hx
      cases hmr : mgR (mg0 k 0 0 []) with
      | true =>
        have H1 : Hid (rdMg xs = .ok ((mg0 k 0 0 []), ys)) := Lib.hid (by simp [rdMg, HR1.out, HK.out.1, HK.out.2.1, HK.out.2.2, bdm, okMg, hmr])
        have hmr2 := hmr
        unfold mg0 at hmr2
        rw [hmr2]
        clear hmr hmr2 HQ
        (try simp only [nsl, Value.cells, unB] at st)
        (try clear hc); have hc := st.facts; (try simp only [nfl, nft, Nat.reduceAdd] at hc)
        go_wp2_with ((((with_reducible refine wl_store ?_ (fun K hK => ?_)); rfl; refine owp_store rfl st ?_; apply Exists.intro; apply Exists.intro; refine ⟨?_, ?_, ?_⟩; (focus (go_simp; try rfl)); (focus (go_simp; try rfl)); (with_reducible refine ⟨1, _, _, _, _, get1, rfl, rfl, ?_, ?_, ?_, ?_⟩); (kernel_rfl); (simp [Value.cells]); (rfl); (clear st; intro w st))); (try simp only [nsl, Value.cells, unB] at st); (try clear hc); have hc := st.facts; (try simp only [nfl, nft, Nat.reduceAdd] at hc))
        (try simp only [Exit.inBlock, Exit.then])
        refine bodyPost_cell rfl rfl (st.blk (i := 1) get1) Try.underlying41 rfl (by kernel_rfl) rfl ?_
        unfold RdC
        rw [H1.out]
        have st' := (((st.keep [0] (by decide) (by simp)).nilFl (α := Role)).nilFl (α := SgnT)).noSgs
        exact ⟨_, _, rfl, ⟨none, 0, none, 0, [], rfl, rfl, ⟨⟨Nat.le_refl _, by simp [maxLen]⟩, ⟨Nat.le_refl _, by simp [maxLen]⟩⟩, rfl⟩, by simpa [pick, mg0] using st'⟩
      | false =>
        have H1 : Hid (rdMg xs = .error 11) := Lib.hid (by simp [rdMg, HR1.out, HK.out.1, HK.out.2.1, HK.out.2.2, bdm, okMg, hmr])
        have hmr2 := hmr
        unfold mg0 at hmr2
        rw [hmr2]
        clear hmr hmr2 HQ
        (try simp only [nsl, Value.cells, unB] at st)
        (try clear hc); have hc := st.facts; (try simp only [nfl, nft, Nat.reduceAdd] at hc)
        obtain ⟨_, sq, ⟨_, hrd⟩, _⟩ := st.get (i := 0) (I := rdI r ys) get0
        have HRD := Lib.hid hrd.any
        clear hrd
        go_wp2_with fail
        refine (fail_any _ r 11 HRD.out (by decide)).mono ?_
        rintro en w' ⟨rfl, rfl⟩
        go_wp2_with fail
        refine ⟨rfl, ?_⟩
        unfold RdC
        rw [H1.out]
        have st' := (st.rdAny (i := 0) get0).keep [0] (by decide) (by simp)
        exact ⟨rfl, by simpa [pick] using st'⟩
end Go.Proofs.Ytmlhilgdjedeoaa

namespace Go.Proofs.Ytmlhilgdjedeoaa
set_option linter.unusedSimpArgs false
set_option linter.unusedVariables false
open Go Go.RowKit
theorem rdCred_puts2 {x : CredT} (h : credR x = true) (zs : List UInt8) : rdCred (credB x ++ zs) = .ok (x, zs) := by
  obtain ⟨h1, hc⟩ := credR_cases h
  obtain ⟨k, hh, w, b, c, e⟩ := x
  simp only at h1 hc
  have hn : ∀ (k : Nat) (ys : List UInt8), k ≤ 4 → rdNumber 9223372036854775807 (numB k ++ ys) = .ok (k, ys) := fun k ys hk => rdNumber_put 9223372036854775807 k ys (by omega) (by decide)
  rcases hc with ⟨rfl, q1, rfl, rfl, rfl⟩ | ⟨rfl, q2, ⟨rfl, rfl, rfl⟩ | ⟨rfl, rfl, _, q5⟩ | ⟨rfl, rfl, q5, _⟩⟩
  · have e0 : credB ⟨1, hh, w, nR, nR, []⟩ ++ zs = numB 1 ++ (roleB hh ++ (numB w.length ++ w ++ zs)) := by simp [credB]
    unfold rdCred
    rw [e0, hn 1 _ (by decide), bd_ok, if_neg (by decide), rdRole_puts hh _ h1, bd_ok, if_pos rfl, rdName_put w zs q1, bd_ok, okCr, if_pos h]
  · have e0 : credB ⟨2, hh, [], b, nR, []⟩ ++ zs = numB 2 ++ (roleB hh ++ (roleB b ++ zs)) := by simp [credB]
    unfold rdCred
    rw [e0, hn 2 _ (by decide), bd_ok, if_neg (by decide), rdRole_puts hh _ h1, bd_ok, if_neg (by decide), rdRole_puts b _ q2, bd_ok, if_pos rfl, okCr, if_pos h]
  · have e0 : credB ⟨3, hh, [], b, nR, e⟩ ++ zs = numB 3 ++ (roleB hh ++ (roleB b ++ (numB e.length ++ e ++ zs))) := by simp [credB]
    unfold rdCred
    rw [e0, hn 3 _ (by decide), bd_ok, if_neg (by decide), rdRole_puts hh _ h1, bd_ok, if_neg (by decide), rdRole_puts b _ q2, bd_ok, if_neg (by decide), if_pos rfl, rdName_put e zs q5, bd_ok, okCr, if_pos h]
  · have e0 : credB ⟨4, hh, [], b, c, []⟩ ++ zs = numB 4 ++ (roleB hh ++ (roleB b ++ (roleB c ++ zs))) := by simp [credB]
    unfold rdCred
    rw [e0, hn 4 _ (by decide), bd_ok, if_neg (by decide), rdRole_puts hh _ h1, bd_ok, if_neg (by decide), rdRole_puts b _ q2, bd_ok, if_neg (by decide), if_neg (by decide), rdRole_puts c _ q5, bd_ok, okCr, if_pos h]
/-- A message without its places. -/
def stripM (m : MsgT) : MsgT := ⟨m.k, m.p, m.e, m.nm, none, m.wn, 0, m.ws, none, m.sn, 0, m.ss.map stripS⟩
theorem stripS_twice (l : List SgnT) : (l.map stripS).map stripS = l.map stripS := by
  rw [List.map_map]; rfl
theorem stripM_of {x d : MsgT} (h1 : x.k = d.k) (h2 : x.p = d.p) (h3 : x.e = d.e) (h4 : x.nm = d.nm) (h5 : x.wn = d.wn) (h6 : x.ws = d.ws) (h7 : x.sn = d.sn) (h8 : x.ss.map stripS = d.ss.map stripS) : stripM x = stripM d := by
  unfold stripM
  rw [h1, h2, h3, h4, h5, h6, h7, h8]
theorem sameSs_strip : ∀ l m : List SgnT, sameSs (l.map stripS) (m.map stripS) = sameSs l m
  | [], [] => rfl
  | x :: l, y :: m => by
    simp only [List.map_cons]
    unfold sameSs
    rw [sameSs_strip l m]
    rfl
  | [], _ :: _ => rfl
  | _ :: _, [] => rfl
theorem sameMg_strip (x y : MsgT) : sameMg (stripM x) (stripM y) = sameMg x y := by
  unfold sameMg stripM
  simp only
  rw [sameSs_strip]
theorem bare_strip (x : MsgT) : stripM (bareMg x) = stripM (bareMg (stripM x)) := by
  have e : ∀ y : MsgT, bareMg (stripM y) = if y.k = 1 then ⟨y.k, y.p, 0, y.nm, none, 0, 0, [], none, 0, 0, []⟩ else if y.k = 2 then ⟨y.k, 0, 0, [], none, y.wn, 0, y.ws, none, y.sn, 0, y.ss.map stripS⟩ else if y.k = 5 then ⟨y.k, 0, y.e, [], none, 0, 0, [], none, 0, 0, []⟩ else ⟨y.k, 0, 0, [], none, 0, 0, [], none, 0, 0, []⟩ := fun y => rfl
  rw [e]
  unfold bareMg
  by_cases k1 : x.k = 1
  · rw [if_pos k1, if_pos k1]
  rw [if_neg k1, if_neg k1]
  by_cases k2 : x.k = 2
  · rw [if_pos k2, if_pos k2]
    unfold stripM
    simp only [stripS_twice]
  rw [if_neg k2, if_neg k2]
theorem mgR_strip (x : MsgT) : mgR (stripM x) = mgR x := by
  unfold mgR
  rw [← sameMg_strip (bareMg x) x, bare_strip, ← sameMg_strip (bareMg (stripM x)) (stripM x)]
  have e1 : stripM (stripM x) = stripM x := by unfold stripM; simp only [stripS_twice]
  rw [e1]
  congr 1
  unfold kindR stripM
  simp only
  rw [showsR_strip]
theorem sgB_strip (l : List SgnT) : (l.map stripS).flatMap sgB = l.flatMap sgB := by
  induction l with
  | nil => rfl
  | cons x l ih =>
    simp only [List.map_cons, List.flatMap_cons]
    rw [ih]
    rfl
/-- What is put is got. -/
theorem rdSg_put {x : SgnT} (hc : credR x.c = true) (hn : x.n = 8) (hl : x.xs.length = 8) (ys : List UInt8) : rdSg (sgB x ++ ys) = .ok (stripS x, ys) := by
  have e : rdText 8 (numB x.xs.length ++ x.xs ++ ys) = .ok (x.xs, ys) := rdText_put 8 x.xs ys (by omega) (by decide)
  rw [hl] at e
  unfold rdSg sgB
  rw [List.append_assoc, rdCred_puts2 hc, bdm_ok, hn, e, bdm_ok, if_pos hl]
  unfold stripS
  rw [hn]
theorem bare_0 {x : MsgT} (h : mgR x = true) (k : x.k ≠ 2) : x.ws = [] ∧ x.ss = [] ∧ (x.k ≠ 5 → x.e = 0) ∧ (x.k ≠ 1 → x.nm = [] ∧ x.p = 0) := by
  have hb : sameMg (bareMg x) x = true := by
    unfold mgR at h
    rw [Bool.and_eq_true] at h
    exact h.1
  unfold bareMg at hb
  rw [if_neg k] at hb
  unfold sameMg at hb
  by_cases k1 : x.k = 1
  · rw [if_pos k1] at hb
    simp only [sameSs_nil, Bool.and_eq_true, beq_iff_eq, decide_eq_true_eq] at hb
    exact ⟨hb.1.2.symm, hb.2, fun _ => hb.1.1.1.2.symm, fun q => absurd k1 q⟩
  · rw [if_neg k1] at hb
    by_cases k5 : x.k = 5
    · rw [if_pos k5] at hb
      simp only [sameSs_nil, Bool.and_eq_true, beq_iff_eq, decide_eq_true_eq] at hb
      exact ⟨hb.1.2.symm, hb.2, fun q => absurd k5 q, fun _ => ⟨hb.1.1.2.symm, hb.1.1.1.1.2.symm⟩⟩
    · rw [if_neg k5] at hb
      simp only [sameSs_nil, Bool.and_eq_true, beq_iff_eq, decide_eq_true_eq] at hb
      exact ⟨hb.1.2.symm, hb.2, fun _ => hb.1.1.1.2.symm, fun _ => ⟨hb.1.1.2.symm, hb.1.1.1.1.2.symm⟩⟩
theorem bare_2 {x : MsgT} (h : mgR x = true) (k : x.k = 2) : x.nm = [] ∧ x.p = 0 ∧ x.e = 0 := by
  have hb : sameMg (bareMg x) x = true := by
    unfold mgR at h
    rw [Bool.and_eq_true] at h
    exact h.1
  unfold bareMg at hb
  rw [if_neg (by omega), if_pos k] at hb
  unfold sameMg at hb
  simp only [Bool.and_eq_true, beq_iff_eq] at hb
  exact ⟨hb.1.1.2.symm, hb.1.1.1.1.2.symm, hb.1.1.1.2.symm⟩
theorem rdMg_put {W : World} {x : MsgT} (hx : MgOk W x) (h : mgR x = true) : rdMg (mgB x) = .ok (stripM x, []) := by
  have hR : mgR (stripM x) = true := by rw [mgR_strip, h]
  have hw : x.wn = x.ws.length := hx.1.2.1
  have hs : x.sn = x.ss.length := hx.2.1.2.1
  have hn : ∀ (k : Nat) (ys : List UInt8), k ≤ 5 → rdNumber 9223372036854775807 (numB k ++ ys) = .ok (k, ys) := fun k ys hk => rdNumber_put 9223372036854775807 k ys (by omega) (by decide)
  have hok : ∀ ys, okMg (stripM x) ys = .ok (stripM x, ys) := fun ys => by unfold okMg; rw [if_pos hR]
  by_cases k2 : x.k = 2
  · obtain ⟨b1, b2, b3⟩ := bare_2 h k2
    obtain ⟨h1, h2⟩ := mgR_2 h k2
    have w1 := wantsR_is h1
    have s1 := showsR_is h2
    have e : mgB x = numB 2 ++ (numB x.ws.length ++ (x.ws.flatMap roleB ++ (numB (x.ss.map stripS).length ++ ((x.ss.map stripS).flatMap sgB ++ [])))) := by
      unfold mgB
      rw [if_neg (by omega), if_pos k2, k2, hw, hs, sgB_strip, List.length_map]
      simp
    have n1 : rdNumber 16 (numB x.ws.length ++ (x.ws.flatMap roleB ++ (numB (x.ss.map stripS).length ++ ((x.ss.map stripS).flatMap sgB ++ [])))) = .ok (x.ws.length, _) := rdNumber_put 16 _ _ w1.1 (by decide)
    have n2 : rdNumber 8 (numB (x.ss.map stripS).length ++ ((x.ss.map stripS).flatMap sgB ++ [])) = .ok ((x.ss.map stripS).length, _) := rdNumber_put 8 _ _ (by rw [List.length_map]; exact s1.1) (by decide)
    unfold rdMg
    rw [e, hn 2 _ (by decide), bdm_ok, if_neg (by decide), if_pos rfl, n1, bdm_ok]
    rw [rdN_put rdRole roleB x.ws _ (fun r hr ys => rdRole_puts r ys (w1.2 r hr)), bdm_ok, n2, bdm_ok]
    rw [rdN_put rdSg sgB (x.ss.map stripS) [] (fun y hy ys => by
      obtain ⟨z, hz, rfl⟩ := List.mem_map.1 hy
      have hz8 := (s1.2 z hz).2
      have hl : z.xs.length = 8 := by have := (hx.2.2 z hz).2.1; omega
      exact rdSg_put (x := stripS z) (s1.2 z hz).1 hz8 hl ys), bdm_ok]
    have e2 : (⟨2, 0, 0, [], none, x.ws.length, 0, x.ws, none, (x.ss.map stripS).length, 0, x.ss.map stripS⟩ : MsgT) = stripM x := by
      unfold stripM
      rw [k2, b1, b2, b3, hw, hs, List.length_map]
    rw [e2, hok]
  · obtain ⟨b1, b2, b3, b4⟩ := bare_0 h k2
    have hw0 : x.wn = 0 := by rw [hw, b1]; rfl
    have hs0 : x.sn = 0 := by rw [hs, b2]; rfl
    have e2 : ∀ k p e nm, x.k = k → x.p = p → x.e = e → x.nm = nm → mg0 k p e nm = stripM x := fun k p e nm h1 h2 h3 h4 => by
      unfold stripM mg0
      rw [h1, h2, h3, h4, hw0, hs0, b1, b2]
      rfl
    rcases (mgR_k h).2 with k | k | k | k | k
    · obtain ⟨h1, h2⟩ := mgR_1 h k
      obtain ⟨p, hp, hp2⟩ : ∃ p : Nat, x.p = p ∧ p ≤ 2 := ⟨x.p.toNat, by omega, by omega⟩
      have n1 : rdNumber 2 (numB p ++ []) = .ok (p, []) := rdNumber_put 2 p [] hp2 (by decide)
      have e : mgB x = numB 1 ++ (numB x.nm.length ++ x.nm ++ (numB p ++ [])) := by
        unfold mgB
        rw [if_pos k, k, hp]
        simp
      unfold rdMg
      rw [e, hn 1 _ (by decide), bdm_ok, if_pos rfl, rdName_put x.nm _ h1, bdm_ok, n1, bdm_ok, e2 1 p 0 x.nm k hp (b3 (by omega)) rfl, hok]
    · exact absurd k k2
    · have e : mgB x = numB 3 ++ [] := by
        unfold mgB
        rw [if_neg (by omega), if_neg k2, if_neg (by omega), k]
        rfl
      unfold rdMg
      rw [e, hn 3 _ (by decide), bdm_ok, if_neg (by decide), if_neg (by decide), if_neg (by decide)]
      have := e2 3 0 0 [] k (b4 (by omega)).2 (b3 (by omega)) (b4 (by omega)).1
      rw [show (mg0 ((3 : Nat) : Int) 0 0 []) = stripM x from this, hok]
    · have e : mgB x = numB 4 ++ [] := by
        unfold mgB
        rw [if_neg (by omega), if_neg k2, if_neg (by omega), k]
        rfl
      unfold rdMg
      rw [e, hn 4 _ (by decide), bdm_ok, if_neg (by decide), if_neg (by decide), if_neg (by decide)]
      have := e2 4 0 0 [] k (b4 (by omega)).2 (b3 (by omega)) (b4 (by omega)).1
      rw [show (mg0 ((4 : Nat) : Int) 0 0 []) = stripM x from this, hok]
    · have h5 := mgR_5 h k
      obtain ⟨p, hp, hp2⟩ : ∃ p : Nat, x.e = p ∧ p ≤ 99 := ⟨x.e.toNat, by omega, by omega⟩
      have n1 : rdNumber 99 (numB p ++ []) = .ok (p, []) := rdNumber_put 99 p [] hp2 (by decide)
      have e : mgB x = numB 5 ++ (numB p ++ []) := by
        unfold mgB
        rw [if_neg (by omega), if_neg k2, if_pos k, k, hp]
        simp
      unfold rdMg
      rw [e, hn 5 _ (by decide), bdm_ok, if_neg (by decide), if_neg (by decide), if_pos rfl, n1, bdm_ok, e2 5 0 p [] k (b4 (by omega)).2 hp (b4 (by omega)).1, hok]
/-- How long the bytes are, at most. -/
theorem numB_1 {n : Nat} (h : n < 128) : (numB n).length = 1 := by
  unfold numB
  rw [numF_last _ _ (by omega)]
  rfl
theorem nameB_17 {s : List UInt8} (h : nameR s = true) : (numB s.length ++ s).length ≤ 17 := by
  have := (nameR_len h).2
  rw [List.length_append, numB_1 (by omega)]
  omega
theorem roleB_34 {r : Role} (h : roleR r = true) : (roleB r).length ≤ 34 := by
  obtain ⟨o, d⟩ := r
  have hr : nameR o = true ∧ nameR d = true := by simpa [roleR] using h
  have h1 := nameB_17 hr.1
  have h2 := nameB_17 hr.2
  unfold roleB
  rw [List.length_append]
  simp only
  omega
theorem credB_103 {x : CredT} (h : credR x = true) : (credB x).length ≤ 103 := by
  obtain ⟨h1, hc⟩ := credR_cases h
  obtain ⟨k, hh, w, b, c, e⟩ := x
  simp only at h1 hc
  have r1 := roleB_34 h1
  rcases hc with ⟨rfl, q1, rfl, rfl, rfl⟩ | ⟨rfl, q2, ⟨rfl, rfl, rfl⟩ | ⟨rfl, rfl, _, q5⟩ | ⟨rfl, rfl, q5, _⟩⟩
  · have := nameB_17 q1
    have e0 : credB ⟨1, hh, w, nR, nR, []⟩ = numB 1 ++ (roleB hh ++ (numB w.length ++ w)) := by simp [credB]
    rw [e0, List.length_append, List.length_append, numB_1 (by decide)]
    omega
  · have := roleB_34 q2
    have e0 : credB ⟨2, hh, [], b, nR, []⟩ = numB 2 ++ (roleB hh ++ roleB b) := by simp [credB]
    rw [e0, List.length_append, List.length_append, numB_1 (by decide)]
    omega
  · have := roleB_34 q2
    have := nameB_17 q5
    have e0 : credB ⟨3, hh, [], b, nR, e⟩ = numB 3 ++ (roleB hh ++ (roleB b ++ (numB e.length ++ e))) := by simp [credB]
    rw [e0, List.length_append, List.length_append, List.length_append, numB_1 (by decide)]
    omega
  · have := roleB_34 q2
    have := roleB_34 q5
    have e0 : credB ⟨4, hh, [], b, c, []⟩ = numB 4 ++ (roleB hh ++ (roleB b ++ roleB c)) := by simp [credB]
    rw [e0, List.length_append, List.length_append, List.length_append, numB_1 (by decide)]
    omega
theorem sgB_112 {x : SgnT} (h : credR x.c = true) (hn : x.n = 8) (hx : x.n = x.xs.length) : (sgB x).length ≤ 112 := by
  have h1 := credB_103 h
  unfold sgB
  rw [List.length_append, List.length_append, numB_1 (by omega)]
  omega
theorem mgB_2048 {W : World} {x : MsgT} (hx : MgOk W x) (h : mgR x = true) : (mgB x).length ≤ 2048 := by
  have hw : x.wn = x.ws.length := hx.1.2.1
  have hs : x.sn = x.ss.length := hx.2.1.2.1
  have hk := (mgR_k h).2
  have n1 : (numB x.k.toNat).length = 1 := numB_1 (by omega)
  unfold mgB
  rw [List.length_append]
  split
  · obtain ⟨h1, h2⟩ := mgR_1 h (by assumption)
    have := nameB_17 h1
    have n2 : (numB x.p.toNat).length = 1 := numB_1 (by omega)
    rw [List.length_append]
    omega
  · split
    · obtain ⟨h1, h2⟩ := mgR_2 h (by assumption)
      have w1 := wantsR_is h1
      have s1 := showsR_is h2
      have a1 := flatLen roleB 34 x.ws (fun y hy => roleB_34 (w1.2 y hy))
      have a2 := flatLen sgB 112 x.ss (fun y hy => sgB_112 (s1.2 y hy).1 (s1.2 y hy).2 (hx.2.2 y hy).2.1)
      have n2 : (numB x.wn).length = 1 := numB_1 (by omega)
      have n3 : (numB x.sn).length = 1 := numB_1 (by omega)
      simp only [List.length_append]
      omega
    · split
      · have h5 := mgR_5 h (by assumption)
        have n2 : (numB x.e.toNat).length = 1 := numB_1 (by omega)
        omega
      · simp; omega
end Go.Proofs.Ytmlhilgdjedeoaa

namespace Go.Proofs.Ytmlhilgdjedeoaa
set_option linter.unusedSimpArgs false
set_option linter.unusedVariables false
open Go Go.RowKit
def mgMC (d : MsgT) (cs : List Value) (M : List It) : Prop := ∃ wa wc sa sc ss, cs = mgC ⟨d.k, d.p, d.e, d.nm, wa, d.wn, wc, d.ws, sa, d.sn, sc, ss⟩ ∧ ss.map stripS = d.ss ∧ ((d.wn ≤ wc ∧ wc ≤ maxLen) ∧ (d.sn ≤ sc ∧ sc ≤ maxLen)) ∧ M = [flI wa d.wn d.ws, flI sa d.sn ss, sgsI ss]
theorem rdSg_er {xs : List UInt8} {e : Int} (h : rdSg xs = .error e) : e ≠ 0 := by
  unfold rdSg at h
  cases h1 : rdCred xs with
  | error e => rw [h1, bdm_er] at h; cases h; exact rdCred_er h1
  | ok p =>
    obtain ⟨c, us⟩ := p
    rw [h1, bdm_ok] at h
    cases h2 : rdText 8 us with
    | error e => rw [h2, bdm_er] at h; cases h; exact rdText_er h2
    | ok p =>
      obtain ⟨tg, vs⟩ := p
      rw [h2, bdm_ok] at h
      split at h
      · cases h
      · cases h; decide
theorem rdMg_er {xs : List UInt8} {e : Int} (h : rdMg xs = .error e) : e ≠ 0 := by
  have fin : ∀ {m ys}, okMg m ys = .error e → e ≠ 0 := fun {m ys} h => by
    unfold okMg at h; split at h
    · cases h
    · cases h; decide
  unfold rdMg at h
  cases h1 : rdNumber 9223372036854775807 xs with
  | error e => rw [h1, bdm_er] at h; cases h; exact rdNumber_er h1
  | ok p =>
    obtain ⟨k, us⟩ := p
    rw [h1, bdm_ok] at h
    split at h
    · cases h2 : rdName us with
      | error e => rw [h2, bdm_er] at h; cases h; exact rdName_er h2
      | ok p =>
        obtain ⟨nm, vs⟩ := p
        rw [h2, bdm_ok] at h
        cases h3 : rdNumber 2 vs with
        | error e => rw [h3, bdm_er] at h; cases h; exact rdNumber_er h3
        | ok p => obtain ⟨q, ts⟩ := p; rw [h3, bdm_ok] at h; exact fin h
    · split at h
      · cases h2 : rdNumber 16 us with
        | error e => rw [h2, bdm_er] at h; cases h; exact rdNumber_er h2
        | ok p =>
          obtain ⟨n, vs⟩ := p
          rw [h2, bdm_ok] at h
          cases h3 : rdN rdRole n vs with
          | error e => rw [h3, bdm_er] at h; cases h; exact rdN_er rdRole (fun _ _ q => rdRole_err q) h3
          | ok p =>
            obtain ⟨ws, ts⟩ := p
            rw [h3, bdm_ok] at h
            cases h4 : rdNumber 8 ts with
            | error e => rw [h4, bdm_er] at h; cases h; exact rdNumber_er h4
            | ok p =>
              obtain ⟨m, rs⟩ := p
              rw [h4, bdm_ok] at h
              cases h5 : rdN rdSg m rs with
              | error e => rw [h5, bdm_er] at h; cases h; exact rdN_er rdSg (fun _ _ q => rdSg_er q) h5
              | ok p => obtain ⟨ss, qs⟩ := p; rw [h5, bdm_ok] at h; exact fin h
      · split at h
        · cases h2 : rdNumber 99 us with
          | error e => rw [h2, bdm_er] at h; cases h; exact rdNumber_er h2
          | ok p => obtain ⟨n, vs⟩ := p; rw [h2, bdm_ok] at h; exact fin h
        · exact fin h
set_option maxRecDepth 100000 in
set_option maxHeartbeats 1000000 in
theorem msgRead1F_c {fr al : Nat → Prop} {W : World} {r b : Nat} {xs : List UInt8} (st : Own fr al W [rdI r xs, blkI b (mgC (mg0 0 0 0 []))] W) (hl : xs.length ≤ 100000) :
    Calls Try.prog 48 #[.pointer (some ⟨r, 0, none⟩), .pointer (some ⟨b, 0, none⟩)] W (GetPostM fr al W r b (rdMg xs) (mgC (mg0 0 0 0 [])) mgMC) := by
  go_enter Try.func48, Try.ntmps48
  go_wp2_with fail
  obtain ⟨fr', al', st', back⟩ := st.sub [0] (by decide) (by simp)
  (try simp only [nsl, Value.cells, unB] at st')
  refine (msgGet_c st' hl).mono ?_
  clear st'
  intro en w hen
  unfold RdC at hen
  cases hr : rdMg xs with
  | error e =>
    rw [hr] at hen
    obtain ⟨rfl, st'⟩ := hen
    replace st := back _ _ (by simp) st'
    clear back st'
    (try simp only [nsl, Value.cells, unB] at st)
    (try clear hc); have hc := st.facts; (try simp only [nfl, nft, Nat.reduceAdd] at hc)
    have HR := Lib.hid hr
    clear hr
    go_wp2_with fail
    refine ⟨rfl, ?_⟩
    unfold GetPostM
    (try rw [HR.out])
    exact ⟨rfl, st⟩
  | ok p =>
    obtain ⟨d, ys⟩ := p
    rw [hr] at hen
    obtain ⟨v, M, rfl, ⟨wa, wc, sa, sc, ss, rfl, hss, hcc, rfl⟩, st'⟩ := hen
    replace st := back _ _ (by simp) st'
    clear back st'
    (try simp only [nsl, Value.cells, unB] at st)
    (try clear hc); have hc := st.facts; (try simp only [nfl, nft, Nat.reduceAdd] at hc)
    have HR := Lib.hid hr
    have HS := Lib.hid (And.intro hss hcc)
    clear hr hss hcc
    unfold mgC at st
    unfold mgV S
    (try simp only [nsl, Value.cells, unB] at st)
    (try clear hc); have hc := st.facts; (try simp only [nfl, nft, Nat.reduceAdd] at hc)
    go_wp2_with ((((with_reducible refine wl_store ?_ (fun K hK => ?_)); rfl; refine owp_store rfl st ?_; apply Exists.intro; apply Exists.intro; refine ⟨?_, ?_, ?_⟩; (focus (go_simp; try rfl)); (focus (go_simp; try rfl)); (first | (with_reducible refine ⟨0, _, _, _, _, get0, rfl, rfl, ?_, ?_, ?_, ?_⟩) | (with_reducible refine ⟨1, _, _, _, _, get1, rfl, rfl, ?_, ?_, ?_, ?_⟩) | (with_reducible refine ⟨2, _, _, _, _, get2, rfl, rfl, ?_, ?_, ?_, ?_⟩) | (with_reducible refine ⟨3, _, _, _, _, get3, rfl, rfl, ?_, ?_, ?_, ?_⟩) | (with_reducible refine ⟨4, _, _, _, _, get4, rfl, rfl, ?_, ?_, ?_, ?_⟩) | (with_reducible refine ⟨5, _, _, _, _, get5, rfl, rfl, ?_, ?_, ?_, ?_⟩) | (with_reducible refine ⟨6, _, _, _, _, get6, rfl, rfl, ?_, ?_, ?_, ?_⟩)); (kernel_rfl); (simp [Value.cells]); (rfl); (clear st; intro w st))); (try simp only [nsl, Value.cells, unB] at st); (try clear hc); have hc := st.facts; (try simp only [nfl, nft, Nat.reduceAdd] at hc))
    go_end0
    unfold GetPostM
    (try rw [HR.out])
    exact ⟨rfl, _, _, ⟨wa, wc, sa, sc, ss, rfl, HS.out.1, HS.out.2, rfl⟩, by simpa [S, mgC] using st⟩
/-- What is read: the message that the bytes are, or the error. -/
def RdPost (res : Except Int (MsgT × List UInt8)) (m : MsgT) (er : Int) : Prop := match res with
  | .ok (d, []) => er = 0 ∧ stripM m = stripM d
  | .ok (_, _ :: _) => er = 13
  | .error e => er = e
set_option maxRecDepth 100000 in
set_option maxHeartbeats 2000000 in
theorem msgRead_f (a : Option Addr) (n c : Nat) (xs : List UInt8) (W : World) (h : By W a n xs) (hc : n ≤ c ∧ c ≤ maxLen) (hl : xs.length ≤ 100000) :
    Calls Try.prog 28 #[.slice a n c] W fun e w' => ∃ m er, e = .returned (.tuple #[mgV m, .int .i64 er]) ∧ RdPost (rdMg xs) m er ∧ ((m.wn ≤ m.wc ∧ m.wc ≤ maxLen) ∧ (m.sn ≤ m.sc ∧ m.sc ≤ maxLen)) ∧ Own (fun _ => False) (fun _ => False) W [flI m.wa m.wn m.ws, flI m.sa m.sn m.ss, sgsI m.ss] w' := by
  have st := Own.start (fun _ => False) (fun _ => False) W
  have HB := Lib.hid h
  have HC := Lib.hid hc
  have HN : Hid (n = xs.length) := Lib.hid h.1
  clear hc h
  (try simp only [nsl, Value.cells, unB] at st)
  (try clear hc); have hc := st.facts; (try simp only [nfl, nft, Nat.reduceAdd] at hc)
  go_enter Try.func28, Try.ntmps28
  go_wp2_with ((first
        | ((with_reducible refine wl_alloc ?_ (fun K hK => ?_)); rfl; refine owp_alloc (o := ⟨some 2, _, _, _, _, _⟩) rfl st ?_; apply Exists.intro; apply Exists.intro; refine ⟨?_, ?_⟩; (focus (first | (go_simp; done) | (go_simp; rfl))); (clear st; intro b2 w hb st; clear hb))
        | ((with_reducible refine wl_alloc ?_ (fun K hK => ?_)); rfl; refine owp_alloc (o := ⟨some 4, _, _, _, _, _⟩) rfl st ?_; apply Exists.intro; apply Exists.intro; refine ⟨?_, ?_⟩; (focus (first | (go_simp; done) | (go_simp; rfl))); (clear st; intro b4 w hb st; clear hb))
        | ((with_reducible refine wl_store ?_ (fun K hK => ?_)); rfl; refine owp_store rfl st ?_; apply Exists.intro; apply Exists.intro; refine ⟨?_, ?_, ?_⟩; (focus (go_simp; try rfl)); (focus (go_simp; try rfl)); (first | (with_reducible refine ⟨0, _, _, _, _, get0, rfl, rfl, ?_, ?_, ?_, ?_⟩) | (with_reducible refine ⟨1, _, _, _, _, get1, rfl, rfl, ?_, ?_, ?_, ?_⟩) | (with_reducible refine ⟨2, _, _, _, _, get2, rfl, rfl, ?_, ?_, ?_, ?_⟩) | (with_reducible refine ⟨3, _, _, _, _, get3, rfl, rfl, ?_, ?_, ?_, ?_⟩) | (with_reducible refine ⟨4, _, _, _, _, get4, rfl, rfl, ?_, ?_, ?_, ?_⟩) | (with_reducible refine ⟨5, _, _, _, _, get5, rfl, rfl, ?_, ?_, ?_, ?_⟩) | (with_reducible refine ⟨6, _, _, _, _, get6, rfl, rfl, ?_, ?_, ?_, ?_⟩)); (kernel_rfl); (simp [Value.cells]); (rfl); (clear st; intro w st))); (try simp only [nsl, Value.cells, unB] at st); (try clear hc); have hc := st.facts; (try simp only [nfl, nft, Nat.reduceAdd] at hc))
  refine (readGetM_c (i := 1) (b := b4) (z := mgC (mg0 0 0 0 [])) st get1 (HB.out.ext st.ext0) HC.out (by have := HN.out; omega) 48 (fun _ _ => by kernel_rfl) (rdMg xs) mgMC (fun fr al w r st => msgRead1F_c st hl)).mono ?_
  rintro en w ⟨r1, cs, M, rfl, hg, st'⟩
  clear st
  cases hr : rdMg xs with
  | error e =>
    have he := rdMg_er hr
    have heb : (e != 0) = true := by simpa using he
    rw [hr] at hg
    unfold GotM at hg
    obtain ⟨rfl, rfl⟩ := hg
    have HRD := Lib.hid hr
    clear hr he
    simp only [gotE, List.set, List.append_nil] at st' ⊢
    have st := st'.keep [1, 2] (by decide) (by simp)
    clear st'
    simp only [pick, List.map_cons, List.map_nil, List.getElem?_cons_zero, List.getElem?_cons_succ, Option.getD_some, mgC, mg0, S] at st
    (try simp only [nsl, Value.cells, unB] at st)
    (try clear hc); have hc := st.facts; (try simp only [nfl, nft, Nat.reduceAdd] at hc)
    go_wp2_with ((first
          | ((with_reducible refine wl_alloc ?_ (fun K hK => ?_)); rfl; refine owp_alloc (o := ⟨some 2, _, _, _, _, _⟩) rfl st ?_; apply Exists.intro; apply Exists.intro; refine ⟨?_, ?_⟩; (focus (first | (go_simp; done) | (go_simp; rfl))); (clear st; intro b2 w hb st; clear hb))
          | ((with_reducible refine wl_alloc ?_ (fun K hK => ?_)); rfl; refine owp_alloc (o := ⟨some 4, _, _, _, _, _⟩) rfl st ?_; apply Exists.intro; apply Exists.intro; refine ⟨?_, ?_⟩; (focus (first | (go_simp; done) | (go_simp; rfl))); (clear st; intro b4 w hb st; clear hb))
          | ((with_reducible refine wl_store ?_ (fun K hK => ?_)); rfl; refine owp_store rfl st ?_; apply Exists.intro; apply Exists.intro; refine ⟨?_, ?_, ?_⟩; (focus (go_simp; try rfl)); (focus (go_simp; try rfl)); (first | (with_reducible refine ⟨0, _, _, _, _, get0, rfl, rfl, ?_, ?_, ?_, ?_⟩) | (with_reducible refine ⟨1, _, _, _, _, get1, rfl, rfl, ?_, ?_, ?_, ?_⟩) | (with_reducible refine ⟨2, _, _, _, _, get2, rfl, rfl, ?_, ?_, ?_, ?_⟩) | (with_reducible refine ⟨3, _, _, _, _, get3, rfl, rfl, ?_, ?_, ?_, ?_⟩) | (with_reducible refine ⟨4, _, _, _, _, get4, rfl, rfl, ?_, ?_, ?_, ?_⟩) | (with_reducible refine ⟨5, _, _, _, _, get5, rfl, rfl, ?_, ?_, ?_, ?_⟩) | (with_reducible refine ⟨6, _, _, _, _, get6, rfl, rfl, ?_, ?_, ?_, ?_⟩)); (kernel_rfl); (simp [Value.cells]); (rfl); (clear st; intro w st))); (try simp only [nsl, Value.cells, unB] at st); (try clear hc); have hc := st.facts; (try simp only [nfl, nft, Nat.reduceAdd] at hc))
    (try simp only [Exit.inBlock, Exit.then])
    refine bodyPost_cell2 rfl rfl (st.blk (i := 0) get0) Try.underlying41 rfl (by kernel_rfl) rfl ?_
    have st' := (((st.keep [] (by decide) (by simp)).nilFl (α := Role)).nilFl (α := SgnT)).noSgs
    exact ⟨mg0 0 0 0 [], e, rfl, by unfold RdPost; rw [HRD.out], ⟨⟨Nat.le_refl _, by simp [maxLen, mg0]⟩, ⟨Nat.le_refl _, by simp [maxLen, mg0]⟩⟩, by simpa [pick, mg0] using st'⟩
  | ok p =>
    obtain ⟨d, ys⟩ := p
    rw [hr] at hg
    unfold GotM mgMC at hg
    obtain ⟨wa, wc, sa, sc, ss, rfl, hss, hcc, rfl⟩ := hg
    have HS := Lib.hid (And.intro hss hcc)
    have HRD := Lib.hid hr
    clear hr hss hcc
    simp only [gotE, List.set, List.cons_append, List.nil_append] at st' ⊢
    have st := st'.keep [1, 2, 3, 4, 5] (by decide) (by simp)
    clear st'
    simp only [pick, List.map_cons, List.map_nil, List.getElem?_cons_zero, List.getElem?_cons_succ, Option.getD_some, mgC, S] at st
    cases ys with
    | nil =>
      simp only [if_true]
      (try simp only [nsl, Value.cells, unB] at st)
      (try clear hc); have hc := st.facts; (try simp only [nfl, nft, Nat.reduceAdd] at hc)
      go_wp2_with ((first
            | ((with_reducible refine wl_alloc ?_ (fun K hK => ?_)); rfl; refine owp_alloc (o := ⟨some 2, _, _, _, _, _⟩) rfl st ?_; apply Exists.intro; apply Exists.intro; refine ⟨?_, ?_⟩; (focus (first | (go_simp; done) | (go_simp; rfl))); (clear st; intro b2 w hb st; clear hb))
            | ((with_reducible refine wl_alloc ?_ (fun K hK => ?_)); rfl; refine owp_alloc (o := ⟨some 4, _, _, _, _, _⟩) rfl st ?_; apply Exists.intro; apply Exists.intro; refine ⟨?_, ?_⟩; (focus (first | (go_simp; done) | (go_simp; rfl))); (clear st; intro b4 w hb st; clear hb))
            | ((with_reducible refine wl_store ?_ (fun K hK => ?_)); rfl; refine owp_store rfl st ?_; apply Exists.intro; apply Exists.intro; refine ⟨?_, ?_, ?_⟩; (focus (go_simp; try rfl)); (focus (go_simp; try rfl)); (first | (with_reducible refine ⟨0, _, _, _, _, get0, rfl, rfl, ?_, ?_, ?_, ?_⟩) | (with_reducible refine ⟨1, _, _, _, _, get1, rfl, rfl, ?_, ?_, ?_, ?_⟩) | (with_reducible refine ⟨2, _, _, _, _, get2, rfl, rfl, ?_, ?_, ?_, ?_⟩) | (with_reducible refine ⟨3, _, _, _, _, get3, rfl, rfl, ?_, ?_, ?_, ?_⟩) | (with_reducible refine ⟨4, _, _, _, _, get4, rfl, rfl, ?_, ?_, ?_, ?_⟩) | (with_reducible refine ⟨5, _, _, _, _, get5, rfl, rfl, ?_, ?_, ?_, ?_⟩) | (with_reducible refine ⟨6, _, _, _, _, get6, rfl, rfl, ?_, ?_, ?_, ?_⟩)); (kernel_rfl); (simp [Value.cells]); (rfl); (clear st; intro w st))); (try simp only [nsl, Value.cells, unB] at st); (try clear hc); have hc := st.facts; (try simp only [nfl, nft, Nat.reduceAdd] at hc))
      (try simp only [Exit.inBlock, Exit.then])
      refine bodyPost_cell2 rfl rfl (st.blk (i := 0) get0) Try.underlying41 rfl (by kernel_rfl) rfl ?_
      have st' := st.keep [2, 3, 4] (by decide) (by simp)
      refine ⟨⟨d.k, d.p, d.e, d.nm, wa, d.wn, wc, d.ws, sa, d.sn, sc, ss⟩, 0, rfl, ?_, HS.out.2, by simpa [pick] using st'⟩
      unfold RdPost
      rw [HRD.out]
      refine ⟨rfl, stripM_of rfl rfl rfl rfl rfl rfl rfl ?_⟩
      rw [← HS.out.1, stripS_twice]
    | cons y ys =>
      simp only [if_neg (List.cons_ne_nil y ys)]
      (try simp only [nsl, Value.cells, unB] at st)
      (try clear hc); have hc := st.facts; (try simp only [nfl, nft, Nat.reduceAdd] at hc)
      go_wp2_with ((first
            | ((with_reducible refine wl_alloc ?_ (fun K hK => ?_)); rfl; refine owp_alloc (o := ⟨some 2, _, _, _, _, _⟩) rfl st ?_; apply Exists.intro; apply Exists.intro; refine ⟨?_, ?_⟩; (focus (first | (go_simp; done) | (go_simp; rfl))); (clear st; intro b2 w hb st; clear hb))
            | ((with_reducible refine wl_alloc ?_ (fun K hK => ?_)); rfl; refine owp_alloc (o := ⟨some 4, _, _, _, _, _⟩) rfl st ?_; apply Exists.intro; apply Exists.intro; refine ⟨?_, ?_⟩; (focus (first | (go_simp; done) | (go_simp; rfl))); (clear st; intro b4 w hb st; clear hb))
            | ((with_reducible refine wl_store ?_ (fun K hK => ?_)); rfl; refine owp_store rfl st ?_; apply Exists.intro; apply Exists.intro; refine ⟨?_, ?_, ?_⟩; (focus (go_simp; try rfl)); (focus (go_simp; try rfl)); (first | (with_reducible refine ⟨0, _, _, _, _, get0, rfl, rfl, ?_, ?_, ?_, ?_⟩) | (with_reducible refine ⟨1, _, _, _, _, get1, rfl, rfl, ?_, ?_, ?_, ?_⟩) | (with_reducible refine ⟨2, _, _, _, _, get2, rfl, rfl, ?_, ?_, ?_, ?_⟩) | (with_reducible refine ⟨3, _, _, _, _, get3, rfl, rfl, ?_, ?_, ?_, ?_⟩) | (with_reducible refine ⟨4, _, _, _, _, get4, rfl, rfl, ?_, ?_, ?_, ?_⟩) | (with_reducible refine ⟨5, _, _, _, _, get5, rfl, rfl, ?_, ?_, ?_, ?_⟩) | (with_reducible refine ⟨6, _, _, _, _, get6, rfl, rfl, ?_, ?_, ?_, ?_⟩)); (kernel_rfl); (simp [Value.cells]); (rfl); (clear st; intro w st))); (try simp only [nsl, Value.cells, unB] at st); (try clear hc); have hc := st.facts; (try simp only [nfl, nft, Nat.reduceAdd] at hc))
      (try simp only [Exit.inBlock, Exit.then])
      refine bodyPost_cell2 rfl rfl (st.blk (i := 0) get0) Try.underlying41 rfl (by kernel_rfl) rfl ?_
      have st' := (((st.keep [] (by decide) (by simp)).nilFl (α := Role)).nilFl (α := SgnT)).noSgs
      exact ⟨mg0 0 0 0 [], 13, rfl, by unfold RdPost; rw [HRD.out], ⟨⟨Nat.le_refl _, by simp [maxLen, mg0]⟩, ⟨Nat.le_refl _, by simp [maxLen, mg0]⟩⟩, by simpa [pick, mg0] using st'⟩
end Go.Proofs.Ytmlhilgdjedeoaa

namespace Go.Proofs.Ytmlhilgdjedeoaa
set_option linter.unusedSimpArgs false
set_option linter.unusedVariables false
open Go Go.RowKit

def fnvStep (h : Int) (c : UInt8) : Int := IntKind.u64.wrap (bits BinOp.xor IntKind.u64 h (IntKind.u64.wrap (c.toNat : Int)) * 1099511628211)
def fnv (h : Int) (xs : List UInt8) : Int := xs.foldl fnvStep h
theorem fnv_append (h : Int) (xs ys : List UInt8) : fnv h (xs ++ ys) = fnv (fnv h xs) ys := List.foldl_append
def fnv0 : Int := 14695981039346656037

theorem take_succ_of {α : Type} (l : List α) (k : Nat) (h : k < l.length) : l.take (k + 1) = l.take k ++ [l[k]] := by
  rw [List.take_succ_eq_append_getElem h]
theorem fnv_take (h : Int) (l : List UInt8) (k : Nat) (hk : k < l.length) : fnv h (l.take (k + 1)) = fnvStep (fnv h (l.take k)) l[k] := by
  rw [take_succ_of l k hk, fnv_append]; rfl
theorem fnv_flat (h : Int) (l : List (List UInt8)) (k : Nat) (hk : k < l.length) : fnv h (l.take (k + 1)).flatten = fnv (fnv h (l.take k).flatten) l[k] := by
  rw [take_succ_of l k hk, List.flatten_append, fnv_append]; simp

abbrev Bys (w : World) (a : Option Addr) (n : Nat) (xss : List (List UInt8)) : Prop := Arr 1 sliceR w a n xss
theorem Bys.at {w : World} {a : Option Addr} {n : Nat} {xs : List (List UInt8)} (h : Bys w a n xs) {k : Nat} (hk : k < n) :
    ∃ b off a' n' c', a = some ⟨b, off, none⟩ ∧ w.cell? ⟨b, off + k, none⟩ = some (.slice a' n' c') ∧ n' ≤ maxLen ∧ ∃ h' : k < xs.length, By w a' n' xs[k] := by
  obtain ⟨b, off, ha, hc⟩ := h.2 (by omega)
  have hk' : k < xs.length := h.1 ▸ hk
  obtain ⟨v, h1, a', n', c', rfl, h2, h3, h4⟩ := hc k xs[k] (List.getElem?_eq_getElem hk')
  rw [Nat.mul_one] at h1
  exact ⟨b, off, a', n', c', ha, h1, Nat.le_trans h2 h3, hk', h4⟩

set_option maxHeartbeats 400000 in
theorem sum_any (a : Option Addr) (n c : Nat) (xss : List (List UInt8)) (w : World) (hn : n ≤ maxLen) (h : Bys w a n xss) :
    Calls Try.prog 46 #[.slice a n c] w fun e w' => e = .returned (.int .u64 (fnv fnv0 xss.flatten)) ∧ w = w' := by
  unfold maxLen at hn
  have hl := h.1
  have HL := Lib.hid hl; clear hl
  have HB := Lib.hid h; clear h
  go_enter Try.func46, Try.ntmps46
  go_wp2
  go_loop [3, 10] (fun h i => ∃ k : Nat, k ≤ n ∧ i = .int .i64 k ∧ h = .int .u64 (fnv fnv0 (xss.take k).flatten)) (fun _ i => n - (intOf i).toNat)
  case atStart => exact ⟨0, Nat.zero_le _, rfl, rfl⟩
  case round =>
    obtain ⟨k, hk, rfl, rfl⟩ := hrel
    by_cases hlt : k < n
    · obtain ⟨b, off, a', n', c', rfl, hcell, hn', hk', hb⟩ := HB.out.at hlt
      have HI := Lib.hid hb; clear hb
      unfold maxLen at hn'
      go_wp2
      go_loop [3, 16] (fun h i => ∃ j : Nat, j ≤ n' ∧ i = .int .i64 j ∧ h = .int .u64 (fnv (fnv fnv0 (xss.take k).flatten) (xss[k].take j))) (fun _ i => n' - (intOf i).toNat)
      case atStart => exact ⟨0, Nat.zero_le _, rfl, rfl⟩
      case round =>
        obtain ⟨j, hj, rfl, rfl⟩ := hrel
        by_cases hlt' : j < n'
        · obtain ⟨b', off', rfl, _, hj', hc'⟩ := HI.out.at hlt'
          go_wp2
          go_round
          case rel => exact ⟨j + 1, by omega, by go_num, by rw [fnv_take _ _ _ hj']; rfl⟩
          case measure => simp [intOf]; omega
        · go_wp2
          go_round
          case rel => exact ⟨k + 1, by omega, by go_num, by rw [fnv_flat _ _ _ hk', List.take_of_length_le (l := xss[k]) (by have := HI.out.1; omega)]⟩
          case measure => simp [intOf]; omega
    · go_wp2
      go_ret
      exact ⟨by rw [List.take_of_length_le (by have := HL.out; omega)]; rfl, rfl⟩
end Go.Proofs.Ytmlhilgdjedeoaa

namespace Go.Proofs.Ytmlhilgdjedeoaa
set_option linter.unusedSimpArgs false
set_option linter.unusedVariables false
open Go Go.RowKit

/-- The bytes of a number, the highest first. -/
def byteAt (h : Int) (j : Nat) : UInt8 := UInt8.ofNat (h / 2 ^ (8 * (7 - j)) % 256).toNat
def be8 (h : Int) : List UInt8 := (List.range 8).map (byteAt h)
theorem B_mod (x : Int) : B (UInt8.ofNat (x % 256).toNat) = .int .u8 (x % 256) := by
  unfold B
  congr 1
  have h1 : 0 ≤ x % 256 := Int.emod_nonneg _ (by omega)
  have h2 : x % 256 < 256 := Int.emod_lt_of_pos _ (by omega)
  simp
  omega
theorem be8_fill (h : Int) (vs : List Value) (hl : vs.length = 8) (hv : ∀ i, i < 8 → vs[i]? = some (B (byteAt h i))) : vs = (be8 h).map B := by
  apply List.ext_getElem?
  intro i
  by_cases hi : i < 8
  · rw [hv i hi]; simp [be8, List.getElem?_range, hi]
  · rw [List.getElem?_eq_none (by omega), List.getElem?_eq_none (by simp [be8]; omega)]
end Go.Proofs.Ytmlhilgdjedeoaa

namespace Go.Proofs.Ytmlhilgdjedeoaa
set_option linter.unusedSimpArgs false
set_option linter.unusedVariables false
open Go Go.RowKit
end Go.Proofs.Ytmlhilgdjedeoaa

namespace Go.Proofs.Ytmlhilgdjedeoaa
set_option linter.unusedSimpArgs false
set_option linter.unusedVariables false
open Go Go.RowKit
theorem wrap_u64 (n : Int) : IntKind.u64.wrap n = n % 18446744073709551616 := by
  unfold IntKind.wrap; simp [IntKind.signed, IntKind.bits]
end Go.Proofs.Ytmlhilgdjedeoaa

namespace Go.Proofs.Ytmlhilgdjedeoaa
set_option linter.unusedSimpArgs false
set_option linter.unusedVariables false
open Go Go.RowKit
/-- The sum of a number and a body. -/
def sumB (n : Nat) (b : List UInt8) : List UInt8 := be8 (fnv fnv0 (numB n ++ b))
theorem sumB_len (n : Nat) (b : List UInt8) : (sumB n b).length = 8 := by simp [sumB, be8]
/-- The frame of a number and a body; and with any check at its end. -/
def frameC (n : Nat) (b c : List UInt8) : List UInt8 := numB n ++ ((numB b.length ++ b) ++ (numB c.length ++ c))
def frameB (n : Nat) (b : List UInt8) : List UInt8 := frameC n b (sumB n b)
/-- The length, and where the body and the check stand. -/
theorem frameC_len (n : Nat) (b c : List UInt8) (hc : c.length = 8) : (frameC n b c).length = (numB n).length + (numB b.length).length + b.length + 9 := by
  unfold frameC
  have : (numB c.length).length = 1 := numB_1 (by omega)
  simp only [List.length_append]
  omega
end Go.Proofs.Ytmlhilgdjedeoaa

namespace Go.Proofs.Ytmlhilgdjedeoaa
set_option linter.unusedSimpArgs false
set_option linter.unusedVariables false
open Go Go.RowKit
set_option maxRecDepth 100000 in
set_option maxHeartbeats 1000000 in
theorem frNumber_any (n : Nat) (W : World) (hn : n < 9223372036854775808) :
    Calls Try.prog 47 #[.int .i64 (n : Int)] W fun e w' => ∃ a c, e = .returned (.slice a (numB n).length c) ∧ FreshI W w' (rowI 5 1 (.slice a (numB n).length c) (numB n).length ((numB n).map B)) := by
  have st := Own.startOld W
  have hl : (numB n).length ≤ 10 := numF_len 10 n
  obtain ⟨u, hu⟩ : ∃ u, numB n = u := ⟨_, rfl⟩
  rw [hu] at hl ⊢
  have HU := Lib.hid hu
  clear hu
  (try simp only [nsl, Value.cells, unB] at st)
  (try clear hc); have hc := st.facts; (try simp only [nfl, nft, Nat.reduceAdd] at hc)
  go_enter Try.func47, Try.ntmps47
  go_wp2_with ((((with_reducible refine wl_box ?_ (fun K hK => ?_)); rfl; refine owp_box (o := ⟨some 5, _, _, _, _, _⟩) rfl st ?_; apply Exists.intro; refine ⟨?_, ?_⟩; (focus (go_simp; try rfl)); (clear st; intro b5 w hb st; clear hb))); (try simp only [nsl, Value.cells, unB] at st); (try clear hc); have hc := st.facts; (try simp only [nfl, nft, Nat.reduceAdd] at hc))
  replace st := st.newPen (i := 1) get1
  (try simp only [nsl, Value.cells, unB] at st)
  (try clear hc); have hc := st.facts; (try simp only [nfl, nft, Nat.reduceAdd] at hc)
  obtain ⟨fr', al', st', back⟩ := st.sub [1] (by decide) (by simp)
  (try simp only [nsl, Value.cells, unB] at st')
  refine (penNumber_c st' n hn (by simp)).mono ?_
  clear st'
  rintro en w ⟨rfl, st'⟩
  replace st := back _ _ (by simp) st'
  clear back st'
  (try simp only [nsl, Value.cells, unB] at st)
  (try clear hc); have hc := st.facts; (try simp only [nfl, nft, Nat.reduceAdd] at hc)
  (try simp only [List.nil_append] at st)
  rw [HU.out] at st
  go_wp2_with ((((with_reducible refine wl_box ?_ (fun K hK => ?_)); rfl; refine owp_box (o := ⟨some 5, _, _, _, _, _⟩) rfl st ?_; apply Exists.intro; refine ⟨?_, ?_⟩; (focus (go_simp; try rfl)); (clear st; intro b5 w hb st; clear hb))); (try simp only [nsl, Value.cells, unB] at st); (try clear hc); have hc := st.facts; (try simp only [nfl, nft, Nat.reduceAdd] at hc))
  obtain ⟨fr', al', st', back⟩ := st.sub [1] (by decide) (by simp)
  (try simp only [nsl, Value.cells, unB] at st')
  refine (penBytesRow_c st' (by omega)).mono ?_
  clear st'
  rintro en w ⟨pa, pc, rfl, hpc, st'⟩
  replace st := back _ _ (by simp) st'
  clear back st'
  (try simp only [nsl, Value.cells, unB] at st)
  (try clear hc); have hc := st.facts; (try simp only [nfl, nft, Nat.reduceAdd] at hc)
  go_wp2_with ((((with_reducible refine wl_box ?_ (fun K hK => ?_)); rfl; refine owp_box (o := ⟨some 5, _, _, _, _, _⟩) rfl st ?_; apply Exists.intro; refine ⟨?_, ?_⟩; (focus (go_simp; try rfl)); (clear st; intro b5 w hb st; clear hb))); (try simp only [nsl, Value.cells, unB] at st); (try clear hc); have hc := st.facts; (try simp only [nfl, nft, Nat.reduceAdd] at hc))
  go_ret
  exact ⟨_, _, rfl, st.toFresh (i := 2) get2⟩
set_option maxRecDepth 100000 in
set_option maxHeartbeats 400000 in
theorem frSum_f (n : Nat) (a : Option Addr) (m c : Nat) (b : List UInt8) (w : World) (hn : n < 9223372036854775808) (hc : m ≤ c ∧ c ≤ maxLen) (h : By w a m b) :
    Calls Try.prog 27 #[.int .i64 (n : Int), .slice a m c] w fun e w' => ∃ bb, e = .returned (.slice (some ⟨bb, 0, none⟩) 8 8) ∧ w.heap.size ≤ bb ∧ Ext w w' ∧ Blk w' bb ((sumB n b).map B) := by
  have H := Lib.hid h; clear h
  have HC := Lib.hid hc; clear hc
  have HNB := Lib.hid (fun W => frNumber_any n W hn)
  clear hn
  go_enter Try.func27, Try.ntmps27
  go_wp2_with fail
  refine (HNB.out _).mono ?_
  rintro e w1 ⟨pa, pc, rfl, hfr⟩
  have HX1 := Lib.hid hfr.ext
  have HP := Lib.hid hfr.by
  clear hfr HNB
  obtain ⟨u, hu⟩ : ∃ u, numB n = u := ⟨_, rfl⟩
  rw [hu] at HP ⊢
  have HU := Lib.hid hu; clear hu
  go_wp2_with fail
  have hx2 := Ext.new w1 (Obj.cells #[Value.slice pa u.length pc, Value.slice a m c] 35)
  refine (sum_any _ _ _ [u, b] _ (by simp [maxLen]) (Bys.lit _ [_, _] _ _ _ _ _ (by simp) rfl ⟨(HP.out.2.ext hx2).isSl HP.out.1.1 HP.out.1.2, ((H.out.ext HX1.out).ext hx2).isSl HC.out.1 HC.out.2, trivial⟩)).mono ?_
  rintro e w' ⟨rfl, rfl⟩
  have HX := Lib.hid (HX1.out.trans hx2); clear hx2
  obtain ⟨h, hh⟩ : ∃ h, fnv fnv0 [u, b].flatten = h := ⟨_, rfl⟩
  rw [hh]
  have HH := Lib.hid hh; clear hh
  have hmk : ∀ w, (Instr.makeSlice 35 (.int .i64 8) (.int .i64 8)).run Try.prog w = .ok (.slice (some ⟨w.heap.size, 0, none⟩) 8 8) (w.alloc (.cells [.int .u8 0, .int .u8 0, .int .u8 0, .int .u8 0, .int .u8 0, .int .u8 0, .int .u8 0, .int .u8 0].toArray 5)) := fun _ => by kernel_rfl
  go_wp2_with fail
  go_loopw [7, 16] (fun _ i wr => ∃ j : Nat, j ≤ 8 ∧ i = .int .i64 j ∧ Ext w wr ∧ ∃ vs, vs.length = 8 ∧ (∀ i, i < j → vs[i]? = some (B (byteAt h i))) ∧ Blk wr (w1.heap.size + 1) vs) (fun _ i _ => 8 - (intOf i).toNat)
  case atStart =>
    exact ⟨0, by omega, rfl, HX.out.alloc _, _, rfl, fun i hi => by omega, Blk.lit _ [_, _, _, _, _, _, _, _] _ _ (by simp)⟩
  case round =>
    obtain ⟨j, hj, rfl, hext, vs, hvs, hvv, hblk⟩ := hrel
    have HV := Lib.hid hvs; clear hvs hmk
    have HVV := Lib.hid hvv; clear hvv
    have HB := Lib.hid hblk
    have HE := Lib.hid hext; clear hext
    by_cases hlt : j < 8
    · obtain ⟨x, hc1⟩ : ∃ x, wr.cell? ⟨w1.heap.size + 1, j, none⟩ = some x := ⟨_, (hblk.cell j).trans (List.getElem?_eq_getElem (by have := HV.out; omega))⟩
      have hc2 : wr.frozen? ⟨w1.heap.size + 1, j, none⟩ = false := hblk.free j
      clear hblk
      go_wp2
      go_roundw
      case rel =>
        refine ⟨j + 1, by omega, by go_num, HE.out.setCell (by show _ ≤ w1.heap.size + 1; have := HX1.out.le; omega) _, vs.set j _, by simp [HV.out], fun i hi => ?_, HB.out.set j _⟩
        by_cases hij : i = j
        · subst hij
          rw [List.getElem?_set_self (by have := HV.out; omega)]
          unfold byteAt
          rw [B_mod]
        · rw [List.getElem?_set_ne (Ne.symm hij)]
          exact HVV.out i (by omega)
      case measure => simp [intOf]; omega
    · clear hblk
      go_wp2
      go_ret
      refine ⟨_, rfl, by have := HX1.out.le; omega, HE.out, ?_⟩
      have h8 := be8_fill h vs HV.out (fun i hi => HVV.out i (by omega))
      have hb8 := HB.out
      rw [h8] at hb8
      have e : be8 h = sumB n b := by
        rw [← HH.out, ← HU.out]
        unfold sumB
        simp
      rw [e] at hb8
      exact hb8
theorem Own.addBlk2 {fr al : Nat → Prop} {w0 w w' : World} {L : List It} (st : Own fr al w0 L w) (hx : Ext w w') {b : Nat} {vs : List Value} (h : Blk w' b vs) (hb : w.heap.size ≤ b) : Own fr al w0 (L ++ [blkI b vs]) w' :=
  st.new hx (I := blkI b vs) (e' := fun k => k = b) (s' := fun _ => False) ⟨rfl, h⟩ (fun k hk => by subst hk; exact ⟨h.lt, hb⟩) (fun _ q => q.elim) (fun _ _ q => q)
theorem Own.blkToBy2 {fr al : Nat → Prop} {w0 w : World} {L : List It} (st : Own fr al w0 L w) {i b n : Nat} {xs : List UInt8} (hi : L[i]? = some (blkI b (xs.map B))) (hn : xs.length = n) : Own fr al w0 (L.set i (byI (some ⟨b, 0, none⟩) n xs)) w :=
  st.conv hi fun e s ⟨h1, h2⟩ h3 => ⟨fun _ => False, fun k => k = b, ⟨by subst hn; exact h2.by, fun _ ad had => by cases had; rfl⟩, fun _ q => q.elim, fun k hk => .inl (hk ▸ h1), fun _ q => q.elim⟩
end Go.Proofs.Ytmlhilgdjedeoaa

namespace Go.Proofs.Ytmlhilgdjedeoaa
set_option linter.unusedSimpArgs false
set_option linter.unusedVariables false
open Go Go.RowKit
set_option maxRecDepth 100000 in
set_option maxHeartbeats 1000000 in
theorem frSeal_yes (n : Nat) (a : Option Addr) (m c : Nat) (b : List UInt8) (W : World) (h : By W a m b) (hc : m ≤ c ∧ c ≤ maxLen) (h1 : 1 ≤ n) (h2 : n ≤ 1099511627776) (hm : m ≤ 2048) :
    Calls Try.prog 22 #[.int .i64 (n : Int), .slice a m c] W fun e w' => ∃ a' c', e = .returned (.slice a' (frameB n b).length c') ∧ FreshI W w' (rowI 5 1 (.slice a' (frameB n b).length c') (frameB n b).length ((frameB n b).map B)) := by
  have HC := Lib.hid hc
  have HM : Hid (m = b.length) := Lib.hid h.1
  have HSL := Lib.hid (sumB_len n b)
  have st := (Own.startOld W).addOldBy (i := 0) rfl h
  have hl : (numB n).length ≤ 10 := numF_len 10 n
  have hl2 : (numB m).length ≤ 10 := numF_len 10 m
  clear h hc
  have HF : Hid (frameB n b = numB n ++ (numB m ++ b) ++ (numB 8 ++ sumB n b)) := Lib.hid (by unfold frameB frameC; rw [HSL.out, HM.out]; simp)
  generalize hS : sumB n b = s at *
  obtain ⟨F, hF⟩ : ∃ F, frameB n b = F := ⟨_, rfl⟩
  rw [hF] at HF ⊢
  clear hF
  have HS := Lib.hid hS
  clear hS
  (try simp only [nsl, Value.cells, unB] at st)
  (try clear hc); have hc := st.facts; (try simp only [nfl, nft, Nat.reduceAdd] at hc)
  go_enter Try.func22, Try.ntmps22
  go_wp2_with ((((with_reducible refine wl_box ?_ (fun K hK => ?_)); rfl; refine owp_box (o := ⟨some 18, _, _, _, _, _⟩) rfl st ?_; apply Exists.intro; refine ⟨?_, ?_⟩; (focus (go_simp; try rfl)); (clear st; intro b18 w hb st; clear hb))); (try simp only [nsl, Value.cells, unB] at st); (try clear hc); have hc := st.facts; (try simp only [nfl, nft, Nat.reduceAdd] at hc))
  replace st := st.newPen (i := 2) get2
  (try simp only [nsl, Value.cells, unB] at st)
  (try clear hc); have hc := st.facts; (try simp only [nfl, nft, Nat.reduceAdd] at hc)
  obtain ⟨fr', al', st', back⟩ := st.sub [2] (by decide) (by simp)
  (try simp only [nsl, Value.cells, unB] at st')
  refine (penNumber_c st' n (by omega) (by simp)).mono ?_
  clear st'
  rintro en w ⟨rfl, st'⟩
  replace st := back _ _ (by simp) st'
  clear back st'
  (try simp only [nsl, Value.cells, unB] at st)
  (try clear hc); have hc := st.facts; (try simp only [nfl, nft, Nat.reduceAdd] at hc)
  (try simp only [List.nil_append] at st)
  go_wp2_with fail
  obtain ⟨fr', al', st', back⟩ := st.sub [2, 1] (by decide) (by simp)
  (try simp only [nsl, Value.cells, unB] at st')
  refine (penText_c st' (by omega) (by omega)).mono ?_
  clear st'
  rintro en w ⟨rfl, st'⟩
  replace st := back _ _ (by simp) st'
  clear back st'
  (try simp only [nsl, Value.cells, unB] at st)
  (try clear hc); have hc := st.facts; (try simp only [nfl, nft, Nat.reduceAdd] at hc)
  go_wp2_with fail
  refine (frSum_f n a m c b _ (by omega) HC.out (st.by (i := 1) get1)).mono ?_
  rintro en w ⟨bb, rfl, hbb, hx, hblk⟩
  rw [HS.out] at hblk
  replace st := (st.addBlk2 hx hblk hbb).blkToBy2 (i := 3) (n := 8) (xs := s) get3 HSL.out
  clear hx hblk hbb
  (try simp only [nsl, Value.cells, unB] at st)
  (try clear hc); have hc := st.facts; (try simp only [nfl, nft, Nat.reduceAdd] at hc)
  go_wp2_with fail
  have hl3 : (numB n ++ (numB m ++ b)).length ≤ 5000 := by simp only [List.length_append]; have := HM.out; omega
  obtain ⟨fr', al', st', back⟩ := st.sub [2, 3] (by decide) (by simp)
  (try simp only [nsl, Value.cells, unB] at st')
  refine (penText_c st' (by decide) (by omega)).mono ?_
  clear st'
  rintro en w ⟨rfl, st'⟩
  replace st := back _ _ (by simp) st'
  clear back st'
  (try simp only [nsl, Value.cells, unB] at st)
  (try clear hc); have hc := st.facts; (try simp only [nfl, nft, Nat.reduceAdd] at hc)
  rw [← HF.out] at st
  have hl4 : F.length ≤ 6000 := by rw [HF.out]; simp only [List.length_append] at hl3 ⊢; have := HSL.out; have : (numB 8).length ≤ 10 := numF_len 10 8; omega
  clear hl3
  go_wp2_with fail
  obtain ⟨fr', al', st', back⟩ := st.sub [2] (by decide) (by simp)
  (try simp only [nsl, Value.cells, unB] at st')
  refine (penBytesRow_c st' (by omega)).mono ?_
  clear st'
  rintro en w ⟨pa, pc, rfl, hpc, st'⟩
  replace st := back _ _ (by simp) st'
  clear back st'
  (try simp only [nsl, Value.cells, unB] at st)
  (try clear hc); have hc := st.facts; (try simp only [nfl, nft, Nat.reduceAdd] at hc)
  go_wp2_with fail
  go_ret
  exact ⟨_, _, rfl, st.toFresh (i := 4) get4⟩
set_option maxRecDepth 100000 in
set_option maxHeartbeats 2000000 in
theorem frMake_yes (n : Nat) (x : MsgT) (W : World) (hx : MgOk W x) (lx : MgL x) (hr : mgR x = true) (h1 : 1 ≤ n) (h2 : n ≤ 1099511627776) :
    Calls Try.prog 14 #[.int .i64 (n : Int), mgV x] W fun e w' => ∃ a' c', e = .returned (.slice a' (frameB n (mgB x)).length c') ∧ FreshI W w' (rowI 5 1 (.slice a' (frameB n (mgB x)).length c') (frameB n (mgB x)).length ((frameB n (mgB x)).map B)) := by
  have HMR := Lib.hid (fun W' (h : Ext W W') => msgRight_any x W' (hx.ext h) lx)
  have HBY := Lib.hid (fun W' (h : Ext W W') => msgBytes_any x W' (hx.ext h) lx)
  have HUL := Lib.hid (mgB_2048 hx hr)
  rw [hr] at HMR
  rw [show mgBy x = mgB x by unfold mgBy; rw [if_pos hr]] at HBY
  generalize mgB x = u at *
  have HSY := Lib.hid (fun a c W' (h : By W' a u.length u) hc => frSeal_yes n a u.length c u W' h hc h1 h2 HUL.out)
  generalize frameB n u = F at *
  clear lx hx hr
  have st := Own.startOld W
  obtain ⟨k, p, e, nm, wa, wn, wc, ws, sa, sn, sc, ss⟩ := x
  unfold mgV S at *
  (try simp only [nsl, Value.cells, unB] at st)
  (try clear hc); have hc := st.facts; (try simp only [nfl, nft, Nat.reduceAdd] at hc)
  go_enter Try.func14, Try.ntmps14
  go_wp2_with ((((with_reducible refine wl_box ?_ (fun K hK => ?_)); rfl; refine owp_box (o := ⟨some 3, _, _, _, _, _⟩) rfl st ?_; apply Exists.intro; refine ⟨?_, ?_⟩; (focus (go_simp; try rfl)); (clear st; intro b3 w hb st; clear hb))); (try simp only [nsl, Value.cells, unB] at st); (try clear hc); have hc := st.facts; (try simp only [nfl, nft, Nat.reduceAdd] at hc))
  refine (HMR.out _ st.ext0).mono ?_
  rintro en w ⟨rfl, hx⟩
  replace st := st.ext hx
  clear hx
  (try clear hc); have hc := st.facts; (try simp only [nfl, nft, Nat.reduceAdd] at hc)
  go_wp2_with fail
  refine (HBY.out _ st.ext0).mono ?_
  rintro en w ⟨qa, qn, qc, rfl, hfr⟩
  have hqn : qn = u.length := (hfr.by).2.1
  subst hqn
  have HQ := Lib.hid hfr.by
  replace st := st.ext hfr.ext
  clear hfr
  (try simp only [nsl, Value.cells, unB] at st)
  (try clear hc); have hc := st.facts; (try simp only [nfl, nft, Nat.reduceAdd] at hc)
  go_wp2_with fail
  refine (HSY.out _ _ _ HQ.out.2 HQ.out.1).mono ?_
  rintro en w' ⟨ra, rc, rfl, hfr⟩
  replace st := st.fresh hfr
  clear hfr
  (try simp only [nsl, Value.cells, unB] at st)
  (try clear hc); have hc := st.facts; (try simp only [nfl, nft, Nat.reduceAdd] at hc)
  go_wp2_with fail
  go_ret
  exact ⟨_, _, rfl, st.toFresh (i := 2) get2⟩
end Go.Proofs.Ytmlhilgdjedeoaa

namespace Go.Proofs.Ytmlhilgdjedeoaa
set_option linter.unusedSimpArgs false
set_option linter.unusedVariables false
open Go Go.RowKit
section
variable {P : Program} {fn : Func} {R : Ending → World → Prop} {a : Act} {w : World}
theorem run_loadVar_one (w : World) (ty : TypeId) (x : Addr) (v : Value) (d : TypeDesc) (hu : P.underlying ty = some d) (hd : (match d with | .struct _ | .array _ _ => true | _ => false) = false) (hc : w.cell? x = some v) : (loadVar ty x).run P w = .ok v w := by
  have hagg : (isAgg ty).run P w = .ok false w := by
    unfold isAgg
    rw [Sem.run_bind, run_underlying hu w]
    cases d <;> simp_all
  simp [loadVar, Sem.run_bind, hagg, hc]
theorem bodyPost_cells3 {p1 p2 p3 u b1 b2 b3 : Nat} {t1 t2 t3 : TypeId} {d1 d2 d3 : TypeDesc} {v1 v2 v3 : Value} (h : fn.results = #[.cell p1 t1, .cell p2 t2, .cell p3 t3, .tmp u])
    (hp1 : a.tmps.getD p1 undef = .pointer (some ⟨b1, 0, none⟩)) (hp2 : a.tmps.getD p2 undef = .pointer (some ⟨b2, 0, none⟩)) (hp3 : a.tmps.getD p3 undef = .pointer (some ⟨b3, 0, none⟩))
    (hb1 : w.cell? ⟨b1, 0, none⟩ = some v1) (hb2 : w.cell? ⟨b2, 0, none⟩ = some v2) (hb3 : w.cell? ⟨b3, 0, none⟩ = some v3)
    (hu1 : P.underlying t1 = some d1) (hu2 : P.underlying t2 = some d2) (hu3 : P.underlying t3 = some d3)
    (hd1 : (match d1 with | .struct _ | .array _ _ => true | _ => false) = false) (hd2 : (match d2 with | .struct _ | .array _ _ => true | _ => false) = false) (hd3 : (match d3 with | .struct _ | .array _ _ => true | _ => false) = false)
    (hdef : a.defers = []) (hR : R (.returned (.tuple #[v1, v2, v3, a.tmps.getD u undef])) w) : bodyPost P fn R .ret a w := by
  have h1 : a.tmps[p1]?.getD undef = .pointer (some ⟨b1, 0, none⟩) := by simpa using hp1
  have h2 : a.tmps[p2]?.getD undef = .pointer (some ⟨b2, 0, none⟩) := by simpa using hp2
  have h3 : a.tmps[p3]?.getD undef = .pointer (some ⟨b3, 0, none⟩) := by simpa using hp3
  refine bodyPost_ret (v := .tuple #[v1, v2, v3, a.tmps.getD u undef]) ?_ hdef hR
  simp only [results, h]
  simp [Sem.run_bind, Result.andThen, h1, h2, h3, asAddr, run_loadVar_one w t1 _ v1 d1 hu1 hd1 hb1, run_loadVar_one w t2 _ v2 d2 hu2 hd2 hb2, run_loadVar_one w t3 _ v3 d3 hu3 hd3 hb3]
theorem bodyPost_tct {p u1 u2 g : Nat} {ty : TypeId} {d : TypeDesc} {vs : List Value} (h : fn.results = #[.tmp u1, .cell p ty, .tmp u2]) (hp : a.tmps.getD p undef = .pointer (some ⟨g, 0, none⟩)) (hb : Blk w g vs) (hu : P.underlying ty = some d) (hd : (match d with | .struct _ | .array _ _ => true | _ => false) = true) (hi : (P.info? ty).map (·.size) = some vs.length)
    (hdef : a.defers = []) (hR : R (.returned (.tuple #[a.tmps.getD u1 undef, .agg vs.toArray, a.tmps.getD u2 undef])) w) : bodyPost P fn R .ret a w := by
  have hp' : a.tmps[p]?.getD undef = .pointer (some ⟨g, 0, none⟩) := by simpa using hp
  obtain ⟨t, hb⟩ := hb
  refine bodyPost_ret (v := .tuple #[a.tmps.getD u1 undef, .agg vs.toArray, a.tmps.getD u2 undef]) ?_ hdef hR
  simp only [results, h]
  simp [Sem.run_bind, Result.andThen, hp', asAddr, run_loadVar_row w g t ty vs.toArray (0, 0) d hb hu hd (by simpa using hi)]
end
end Go.Proofs.Ytmlhilgdjedeoaa

namespace Go.Proofs.Ytmlhilgdjedeoaa
set_option linter.unusedSimpArgs false
set_option linter.unusedVariables false
open Go Go.RowKit
theorem rdF1 (n : Nat) (b c zs : List UInt8) (h2 : n ≤ 1099511627776) : rdNumber 1099511627776 (frameC n b c ++ zs) = .ok (n, (numB b.length ++ b) ++ ((numB c.length ++ c) ++ zs)) := by
  have e : frameC n b c ++ zs = numB n ++ ((numB b.length ++ b) ++ ((numB c.length ++ c) ++ zs)) := by simp [frameC]
  rw [e]
  exact rdNumber_put 1099511627776 n _ h2 (by decide)
def erOf (zs : List UInt8) : Int := if zs = [] then 0 else 13
set_option maxRecDepth 100000 in
set_option maxHeartbeats 1000000 in
theorem frParts1_c {fr al : Nat → Prop} {W : World} {r b1 b2 b3 n : Nat} {b c zs : List UInt8} (st : Own fr al W [rdI r (frameC n b c ++ zs), blkI b1 [.int .i64 0], blkI b2 [.slice none 0 0], blkI b3 [.slice none 0 0]] W) (h1 : 1 ≤ n) (h2 : n ≤ 1099511627776) (hb : b.length ≤ 2048) (hc : c.length = 8) (hl : zs.length ≤ 100000) :
    Calls Try.prog 42 #[.pointer (some ⟨r, 0, none⟩), .pointer (some ⟨b1, 0, none⟩), .pointer (some ⟨b2, 0, none⟩), .pointer (some ⟨b3, 0, none⟩)] W fun e w' => ∃ ba bc ca cc, e = .returned (.tuple #[]) ∧ ((b.length ≤ bc ∧ bc ≤ maxLen) ∧ (8 ≤ cc ∧ cc ≤ maxLen)) ∧ Own fr al W [rdI r zs, blkI b1 [.int .i64 (n : Int)], blkI b2 [.slice ba b.length bc], blkI b3 [.slice ca 8 cc], byI ba b.length b, byI ca 8 c] w' := by
  have hn0 : ((n : Int) == 0) = false := by simp; omega
  have HR1 := Lib.hid (rdF1 n b c zs h2)
  have HR2 : Hid (rdText 2048 ((numB b.length ++ b) ++ ((numB c.length ++ c) ++ zs)) = .ok (b, (numB c.length ++ c) ++ zs)) := Lib.hid (rdText_put 2048 b _ hb (by decide))
  have HR3 : Hid (rdText 8 ((numB c.length ++ c) ++ zs) = .ok (c, zs)) := Lib.hid (rdText_put 8 c zs (by omega) (by decide))
  have hl1 : (numB b.length).length ≤ 10 := numF_len 10 _
  have hl2 : (numB c.length).length ≤ 10 := numF_len 10 _
  have hl3 : ((numB b.length ++ b) ++ ((numB c.length ++ c) ++ zs)).length ≤ 200000 := by simp only [List.length_append]; omega
  have hl4 : ((numB c.length ++ c) ++ zs).length ≤ 200000 := by simp only [List.length_append]; omega
  have HC := Lib.hid hc
  clear hc
  generalize (numB b.length ++ b) ++ ((numB c.length ++ c) ++ zs) = x1 at *
  generalize (numB c.length ++ c) ++ zs = x2 at *
  generalize frameC n b c ++ zs = x0 at *
  (try simp only [nsl, Value.cells, unB] at st)
  (try clear hc); have hc := st.facts; (try simp only [nfl, nft, Nat.reduceAdd] at hc)
  go_enter Try.func42, Try.ntmps42
  go_wp2_with fail
  obtain ⟨fr', al', st', back⟩ := st.sub [0] (by decide) (by simp)
  (try simp only [nsl, Value.cells, unB] at st')
  refine (number_c st' 1099511627776).mono ?_
  clear st'
  intro en w hen
  unfold RdC at hen
  rw [HR1.out] at hen
  obtain ⟨v, M, rfl, ⟨rfl, rfl⟩, st'⟩ := hen
  replace st := back _ _ (by simp) st'
  clear back st'
  (try simp only [nsl, Value.cells, unB] at st)
  (try clear hc); have hc := st.facts; (try simp only [nfl, nft, Nat.reduceAdd] at hc)
  go_wp2_with ((((with_reducible refine wl_store ?_ (fun K hK => ?_)); rfl; refine owp_store rfl st ?_; apply Exists.intro; apply Exists.intro; refine ⟨?_, ?_, ?_⟩; (focus (go_simp; try rfl)); (focus (go_simp; try rfl)); (with_reducible refine ⟨1, _, _, _, _, get1, rfl, rfl, ?_, ?_, ?_, ?_⟩); (kernel_rfl); (simp [Value.cells]); (rfl); (clear st; intro w st))); (try simp only [nsl, Value.cells, unB] at st); (try clear hc); have hc := st.facts; (try simp only [nfl, nft, Nat.reduceAdd] at hc))
  obtain ⟨fr', al', st', back⟩ := st.sub [0] (by decide) (by simp)
  (try simp only [nsl, Value.cells, unB] at st')
  refine (text_c st' 2048 (by omega)).mono ?_
  clear st'
  intro en w hen
  unfold RdC at hen
  rw [HR2.out] at hen
  obtain ⟨v, M, rfl, ⟨ba, bc, rfl, hbc, rfl⟩, st'⟩ := hen
  replace st := back _ _ (by simp) st'
  clear back st'
  (try simp only [nsl, Value.cells, unB] at st)
  (try clear hc); have hc := st.facts; (try simp only [nfl, nft, Nat.reduceAdd] at hc)
  go_wp2_with ((((with_reducible refine wl_store ?_ (fun K hK => ?_)); rfl; refine owp_store rfl st ?_; apply Exists.intro; apply Exists.intro; refine ⟨?_, ?_, ?_⟩; (focus (go_simp; try rfl)); (focus (go_simp; try rfl)); (with_reducible refine ⟨2, _, _, _, _, get2, rfl, rfl, ?_, ?_, ?_, ?_⟩); (kernel_rfl); (simp [Value.cells]); (rfl); (clear st; intro w st))); (try simp only [nsl, Value.cells, unB] at st); (try clear hc); have hc := st.facts; (try simp only [nfl, nft, Nat.reduceAdd] at hc))
  obtain ⟨fr', al', st', back⟩ := st.sub [0] (by decide) (by simp)
  (try simp only [nsl, Value.cells, unB] at st')
  refine (text_c st' 8 (by omega)).mono ?_
  clear st'
  intro en w hen
  unfold RdC at hen
  rw [HR3.out] at hen
  obtain ⟨v, M, rfl, ⟨ca, cc, rfl, hcc, rfl⟩, st'⟩ := hen
  replace st := back _ _ (by simp) st'
  clear back st'
  (try simp only [nsl, Value.cells, unB] at st)
  (try clear hc); have hc := st.facts; (try simp only [nfl, nft, Nat.reduceAdd] at hc)
  rw [HC.out] at hcc
  simp only [HC.out] at st ⊢
  (try simp only [nsl, Value.cells, unB] at st)
  (try clear hc); have hc := st.facts; (try simp only [nfl, nft, Nat.reduceAdd] at hc)
  go_wp2_with ((((with_reducible refine wl_store ?_ (fun K hK => ?_)); rfl; refine owp_store rfl st ?_; apply Exists.intro; apply Exists.intro; refine ⟨?_, ?_, ?_⟩; (focus (go_simp; try rfl)); (focus (go_simp; try rfl)); (with_reducible refine ⟨3, _, _, _, _, get3, rfl, rfl, ?_, ?_, ?_, ?_⟩); (kernel_rfl); (simp [Value.cells]); (rfl); (clear st; intro w st))); (try simp only [nsl, Value.cells, unB] at st); (try clear hc); have hc := st.facts; (try simp only [nfl, nft, Nat.reduceAdd] at hc))
  go_end0
  exact ⟨_, _, _, _, rfl, ⟨hbc, hcc⟩, st⟩
set_option maxRecDepth 100000 in
set_option maxHeartbeats 2000000 in
theorem frParts_f {W : World} {a : Option Addr} {m n : Nat} {b c zs : List UInt8} (cap : Nat) (h : By W a m (frameC n b c ++ zs)) (hcap : m ≤ cap ∧ cap ≤ maxLen) (h1 : 1 ≤ n) (h2 : n ≤ 1099511627776) (hb : b.length ≤ 2048) (hc : c.length = 8) (hl : zs.length ≤ 1000) :
    Calls Try.prog 25 #[.slice a m cap] W fun e w' => ∃ ba bc ca cc, e = .returned (.tuple #[.int .i64 (n : Int), .slice ba b.length bc, .slice ca 8 cc, .int .i64 (erOf zs)]) ∧ ((b.length ≤ bc ∧ bc ≤ maxLen) ∧ (8 ≤ cc ∧ cc ≤ maxLen)) ∧ Own (fun _ => False) (fun _ => False) W [byI ba b.length b, byI ca 8 c] w' := by
  have st := Own.start (fun _ => False) (fun _ => False) W
  have HC := Lib.hid hcap
  have hm : m ≤ 10000 := by
    have e := h.1
    have := frameC_len n b c hc
    have : (numB n).length ≤ 10 := numF_len 10 _
    have : (numB b.length).length ≤ 10 := numF_len 10 _
    rw [List.length_append] at e
    omega
  have HK := Lib.hid (fun (fr al : Nat → Prop) (W : World) (r b1 b2 b3 : Nat) (st : Own fr al W [rdI r (frameC n b c ++ zs), blkI b1 [.int .i64 0], blkI b2 [.slice none 0 0], blkI b3 [.slice none 0 0]] W) => frParts1_c st h1 h2 hb hc (by omega))
  clear hcap hc
  obtain ⟨x0, hx0⟩ : ∃ x, frameC n b c ++ zs = x := ⟨_, rfl⟩
  rw [hx0] at HK h
  have HB := Lib.hid h
  clear hx0 h
  (try simp only [nsl, Value.cells, unB] at st)
  (try clear hc); have hc := st.facts; (try simp only [nfl, nft, Nat.reduceAdd] at hc)
  go_enter Try.func25, Try.ntmps25
  go_wp2_with ((first
        | ((with_reducible refine wl_alloc ?_ (fun K hK => ?_)); rfl; refine owp_alloc (o := ⟨some 2, _, _, _, _, _⟩) rfl st ?_; apply Exists.intro; apply Exists.intro; refine ⟨?_, ?_⟩; (focus (first | (go_simp; done) | (go_simp; rfl))); (clear st; intro b2 w hb st; clear hb))
        | ((with_reducible refine wl_alloc ?_ (fun K hK => ?_)); rfl; refine owp_alloc (o := ⟨some 3, _, _, _, _, _⟩) rfl st ?_; apply Exists.intro; apply Exists.intro; refine ⟨?_, ?_⟩; (focus (first | (go_simp; done) | (go_simp; rfl))); (clear st; intro b3 w hb st; clear hb))
        | ((with_reducible refine wl_alloc ?_ (fun K hK => ?_)); rfl; refine owp_alloc (o := ⟨some 4, _, _, _, _, _⟩) rfl st ?_; apply Exists.intro; apply Exists.intro; refine ⟨?_, ?_⟩; (focus (first | (go_simp; done) | (go_simp; rfl))); (clear st; intro b4 w hb st; clear hb))); (try simp only [nsl, Value.cells, unB] at st); (try clear hc); have hc := st.facts; (try simp only [nfl, nft, Nat.reduceAdd] at hc))
  refine (read_c st (HB.out.ext st.ext0) HC.out (by omega) 42 #[.pointer (some ⟨b2, 0, none⟩), .pointer (some ⟨b3, 0, none⟩), .pointer (some ⟨b4, 0, none⟩)] (fun _ _ => by kernel_rfl)
    (fun r e M => e = erOf zs ∧ ∃ ba bc ca cc, ((b.length ≤ bc ∧ bc ≤ maxLen) ∧ (8 ≤ cc ∧ cc ≤ maxLen)) ∧ M = [blkI b2 [.int .i64 (n : Int)], blkI b3 [.slice ba b.length bc], blkI b4 [.slice ca 8 cc], byI ba b.length b, byI ca 8 c]) fun fr' al' w1 r hr st1 => ?_).mono ?_
  · obtain ⟨fr2, al2, st2, back⟩ := st1.sub [3, 0, 1, 2] (by decide) (by simp)
    simp only [pick, List.map_cons, List.map_nil, List.cons_append, List.nil_append, List.getElem?_cons_zero, List.getElem?_cons_succ, Option.getD_some] at st2
    refine (HK.out _ _ _ _ _ _ _ st2).mono ?_
    rintro en w2 ⟨ba, bc, ca, cc, rfl, hbd, st3⟩
    have st4 := back _ _ (by simp) st3
    have st5 := st4.keep [3, 0, 1, 2, 4, 5] (by decide) (by simp [putIt])
    exact .inl ⟨_, zs, _, rfl, ⟨rfl, ba, bc, ca, cc, hbd, rfl⟩, by simpa [pick, putIt] using st5⟩
  rintro en w ⟨r1, e1, M, rfl, ⟨rfl, ba, bc, ca, cc, hbd, rfl⟩, st'⟩
  clear st HK
  have HBD := Lib.hid hbd
  clear hbd
  have st := st'.keep [1, 2, 3, 4, 5] (by decide) (by simp)
  clear st'
  simp only [pick, List.map_cons, List.map_nil, List.getElem?_cons_zero, List.getElem?_cons_succ, Option.getD_some] at st
  (try simp only [nsl, Value.cells, unB] at st)
  (try clear hc); have hc := st.facts; (try simp only [nfl, nft, Nat.reduceAdd] at hc)
  go_wp2_with fail
  refine Rg4.wp_region4_eq #[0, 0, 0, 0, 1, 19, 55, 127] [4, 5, 6] [0] (fun W' => Blk W' b2 [.int .i64 (n : Int)] ∧ Blk W' b3 [.slice ba b.length bc] ∧ Blk W' b4 [.slice ca 8 cc]) [0, 1, 2, 3, 4, 5, 6, 7] (by kernel_rfl) (by kernel_rfl) (by kernel_rfl) (by kernel_rfl) (show Rg4.PB _ by repeat (first | with_reducible exact Rg4.pb_body | with_reducible exact Rg4.pb_bodyD rfl | with_reducible refine Rg4.pb_then ?_ | with_reducible refine Rg4.pb_inBlock ?_ | with_reducible refine Rg4.pb_noGoto ?_ | with_reducible assumption)) (⟨st.drew.blk (i := 0) get0, st.drew.blk (i := 1) get1, st.drew.blk (i := 2) get2⟩) ?_
  replace st := st.drew
  change Rg4.wp4 _ _ _ _ _ _ _ _ _ (World.drew _) _ _
  generalize World.drew _ = w at st ⊢
  (try clear hc); have hc := st.facts; (try simp only [nfl, nft, Nat.reduceAdd] at hc)
  (refine Rg4.w4_read (Rg4.want_none rfl) rfl rfl ?_; apply Exists.intro; refine ⟨fun w' hw' hcl' => ?_, ?_⟩; focus (subst hw'; (focus (first | (go_simp; done) | (go_simp; first | rfl | (rw [if_neg] <;> first | rfl | omega) | (rw [if_pos] <;> first | rfl | omega))))); (try simp only [Rg4.nrm]))
  iterate 3 (refine Rg4.w4_cl (Rg4.want_none rfl) rfl ?_; apply Exists.intro; refine ⟨fun w' hcl => ?_, ?_⟩; (focus (have q0 := Blk.cell hcl.1 0; have q1 := Blk.cell hcl.2.1 0; have q2 := Blk.cell hcl.2.2 0; (try simp at q0 q1 q2); (focus (first | (go_simp; done) | (go_simp; first | rfl | (rw [if_neg] <;> first | rfl | omega) | (rw [if_pos] <;> first | rfl | omega)))))); (try simp only [Rg4.nrm]))
  (refine Rg4.w4_bar (Rg4.want_none rfl) rfl (fun w' hw' hcl' _ K hK => ?_); subst hw'; (refine owp_store rfl st ?_; apply Exists.intro; apply Exists.intro; refine ⟨?_, ?_, ?_⟩; (focus (go_simp; try rfl)); (focus (go_simp; try rfl)); (with_reducible refine ⟨0, _, _, _, _, get0, rfl, rfl, ?_, ?_, ?_, ?_⟩); (kernel_rfl); (simp [Value.cells]); (rfl); (clear st; intro w st); (try simp only [nsl, Value.cells, unB] at st); (try clear hc); have hc := st.facts; (try simp only [nfl, nft, Nat.reduceAdd] at hc)); refine hK _ _ ⟨⟨st.blk (i := 0) get0, st.blk (i := 1) get1, st.blk (i := 2) get2⟩, ?_⟩; (try simp only [Rg4.nrm]))
  (refine Rg4.w4_bar (Rg4.want_none rfl) rfl (fun w' hw' hcl' _ K hK => ?_); subst hw'; (refine owp_store rfl st ?_; apply Exists.intro; apply Exists.intro; refine ⟨?_, ?_, ?_⟩; (focus (go_simp; try rfl)); (focus (go_simp; try rfl)); (with_reducible refine ⟨1, _, _, _, _, get1, rfl, rfl, ?_, ?_, ?_, ?_⟩); (kernel_rfl); (simp [Value.cells]); (rfl); (clear st; intro w st); (try simp only [nsl, Value.cells, unB] at st); (try clear hc); have hc := st.facts; (try simp only [nfl, nft, Nat.reduceAdd] at hc)); refine hK _ _ ⟨⟨st.blk (i := 0) get0, st.blk (i := 1) get1, st.blk (i := 2) get2⟩, ?_⟩; (try simp only [Rg4.nrm]))
  (refine Rg4.w4_bar (Rg4.want_none rfl) rfl (fun w' hw' hcl' _ K hK => ?_); subst hw'; (refine owp_store rfl st ?_; apply Exists.intro; apply Exists.intro; refine ⟨?_, ?_, ?_⟩; (focus (go_simp; try rfl)); (focus (go_simp; try rfl)); (with_reducible refine ⟨2, _, _, _, _, get2, rfl, rfl, ?_, ?_, ?_, ?_⟩); (kernel_rfl); (simp [Value.cells]); (rfl); (clear st; intro w st); (try simp only [nsl, Value.cells, unB] at st); (try clear hc); have hc := st.facts; (try simp only [nfl, nft, Nat.reduceAdd] at hc)); refine hK _ _ ⟨⟨st.blk (i := 0) get0, st.blk (i := 1) get1, st.blk (i := 2) get2⟩, ?_⟩; (try simp only [Rg4.nrm]))
  (refine Rg4.w4_any (Rg4.want_none rfl) rfl ?_; apply Exists.intro; refine ⟨fun w' => ?_, ?_⟩; (focus (first | (go_simp; done) | (go_simp; first | rfl | (rw [if_neg] <;> first | rfl | omega) | (rw [if_pos] <;> first | rfl | omega)))); (try simp only [Rg4.nrm]))
  refine Rg4.w4_nil (fun w' hw' hcl' _ => ?_); subst hw'; clear hcl'
  go_wp2_with fail
  (try simp only [Exit.inBlock, Exit.then])
  obtain ⟨c0, c1, c2⟩ := hc
  refine bodyPost_cells3 rfl rfl rfl rfl c0 c1 c2 Try.underlying3 Try.underlying35 Try.underlying35 rfl rfl rfl rfl ?_
  have st' := st.keep [3, 4] (by decide) (by simp)
  exact ⟨ba, bc, ca, cc, rfl, HBD.out, by simpa [pick] using st'⟩
end Go.Proofs.Ytmlhilgdjedeoaa

namespace Go.Proofs.Ytmlhilgdjedeoaa
set_option linter.unusedSimpArgs false
set_option linter.unusedVariables false
open Go Go.RowKit
set_option maxRecDepth 100000 in
set_option maxHeartbeats 4000000 in
theorem frRead_f {W : World} {a : Option Addr} {m n : Nat} {b : List UInt8} {d : MsgT} (cap : Nat) (h : By W a m (frameB n b)) (hcap : m ≤ cap ∧ cap ≤ maxLen) (h1 : 1 ≤ n) (h2 : n ≤ 1099511627776) (hb : b.length ≤ 2048) (hd : rdMg b = .ok (d, [])) :
    Calls Try.prog 16 #[.slice a m cap] W fun e w' => ∃ x, e = .returned (.tuple #[.int .i64 (n : Int), mgV x, .int .i64 0]) ∧ stripM x = stripM d ∧ ((x.wn ≤ x.wc ∧ x.wc ≤ maxLen) ∧ (x.sn ≤ x.sc ∧ x.sc ≤ maxLen)) ∧ Own (fun _ => False) (fun _ => False) W [flI x.wa x.wn x.ws, flI x.sa x.sn x.ss, sgsI x.ss] w' := by
  have st := Own.start (fun _ => False) (fun _ => False) W
  have HL8 := Lib.hid (sumB_len n b)
  have hm : m ≤ 4096 := by
    have e := h.1
    have := frameC_len n b (sumB n b) HL8.out
    have : (numB n).length ≤ 10 := numF_len 10 _
    have : (numB b.length).length ≤ 10 := numF_len 10 _
    unfold frameB at e
    omega
  have HPP := Lib.hid (fun (w : World) (hx : Ext W w) => frParts_f (W := w) (zs := []) cap (by rw [List.append_nil]; exact h.ext hx) hcap h1 h2 hb HL8.out (by simp))
  rw [show erOf [] = 0 from rfl] at HPP
  have HS := Lib.hid (fun a m c W' (h : By W' a m b) hc => frSum_f n a m c b W' (by omega) hc h)
  have HRD := Lib.hid (fun (w : World) (ba : Option Addr) (bc : Nat) (hh : By w ba b.length b) hbc => msgRead_f ba b.length bc b w hh hbc (by omega))
  rw [hd] at HRD
  generalize frameB n b = x0 at *
  generalize sumB n b = s at *
  have HSE : Hid ((s == s) = true) := Lib.hid (by simp)
  clear hd h hcap
  (try simp only [nsl, Value.cells, unB] at st)
  (try clear hc); have hc := st.facts; (try simp only [nfl, nft, Nat.reduceAdd] at hc)
  go_enter Try.func16, Try.ntmps16
  go_wp2_with ((first
        | ((with_reducible refine wl_alloc ?_ (fun K hK => ?_)); rfl; refine owp_alloc (o := ⟨some 3, _, _, _, _, _⟩) rfl st ?_; apply Exists.intro; apply Exists.intro; refine ⟨?_, ?_⟩; (focus (first | (go_simp; done) | (go_simp; rfl))); (clear st; intro b3 w hb st; clear hb))
        | ((with_reducible refine wl_store ?_ (fun K hK => ?_)); rfl; refine owp_store rfl st ?_; apply Exists.intro; apply Exists.intro; refine ⟨?_, ?_, ?_⟩; (focus (go_simp; try rfl)); (focus (go_simp; try rfl)); (first | (with_reducible refine ⟨0, _, _, _, _, get0, rfl, rfl, ?_, ?_, ?_, ?_⟩) | (with_reducible refine ⟨1, _, _, _, _, get1, rfl, rfl, ?_, ?_, ?_, ?_⟩) | (with_reducible refine ⟨2, _, _, _, _, get2, rfl, rfl, ?_, ?_, ?_, ?_⟩) | (with_reducible refine ⟨3, _, _, _, _, get3, rfl, rfl, ?_, ?_, ?_, ?_⟩) | (with_reducible refine ⟨4, _, _, _, _, get4, rfl, rfl, ?_, ?_, ?_, ?_⟩) | (with_reducible refine ⟨5, _, _, _, _, get5, rfl, rfl, ?_, ?_, ?_, ?_⟩) | (with_reducible refine ⟨6, _, _, _, _, get6, rfl, rfl, ?_, ?_, ?_, ?_⟩) | (with_reducible refine ⟨7, _, _, _, _, get7, rfl, rfl, ?_, ?_, ?_, ?_⟩) | (with_reducible refine ⟨8, _, _, _, _, get8, rfl, rfl, ?_, ?_, ?_, ?_⟩)); (kernel_rfl); (simp [Value.cells]); (rfl); (clear st; intro w st))
        | ((with_reducible refine wl_alloc ?_ (fun K hK => ?_)); rfl; refine owp_alloc (o := ⟨some 9, _, _, _, _, _⟩) rfl st ?_; apply Exists.intro; apply Exists.intro; refine ⟨?_, ?_⟩; (focus (first | (go_simp; done) | (go_simp; rfl))); (clear st; intro b9 w hb st; clear hb))); (try simp only [nsl, Value.cells, unB] at st); (try clear hc); have hc := st.facts; (try simp only [nfl, nft, Nat.reduceAdd] at hc))
  refine (HPP.out _ st.ext0).mono ?_
  rintro en w ⟨ba, bc, ca, cc, rfl, hbd, st'⟩
  replace st := st.join st'
  have HBD := Lib.hid hbd
  clear hbd HPP st'
  (try simp only [nsl, Value.cells, unB] at st)
  (try clear hc); have hc := st.facts; (try simp only [nfl, nft, Nat.reduceAdd] at hc)
  go_wp2_with ((first
        | ((with_reducible refine wl_alloc ?_ (fun K hK => ?_)); rfl; refine owp_alloc (o := ⟨some 3, _, _, _, _, _⟩) rfl st ?_; apply Exists.intro; apply Exists.intro; refine ⟨?_, ?_⟩; (focus (first | (go_simp; done) | (go_simp; rfl))); (clear st; intro b3 w hb st; clear hb))
        | ((with_reducible refine wl_store ?_ (fun K hK => ?_)); rfl; refine owp_store rfl st ?_; apply Exists.intro; apply Exists.intro; refine ⟨?_, ?_, ?_⟩; (focus (go_simp; try rfl)); (focus (go_simp; try rfl)); (first | (with_reducible refine ⟨0, _, _, _, _, get0, rfl, rfl, ?_, ?_, ?_, ?_⟩) | (with_reducible refine ⟨1, _, _, _, _, get1, rfl, rfl, ?_, ?_, ?_, ?_⟩) | (with_reducible refine ⟨2, _, _, _, _, get2, rfl, rfl, ?_, ?_, ?_, ?_⟩) | (with_reducible refine ⟨3, _, _, _, _, get3, rfl, rfl, ?_, ?_, ?_, ?_⟩) | (with_reducible refine ⟨4, _, _, _, _, get4, rfl, rfl, ?_, ?_, ?_, ?_⟩) | (with_reducible refine ⟨5, _, _, _, _, get5, rfl, rfl, ?_, ?_, ?_, ?_⟩) | (with_reducible refine ⟨6, _, _, _, _, get6, rfl, rfl, ?_, ?_, ?_, ?_⟩) | (with_reducible refine ⟨7, _, _, _, _, get7, rfl, rfl, ?_, ?_, ?_, ?_⟩) | (with_reducible refine ⟨8, _, _, _, _, get8, rfl, rfl, ?_, ?_, ?_, ?_⟩)); (kernel_rfl); (simp [Value.cells]); (rfl); (clear st; intro w st))
        | ((with_reducible refine wl_alloc ?_ (fun K hK => ?_)); rfl; refine owp_alloc (o := ⟨some 9, _, _, _, _, _⟩) rfl st ?_; apply Exists.intro; apply Exists.intro; refine ⟨?_, ?_⟩; (focus (first | (go_simp; done) | (go_simp; rfl))); (clear st; intro b9 w hb st; clear hb))); (try simp only [nsl, Value.cells, unB] at st); (try clear hc); have hc := st.facts; (try simp only [nfl, nft, Nat.reduceAdd] at hc))
  refine (HS.out _ _ _ _ (st.by (i := 1) get1) HBD.out.1).mono ?_
  rintro en w ⟨bb, rfl, hbb, hx, hblk⟩
  replace st := (st.addBlk2 hx hblk hbb).blkToBy2 (i := 3) (n := 8) (xs := s) get3 HL8.out
  clear hx hblk hbb
  (try simp only [nsl, Value.cells, unB] at st)
  (try clear hc); have hc := st.facts; (try simp only [nfl, nft, Nat.reduceAdd] at hc)
  go_wp2_with ((first
        | ((with_reducible refine wl_alloc ?_ (fun K hK => ?_)); rfl; refine owp_alloc (o := ⟨some 3, _, _, _, _, _⟩) rfl st ?_; apply Exists.intro; apply Exists.intro; refine ⟨?_, ?_⟩; (focus (first | (go_simp; done) | (go_simp; rfl))); (clear st; intro b3 w hb st; clear hb))
        | ((with_reducible refine wl_store ?_ (fun K hK => ?_)); rfl; refine owp_store rfl st ?_; apply Exists.intro; apply Exists.intro; refine ⟨?_, ?_, ?_⟩; (focus (go_simp; try rfl)); (focus (go_simp; try rfl)); (first | (with_reducible refine ⟨0, _, _, _, _, get0, rfl, rfl, ?_, ?_, ?_, ?_⟩) | (with_reducible refine ⟨1, _, _, _, _, get1, rfl, rfl, ?_, ?_, ?_, ?_⟩) | (with_reducible refine ⟨2, _, _, _, _, get2, rfl, rfl, ?_, ?_, ?_, ?_⟩) | (with_reducible refine ⟨3, _, _, _, _, get3, rfl, rfl, ?_, ?_, ?_, ?_⟩) | (with_reducible refine ⟨4, _, _, _, _, get4, rfl, rfl, ?_, ?_, ?_, ?_⟩) | (with_reducible refine ⟨5, _, _, _, _, get5, rfl, rfl, ?_, ?_, ?_, ?_⟩) | (with_reducible refine ⟨6, _, _, _, _, get6, rfl, rfl, ?_, ?_, ?_, ?_⟩) | (with_reducible refine ⟨7, _, _, _, _, get7, rfl, rfl, ?_, ?_, ?_, ?_⟩) | (with_reducible refine ⟨8, _, _, _, _, get8, rfl, rfl, ?_, ?_, ?_, ?_⟩)); (kernel_rfl); (simp [Value.cells]); (rfl); (clear st; intro w st))
        | ((with_reducible refine wl_alloc ?_ (fun K hK => ?_)); rfl; refine owp_alloc (o := ⟨some 9, _, _, _, _, _⟩) rfl st ?_; apply Exists.intro; apply Exists.intro; refine ⟨?_, ?_⟩; (focus (first | (go_simp; done) | (go_simp; rfl))); (clear st; intro b9 w hb st; clear hb))); (try simp only [nsl, Value.cells, unB] at st); (try clear hc); have hc := st.facts; (try simp only [nfl, nft, Nat.reduceAdd] at hc))
  refine (bytesEqual_any _ 8 _ s _ 8 _ s _ (st.by (i := 2) get2) (st.by (i := 3) get3)).mono ?_
  rintro en w ⟨rfl, hx⟩
  replace st := st.ext hx
  clear hx
  rw [HSE.out]
  (try simp only [nsl, Value.cells, unB] at st)
  (try clear hc); have hc := st.facts; (try simp only [nfl, nft, Nat.reduceAdd] at hc)
  go_wp2_with ((first
        | ((with_reducible refine wl_alloc ?_ (fun K hK => ?_)); rfl; refine owp_alloc (o := ⟨some 3, _, _, _, _, _⟩) rfl st ?_; apply Exists.intro; apply Exists.intro; refine ⟨?_, ?_⟩; (focus (first | (go_simp; done) | (go_simp; rfl))); (clear st; intro b3 w hb st; clear hb))
        | ((with_reducible refine wl_store ?_ (fun K hK => ?_)); rfl; refine owp_store rfl st ?_; apply Exists.intro; apply Exists.intro; refine ⟨?_, ?_, ?_⟩; (focus (go_simp; try rfl)); (focus (go_simp; try rfl)); (first | (with_reducible refine ⟨0, _, _, _, _, get0, rfl, rfl, ?_, ?_, ?_, ?_⟩) | (with_reducible refine ⟨1, _, _, _, _, get1, rfl, rfl, ?_, ?_, ?_, ?_⟩) | (with_reducible refine ⟨2, _, _, _, _, get2, rfl, rfl, ?_, ?_, ?_, ?_⟩) | (with_reducible refine ⟨3, _, _, _, _, get3, rfl, rfl, ?_, ?_, ?_, ?_⟩) | (with_reducible refine ⟨4, _, _, _, _, get4, rfl, rfl, ?_, ?_, ?_, ?_⟩) | (with_reducible refine ⟨5, _, _, _, _, get5, rfl, rfl, ?_, ?_, ?_, ?_⟩) | (with_reducible refine ⟨6, _, _, _, _, get6, rfl, rfl, ?_, ?_, ?_, ?_⟩) | (with_reducible refine ⟨7, _, _, _, _, get7, rfl, rfl, ?_, ?_, ?_, ?_⟩) | (with_reducible refine ⟨8, _, _, _, _, get8, rfl, rfl, ?_, ?_, ?_, ?_⟩)); (kernel_rfl); (simp [Value.cells]); (rfl); (clear st; intro w st))
        | ((with_reducible refine wl_alloc ?_ (fun K hK => ?_)); rfl; refine owp_alloc (o := ⟨some 9, _, _, _, _, _⟩) rfl st ?_; apply Exists.intro; apply Exists.intro; refine ⟨?_, ?_⟩; (focus (first | (go_simp; done) | (go_simp; rfl))); (clear st; intro b9 w hb st; clear hb))); (try simp only [nsl, Value.cells, unB] at st); (try clear hc); have hc := st.facts; (try simp only [nfl, nft, Nat.reduceAdd] at hc))
  refine (HRD.out _ _ _ (st.by (i := 1) get1) HBD.out.1).mono ?_
  rintro en w ⟨x, er, rfl, ⟨rfl, hxs⟩, hcc, st'⟩
  replace st := st.join st'
  have HX := Lib.hid (And.intro hxs hcc)
  clear hxs hcc HRD HS st'
  obtain ⟨mk, mp, me, mnm, mwa, mwn, mwc, mws, msa, msn, msc, mss⟩ := x
  unfold mgV S
  (try simp only [nsl, Value.cells, unB] at st)
  (try clear hc); have hc := st.facts; (try simp only [nfl, nft, Nat.reduceAdd] at hc)
  go_wp2_with ((first
        | ((with_reducible refine wl_alloc ?_ (fun K hK => ?_)); rfl; refine owp_alloc (o := ⟨some 3, _, _, _, _, _⟩) rfl st ?_; apply Exists.intro; apply Exists.intro; refine ⟨?_, ?_⟩; (focus (first | (go_simp; done) | (go_simp; rfl))); (clear st; intro b3 w hb st; clear hb))
        | ((with_reducible refine wl_store ?_ (fun K hK => ?_)); rfl; refine owp_store rfl st ?_; apply Exists.intro; apply Exists.intro; refine ⟨?_, ?_, ?_⟩; (focus (go_simp; try rfl)); (focus (go_simp; try rfl)); (first | (with_reducible refine ⟨0, _, _, _, _, get0, rfl, rfl, ?_, ?_, ?_, ?_⟩) | (with_reducible refine ⟨1, _, _, _, _, get1, rfl, rfl, ?_, ?_, ?_, ?_⟩) | (with_reducible refine ⟨2, _, _, _, _, get2, rfl, rfl, ?_, ?_, ?_, ?_⟩) | (with_reducible refine ⟨3, _, _, _, _, get3, rfl, rfl, ?_, ?_, ?_, ?_⟩) | (with_reducible refine ⟨4, _, _, _, _, get4, rfl, rfl, ?_, ?_, ?_, ?_⟩) | (with_reducible refine ⟨5, _, _, _, _, get5, rfl, rfl, ?_, ?_, ?_, ?_⟩) | (with_reducible refine ⟨6, _, _, _, _, get6, rfl, rfl, ?_, ?_, ?_, ?_⟩) | (with_reducible refine ⟨7, _, _, _, _, get7, rfl, rfl, ?_, ?_, ?_, ?_⟩) | (with_reducible refine ⟨8, _, _, _, _, get8, rfl, rfl, ?_, ?_, ?_, ?_⟩)); (kernel_rfl); (simp [Value.cells]); (rfl); (clear st; intro w st))
        | ((with_reducible refine wl_alloc ?_ (fun K hK => ?_)); rfl; refine owp_alloc (o := ⟨some 9, _, _, _, _, _⟩) rfl st ?_; apply Exists.intro; apply Exists.intro; refine ⟨?_, ?_⟩; (focus (first | (go_simp; done) | (go_simp; rfl))); (clear st; intro b9 w hb st; clear hb))); (try simp only [nsl, Value.cells, unB] at st); (try clear hc); have hc := st.facts; (try simp only [nfl, nft, Nat.reduceAdd] at hc))
  refine Rg4.wp_region4_eq #[0, 0, 1, 7, 15] [3] [1] (fun _ => True) [0, 1, 2, 3, 4] (by kernel_rfl) (by kernel_rfl) (by kernel_rfl) (by kernel_rfl) (show Rg4.PB _ by repeat (first | with_reducible exact Rg4.pb_body | with_reducible exact Rg4.pb_bodyD rfl | with_reducible refine Rg4.pb_then ?_ | with_reducible refine Rg4.pb_inBlock ?_ | with_reducible refine Rg4.pb_noGoto ?_ | with_reducible assumption)) (trivial) ?_
  replace st := st.drew
  change Rg4.wp4 _ _ _ _ _ _ _ _ _ (World.drew _) _ _
  generalize World.drew _ = w at st ⊢
  (try clear hc); have hc := st.facts; (try simp only [nfl, nft, Nat.reduceAdd] at hc)
  (refine Rg4.w4_any (Rg4.want_none rfl) rfl ?_; apply Exists.intro; refine ⟨fun w' => ?_, ?_⟩; (focus (first | (go_simp; done) | (go_simp; first | rfl | (rw [if_neg] <;> first | rfl | omega) | (rw [if_pos] <;> first | rfl | omega)))); (try simp only [Rg4.nrm]))
  (refine Rg4.w4_read (Rg4.want_none rfl) rfl rfl ?_; apply Exists.intro; refine ⟨fun w' hw' hcl' => ?_, ?_⟩; focus (subst hw'; (focus (first | (go_simp; done) | (go_simp; first | rfl | (rw [if_neg] <;> first | rfl | omega) | (rw [if_pos] <;> first | rfl | omega))))); (try simp only [Rg4.nrm]))
  (refine Rg4.w4_any (Rg4.want_none rfl) rfl ?_; apply Exists.intro; refine ⟨fun w' => ?_, ?_⟩; (focus (first | (go_simp; done) | (go_simp; first | rfl | (rw [if_neg] <;> first | rfl | omega) | (rw [if_pos] <;> first | rfl | omega)))); (try simp only [Rg4.nrm]))
  (refine Rg4.w4_bar (Rg4.want_none rfl) rfl (fun w' hw' hcl' _ K hK => ?_); subst hw'; (refine owp_store rfl st ?_; apply Exists.intro; apply Exists.intro; refine ⟨?_, ?_, ?_⟩; (focus (go_simp; try rfl)); (focus (go_simp; try rfl)); (first | (with_reducible refine ⟨0, _, _, _, _, get0, rfl, rfl, ?_, ?_, ?_, ?_⟩) | (with_reducible refine ⟨1, _, _, _, _, get1, rfl, rfl, ?_, ?_, ?_, ?_⟩) | (with_reducible refine ⟨2, _, _, _, _, get2, rfl, rfl, ?_, ?_, ?_, ?_⟩) | (with_reducible refine ⟨3, _, _, _, _, get3, rfl, rfl, ?_, ?_, ?_, ?_⟩) | (with_reducible refine ⟨4, _, _, _, _, get4, rfl, rfl, ?_, ?_, ?_, ?_⟩) | (with_reducible refine ⟨5, _, _, _, _, get5, rfl, rfl, ?_, ?_, ?_, ?_⟩) | (with_reducible refine ⟨6, _, _, _, _, get6, rfl, rfl, ?_, ?_, ?_, ?_⟩) | (with_reducible refine ⟨7, _, _, _, _, get7, rfl, rfl, ?_, ?_, ?_, ?_⟩) | (with_reducible refine ⟨8, _, _, _, _, get8, rfl, rfl, ?_, ?_, ?_, ?_⟩)); (kernel_rfl); (simp [Value.cells]); (rfl); (clear st; intro w st); (try simp only [nsl, Value.cells, unB] at st); (try clear hc); have hc := st.facts; (try simp only [nfl, nft, Nat.reduceAdd] at hc)); refine hK _ _ ⟨trivial, ?_⟩; (try simp only [Rg4.nrm]))
  (refine Rg4.w4_any (Rg4.want_none rfl) rfl ?_; apply Exists.intro; refine ⟨fun w' => ?_, ?_⟩; (focus (first | (go_simp; done) | (go_simp; first | rfl | (rw [if_neg] <;> first | rfl | omega) | (rw [if_pos] <;> first | rfl | omega)))); (try simp only [Rg4.nrm]))
  refine Rg4.w4_nil (fun w' hw' hcl' _ => ?_); subst hw'; clear hcl'
  go_wp2_with fail
  (try simp only [Exit.inBlock, Exit.then])
  refine bodyPost_tct rfl rfl (st.blk (i := 0) get0) Try.underlying41 rfl (by kernel_rfl) rfl ?_
  have st' := st.keep [4, 5, 6] (by decide) (by simp)
  exact ⟨⟨mk, mp, me, mnm, mwa, mwn, mwc, mws, msa, msn, msc, mss⟩, rfl, HX.out.1, HX.out.2, by simpa [pick] using st'⟩
theorem frRead_good {fr al : Nat → Prop} {W : World} {a : Option Addr} {m n : Nat} {b : List UInt8} {d : MsgT} (cap : Nat) (st : Own fr al W [byI a m (frameB n b)] W) (hcap : m ≤ cap ∧ cap ≤ maxLen) (h1 : 1 ≤ n) (h2 : n ≤ 1099511627776) (hb : b.length ≤ 2048) (hd : rdMg b = .ok (d, [])) :
    Calls Try.prog 16 #[.slice a m cap] W fun e w' => ∃ x, e = .returned (.tuple #[.int .i64 (n : Int), mgV x, .int .i64 0]) ∧ stripM x = stripM d ∧ ((x.wn ≤ x.wc ∧ x.wc ≤ maxLen) ∧ (x.sn ≤ x.sc ∧ x.sc ≤ maxLen)) ∧ Own fr al W [byI a m (frameB n b), flI x.wa x.wn x.ws, flI x.sa x.sn x.ss, sgsI x.ss] w' := by
  refine (frRead_f cap (st.by (i := 0) get0) hcap h1 h2 hb hd).mono ?_
  rintro e w' ⟨x, q1, q2, q3, q4⟩
  exact ⟨x, q1, q2, q3, st.join q4⟩
end Go.Proofs.Ytmlhilgdjedeoaa

namespace Go.Proofs.Ytmlhilgdjedeoaa
set_option linter.unusedSimpArgs false
set_option linter.unusedVariables false
open Go Go.RowKit
structure ByT where
  a : Option Addr
  n : Nat
  c : Nat
  xs : List UInt8
deriving Inhabited
instance fltByT : Flt ByT := ⟨1, fun x => [.slice x.a x.n x.c], fun _ => rfl, by decide, fun x u hu => by simp at hu; subst hu; rfl⟩
def ByIn (s : Nat → Prop) (w : World) (x : ByT) : Prop := (x.n ≤ x.c ∧ x.c ≤ maxLen) ∧ By w x.a x.n x.xs ∧ (0 < x.n → ∀ ad, x.a = some ad → s ad.block)
theorem ByIn.agree {s : Nat → Prop} {w w' : World} {x : ByT} (h : ByIn s w x) (hag : ∀ b, s b → w'.heap[b]? = w.heap[b]?) : ByIn s w' x := ⟨h.1, h.2.1.agree fun h0 ad e => hag _ (h.2.2 h0 ad e), h.2.2⟩
theorem ByIn.to {s s' : Nat → Prop} {w : World} {x : ByT} (h : ByIn s w x) (hs : ∀ b, s b → s' b) : ByIn s' w x := ⟨h.1, h.2.1, fun h0 ad e => hs _ (h.2.2 h0 ad e)⟩
def bysI (l : List ByT) : It where
  P _ s w := ∀ x ∈ l, ByIn s w x
  st := fun h hag x hx => (h x hx).agree fun b hb => hag b (.inr hb)
  facts _ := True
  ok := fun _ => trivial
section
variable {fr al : Nat → Prop} {w0 w : World} {L : List It}
theorem Own.bys (st : Own fr al w0 L w) {i : Nat} {l : List ByT} (hi : L[i]? = some (bysI l)) : ∀ x ∈ l, (x.n ≤ x.c ∧ x.c ≤ maxLen) ∧ By w x.a x.n x.xs := let ⟨_, _, h, _⟩ := st.get hi; fun x hx => ⟨(h x hx).1, (h x hx).2.1⟩
theorem Own.bysMore (st : Own fr al w0 L w) {i j n c : Nat} {a : Option Addr} {xs : List UInt8} {l : List ByT} (hi : L[i]? = some (bysI l)) (hj : L[j]? = some (byI a n xs)) (hc : n ≤ c ∧ c ≤ maxLen) : Own fr al w0 (L ++ [bysI (l ++ [⟨a, n, c, xs⟩])]) w :=
  st.share2 hi hj fun e s e2 s2 h1 h2 x hx => by
    rcases List.mem_append.1 hx with q | q
    · exact (h1 x q).to (fun _ => .inl)
    · rw [List.mem_singleton.1 q]; exact ⟨hc, h2.1, fun h0 ad e => .inr (h2.2 h0 ad e)⟩
theorem Own.bysOne (st : Own fr al w0 L w) {i : Nat} {l : List ByT} (hi : L[i]? = some (bysI l)) {x : ByT} (hx : x ∈ l) : Own fr al w0 (L ++ [byI x.a x.n x.xs]) w :=
  st.share hi fun e s h1 => ⟨(h1 x hx).2.1, (h1 x hx).2.2⟩
end
/-- A message of a word and a number. -/
theorem mg5_R {e : Int} (h1 : 1 ≤ e) (h2 : e ≤ 99) : mgR (mg0 5 0 e []) = true := by
  unfold mgR bareMg kindR sameMg mg0
  simp [h1, h2, sameSs]
theorem mg3_R : mgR (mg0 3 0 0 []) = true := by kernel_rfl
theorem strip_mg0 {k e : Int} {x : MsgT} (h : stripM x = stripM (mg0 k 0 e [])) : ∃ wa wc sa sc, x = ⟨k, 0, e, [], wa, 0, wc, [], sa, 0, sc, []⟩ := by
  obtain ⟨mk, mp, me, mnm, mwa, mwn, mwc, mws, msa, msn, msc, mss⟩ := x
  unfold stripM at h
  injection h with h1 h2 h3 h4 _ h5 _ h6 _ h7 _ h8
  simp only [mg0, List.map_nil] at h1 h2 h3 h4 h5 h6 h7 h8
  have h9 : mss = [] := by simpa using h8
  subst h1 h2 h3 h4 h5 h6 h7 h9
  exact ⟨mwa, mwc, msa, msc, rfl⟩
/-- The frame of a message. -/
def frM (v : Nat) (k e : Int) : List UInt8 := frameB v (mgB (mg0 k 0 e []))
theorem frM_len {v : Nat} {k e : Int} (h : mgR (mg0 k 0 e []) = true) : 0 < (frM v k e).length ∧ (frM v k e).length ≤ 4096 := by
  have h1 := mgB_2048 (mg0_ok default k 0 e []) h
  have h2 : (numB v).length ≤ 10 := numF_len 10 v
  have h3 : (numB (mgB (mg0 k 0 e [])).length).length ≤ 10 := numF_len 10 _
  have h4 : (frM v k e).length = _ := frameC_len v (mgB (mg0 k 0 e [])) (sumB v (mgB (mg0 k 0 e []))) (sumB_len _ _)
  omega
theorem frM_rd {k e : Int} (h : mgR (mg0 k 0 e []) = true) : rdMg (mgB (mg0 k 0 e [])) = .ok (mg0 k 0 e [], []) := rdMg_put (mg0_ok default k 0 e []) h
set_option maxRecDepth 100000 in
set_option maxHeartbeats 2000000 in
theorem seqNew_f (wd : Bool) (to tr : Nat) (W : World) (h1 : 1 ≤ to) (h2 : to ≤ 1000) (h3 : tr ≤ 100) :
    Calls Try.prog 5 #[.bool wd, .int .i64 (to : Int), .int .i64 (tr : Int)] W fun e w' => ∃ p, e = .returned (.tuple #[.pointer (some ⟨p, 0, none⟩), .int .i64 0]) ∧ Own (fun _ => False) (fun _ => False) W [blkI p [.bool wd, .bool false, .int .i64 1, .int .i64 (to : Int), .int .i64 (tr : Int), .int .i64 0, .int .i64 0, .slice none 0 0, .int .i64 0]] w' := by
  have h1i : ¬ (to : Int) < 1 := by omega
  have h2i : ¬ (1000 : Int) < (to : Int) := by omega
  have h3i : ¬ (100 : Int) < (tr : Int) := by omega
  have h4i : ¬ (tr : Int) < 0 := by omega
  have st := Own.start (fun _ => False) (fun _ => False) W
  (try simp only [nsl, Value.cells, unB] at st)
  (try clear hc); have hc := st.facts; (try simp only [nfl, nft, Nat.reduceAdd] at hc)
  go_enter Try.func5, Try.ntmps5
  go_wp2_with ((((with_reducible refine wl_box ?_ (fun K hK => ?_)); rfl; refine owp_box (o := ⟨some 26, _, _, _, _, _⟩) rfl st ?_; apply Exists.intro; refine ⟨?_, ?_⟩; (focus (go_simp; try rfl)); (clear st; intro b26 w hb st; clear hb))); (try simp only [nsl, Value.cells, unB] at st); (try clear hc); have hc := st.facts; (try simp only [nfl, nft, Nat.reduceAdd] at hc))
  go_ret2
  exact ⟨_, rfl, st⟩
set_option maxRecDepth 100000 in
set_option maxHeartbeats 1000000 in
theorem seqWord_any (p : Nat) (wd cl : Bool) (nx to tr lf tk : Int) (la : Option Addr) (ln lc : Nat) (gt : Int) (W : World) (h : Blk W p [.bool wd, .bool cl, .int .i64 nx, .int .i64 to, .int .i64 tr, .int .i64 lf, .int .i64 tk, .slice la ln lc, .int .i64 gt]) :
    Calls Try.prog 6 #[.pointer (some ⟨p, 0, none⟩)] W fun e w' => e = .returned (.bool wd) ∧ Ext W w' := by
  have r0 := h.cell 0
  simp only [List.getElem?_cons_zero] at r0
  have st := Own.startOld W
  (try simp only [nsl, Value.cells, unB] at st)
  (try clear hc); have hc := st.facts; (try simp only [nfl, nft, Nat.reduceAdd] at hc)
  go_enter Try.func6, Try.ntmps6
  go_wp2_with fail
  go_ret
  exact ⟨rfl, st.ext0⟩
set_option maxRecDepth 100000 in
set_option maxHeartbeats 1000000 in
theorem seqNext_any (p : Nat) (wd cl : Bool) (nx to tr lf tk : Int) (la : Option Addr) (ln lc : Nat) (gt : Int) (W : World) (h : Blk W p [.bool wd, .bool cl, .int .i64 nx, .int .i64 to, .int .i64 tr, .int .i64 lf, .int .i64 tk, .slice la ln lc, .int .i64 gt]) :
    Calls Try.prog 11 #[.pointer (some ⟨p, 0, none⟩)] W fun e w' => e = .returned (.int .i64 nx) ∧ Ext W w' := by
  have r0 := h.cell 2
  simp only [List.getElem?_cons_zero, List.getElem?_cons_succ] at r0
  have st := Own.startOld W
  (try simp only [nsl, Value.cells, unB] at st)
  (try clear hc); have hc := st.facts; (try simp only [nfl, nft, Nat.reduceAdd] at hc)
  go_enter Try.func11, Try.ntmps11
  go_wp2_with fail
  go_ret
  exact ⟨rfl, st.ext0⟩
set_option maxRecDepth 100000 in
set_option maxHeartbeats 1000000 in
theorem seqLeft_any (p : Nat) (wd cl : Bool) (nx to tr lf tk : Int) (la : Option Addr) (ln lc : Nat) (gt : Int) (W : World) (h : Blk W p [.bool wd, .bool cl, .int .i64 nx, .int .i64 to, .int .i64 tr, .int .i64 lf, .int .i64 tk, .slice la ln lc, .int .i64 gt]) :
    Calls Try.prog 12 #[.pointer (some ⟨p, 0, none⟩)] W fun e w' => e = .returned (.int .i64 lf) ∧ Ext W w' := by
  have r0 := h.cell 5
  simp only [List.getElem?_cons_zero, List.getElem?_cons_succ] at r0
  have st := Own.startOld W
  (try simp only [nsl, Value.cells, unB] at st)
  (try clear hc); have hc := st.facts; (try simp only [nfl, nft, Nat.reduceAdd] at hc)
  go_enter Try.func12, Try.ntmps12
  go_wp2_with fail
  go_ret
  exact ⟨rfl, st.ext0⟩
set_option maxRecDepth 100000 in
set_option maxHeartbeats 2000000 in
theorem seqLast_c {fr al : Nat → Prop} {W : World} {p : Nat} {wd cl : Bool} {nx to tr lf tk : Int} {la : Option Addr} {ln lc : Nat} {gt : Int} {F : List UInt8} (st : Own fr al W [blkI p [.bool wd, .bool cl, .int .i64 nx, .int .i64 to, .int .i64 tr, .int .i64 lf, .int .i64 tk, .slice la ln lc, .int .i64 gt], byI la ln F] W) (hc : ln ≤ lc ∧ lc ≤ maxLen) (hn : ln ≤ 5000) :
    Calls Try.prog 15 #[.pointer (some ⟨p, 0, none⟩)] W fun e w' => ∃ a' c', e = .returned (.slice a' F.length c') ∧ (F.length ≤ c' ∧ c' ≤ maxLen) ∧ Own fr al W [blkI p [.bool wd, .bool cl, .int .i64 nx, .int .i64 to, .int .i64 tr, .int .i64 lf, .int .i64 tk, .slice la ln lc, .int .i64 gt], byI la ln F, byI a' F.length F] w' := by
  have HC := Lib.hid hc
  clear hc
  (try simp only [nsl, Value.cells, unB] at st)
  (try clear hc); have hc := st.facts; (try simp only [nfl, nft, Nat.reduceAdd] at hc)
  go_enter Try.func15, Try.ntmps15
  go_wp2_with fail
  obtain ⟨fr', al', st', back⟩ := st.sub [1] (by decide) (by simp)
  (try simp only [nsl, Value.cells, unB] at st')
  refine (clone_c st' HC.out (by omega)).mono ?_
  clear st'
  rintro en w ⟨a', c', rfl, hq, st'⟩
  replace st := back _ _ (by simp) st'
  clear back st'
  (try simp only [nsl, Value.cells, unB] at st)
  (try clear hc); have hc := st.facts; (try simp only [nfl, nft, Nat.reduceAdd] at hc)
  have HQ := Lib.hid hq
  clear hq
  go_wp2_with fail
  go_ret
  exact ⟨_, _, rfl, HQ.out, st⟩
set_option maxRecDepth 100000 in
set_option maxHeartbeats 4000000 in
theorem seqSend_c {fr al : Nat → Prop} {W : World} {p : Nat} {v : Nat} {to tr lf tk : Int} {la : Option Addr} {ln lc : Nat} {gt : Int} {k e : Int} (st : Own fr al W [blkI p [.bool true, .bool false, .int .i64 (v : Int), .int .i64 to, .int .i64 tr, .int .i64 lf, .int .i64 tk, .slice la ln lc, .int .i64 gt]] W) (hr : mgR (mg0 k 0 e []) = true) (h1 : 1 ≤ v) (h2 : v ≤ 1000000) :
    Calls Try.prog 7 #[.pointer (some ⟨p, 0, none⟩), .agg #[.int .i64 k, .int .i64 0, .int .i64 e, .string ⟨#[]⟩, .slice none 0 0, .slice none 0 0]] W fun en w' => ∃ a' c' a2 c2, en = .returned (.tuple #[.slice a' (frM v k e).length c', .int .i64 0]) ∧ (((frM v k e).length ≤ c' ∧ c' ≤ maxLen) ∧ (frM v k e).length ≤ c2 ∧ c2 ≤ maxLen) ∧
      Own fr al W [blkI p [.bool false, .bool false, .int .i64 ((v : Int) + 1), .int .i64 to, .int .i64 tr, .int .i64 tr, .int .i64 0, .slice a2 (frM v k e).length c2, .int .i64 gt], byI a2 (frM v k e).length (frM v k e), byI a' (frM v k e).length (frM v k e)] w' := by
  have HR := Lib.hid (fun W => msgRight_any (mg0 k 0 e []) W (mg0_ok W k 0 e []) (mg0_L (by simp)))
  have HM := Lib.hid (fun W => show Calls Try.prog _ _ _ fun en w' => ∃ a' c', en = .returned (.slice a' (frM v k e).length c') ∧ FreshI W w' (rowI 5 1 (.slice a' (frM v k e).length c') (frM v k e).length ((frM v k e).map B)) from frMake_yes v (mg0 k 0 e []) W (mg0_ok W k 0 e []) (mg0_L (by simp)) hr h1 (by omega))
  have hlen := frM_len (v := v) hr
  rw [hr] at HR
  generalize frM v k e = F at *
  obtain ⟨m, hm⟩ : ∃ m, F.length = m := ⟨_, rfl⟩
  rw [hm] at HM hlen ⊢
  have HFM := Lib.hid hm
  clear hm hr
  have hm4 : m ≤ 4096 := hlen.2
  clear hlen
  unfold mgV mg0 S at HR HM
  simp only at HR HM
  have z1 : IntKind.i64.wrap ((v : Int) + 1) = (v : Int) + 1 := IntWalk.i64_in _ ⟨by omega, by omega⟩
  have h3 : ¬ (1099511627776 : Int) < (v : Int) := by omega
  (try simp only [nsl, Value.cells, unB] at st)
  (try clear hc); have hc := st.facts; (try simp only [nfl, nft, Nat.reduceAdd] at hc)
  go_enter Try.func7, Try.ntmps7
  go_wp2_with ((first
        | ((with_reducible refine wl_box ?_ (fun K hK => ?_)); rfl; refine owp_box (o := ⟨some 3, _, _, _, _, _⟩) rfl st ?_; apply Exists.intro; refine ⟨?_, ?_⟩; (focus (go_simp; try rfl)); (clear st; intro b3 w hb st; clear hb))
        | ((with_reducible refine wl_store ?_ (fun K hK => ?_)); rfl; refine owp_store rfl st ?_; apply Exists.intro; apply Exists.intro; refine ⟨?_, ?_, ?_⟩; (focus (go_simp; try rfl)); (focus (go_simp; try rfl)); (first | (with_reducible refine ⟨0, _, _, _, _, get0, rfl, rfl, ?_, ?_, ?_, ?_⟩) | (with_reducible refine ⟨1, _, _, _, _, get1, rfl, rfl, ?_, ?_, ?_, ?_⟩) | (with_reducible refine ⟨2, _, _, _, _, get2, rfl, rfl, ?_, ?_, ?_, ?_⟩) | (with_reducible refine ⟨3, _, _, _, _, get3, rfl, rfl, ?_, ?_, ?_, ?_⟩) | (with_reducible refine ⟨4, _, _, _, _, get4, rfl, rfl, ?_, ?_, ?_, ?_⟩) | (with_reducible refine ⟨5, _, _, _, _, get5, rfl, rfl, ?_, ?_, ?_, ?_⟩) | (with_reducible refine ⟨6, _, _, _, _, get6, rfl, rfl, ?_, ?_, ?_, ?_⟩) | (with_reducible refine ⟨7, _, _, _, _, get7, rfl, rfl, ?_, ?_, ?_, ?_⟩)); (kernel_rfl); (simp [Value.cells]); (rfl); (clear st; intro w st))); (try simp only [nsl, Value.cells, unB] at st); (try clear hc); have hc := st.facts; (try simp only [nfl, nft, Nat.reduceAdd] at hc))
  refine (HR.out _).mono ?_
  rintro en w ⟨rfl, hx⟩
  replace st := st.ext hx
  clear hx
  (try clear hc); have hc := st.facts; (try simp only [nfl, nft, Nat.reduceAdd] at hc)
  go_wp2_with ((first
        | ((with_reducible refine wl_box ?_ (fun K hK => ?_)); rfl; refine owp_box (o := ⟨some 3, _, _, _, _, _⟩) rfl st ?_; apply Exists.intro; refine ⟨?_, ?_⟩; (focus (go_simp; try rfl)); (clear st; intro b3 w hb st; clear hb))
        | ((with_reducible refine wl_store ?_ (fun K hK => ?_)); rfl; refine owp_store rfl st ?_; apply Exists.intro; apply Exists.intro; refine ⟨?_, ?_, ?_⟩; (focus (go_simp; try rfl)); (focus (go_simp; try rfl)); (first | (with_reducible refine ⟨0, _, _, _, _, get0, rfl, rfl, ?_, ?_, ?_, ?_⟩) | (with_reducible refine ⟨1, _, _, _, _, get1, rfl, rfl, ?_, ?_, ?_, ?_⟩) | (with_reducible refine ⟨2, _, _, _, _, get2, rfl, rfl, ?_, ?_, ?_, ?_⟩) | (with_reducible refine ⟨3, _, _, _, _, get3, rfl, rfl, ?_, ?_, ?_, ?_⟩) | (with_reducible refine ⟨4, _, _, _, _, get4, rfl, rfl, ?_, ?_, ?_, ?_⟩) | (with_reducible refine ⟨5, _, _, _, _, get5, rfl, rfl, ?_, ?_, ?_, ?_⟩) | (with_reducible refine ⟨6, _, _, _, _, get6, rfl, rfl, ?_, ?_, ?_, ?_⟩) | (with_reducible refine ⟨7, _, _, _, _, get7, rfl, rfl, ?_, ?_, ?_, ?_⟩)); (kernel_rfl); (simp [Value.cells]); (rfl); (clear st; intro w st))); (try simp only [nsl, Value.cells, unB] at st); (try clear hc); have hc := st.facts; (try simp only [nfl, nft, Nat.reduceAdd] at hc))
  refine Rg4.wp_region4_eq #[0, 0, 2, 6, 14, 0, 62, 127, 255, 511] [6, 9] [4, 5] (fun _ => True) [0, 1, 2, 3, 4, 5, 6, 7, 8, 9] (by kernel_rfl) (by kernel_rfl) (by kernel_rfl) (by kernel_rfl) (show Rg4.PB _ by repeat (first | with_reducible exact Rg4.pb_body | with_reducible exact Rg4.pb_bodyD rfl | with_reducible refine Rg4.pb_then ?_ | with_reducible refine Rg4.pb_inBlock ?_ | with_reducible refine Rg4.pb_noGoto ?_ | with_reducible assumption)) (trivial) ?_
  replace st := st.drew
  change Rg4.wp4 _ _ _ _ _ _ _ _ _ (World.drew _) _ _
  generalize World.drew _ = w at st ⊢
  (try clear hc); have hc := st.facts; (try simp only [nfl, nft, Nat.reduceAdd] at hc)
  iterate 4 (refine Rg4.w4_any (Rg4.want_none rfl) rfl ?_; apply Exists.intro; refine ⟨fun w' => ?_, ?_⟩; (focus (first | (go_simp; done) | (go_simp; first | rfl | (rw [if_neg] <;> first | rfl | omega) | (rw [if_pos] <;> first | rfl | omega)))); (try simp only [Rg4.nrm]))
  iterate 2 (refine Rg4.w4_read (Rg4.want_none rfl) rfl rfl ?_; apply Exists.intro; refine ⟨fun w' hw' hcl' => ?_, ?_⟩; focus (subst hw'; (focus (first | (go_simp; done) | (go_simp; first | rfl | (rw [if_neg] <;> first | rfl | omega) | (rw [if_pos] <;> first | rfl | omega))))); (try simp only [Rg4.nrm]))
  refine Rg4.w4_bar (Rg4.want_none rfl) rfl (fun w' hw' hcl _ K hK => ?_)
  subst hw'
  go_wp2_with fail
  refine (HM.out _).mono ?_
  rintro en w ⟨a2, c2, rfl, hfr⟩
  have HC2 := Lib.hid hfr.by.1
  replace st := st.fresh hfr
  clear hfr
  replace st := st.freezeRow (i := 2) (xs := F) get2
  simp only [List.set, List.cons_append, List.nil_append] at st
  (try simp only [nsl, Value.cells, unB] at st)
  (try clear hc); have hc := st.facts; (try simp only [nfl, nft, Nat.reduceAdd] at hc)
  refine hK _ _ ⟨trivial, ?_⟩
  clear hK
  (try simp only [Rg4.nrm])
  iterate 2 (refine Rg4.w4_any (Rg4.want_none rfl) rfl ?_; apply Exists.intro; refine ⟨fun w' => ?_, ?_⟩; (focus (first | (go_simp; done) | (go_simp; first | rfl | (rw [if_neg] <;> first | rfl | omega) | (rw [if_pos] <;> first | rfl | omega)))); (try simp only [Rg4.nrm]))
  (refine Rg4.w4_bar (Rg4.want_none rfl) rfl (fun w' hw' hcl' _ K hK => ?_); subst hw'; (refine owp_store rfl st ?_; apply Exists.intro; apply Exists.intro; refine ⟨?_, ?_, ?_⟩; (focus (go_simp; try rfl)); (focus (go_simp; try rfl)); (first | (with_reducible refine ⟨0, _, _, _, _, get0, rfl, rfl, ?_, ?_, ?_, ?_⟩) | (with_reducible refine ⟨1, _, _, _, _, get1, rfl, rfl, ?_, ?_, ?_, ?_⟩) | (with_reducible refine ⟨2, _, _, _, _, get2, rfl, rfl, ?_, ?_, ?_, ?_⟩) | (with_reducible refine ⟨3, _, _, _, _, get3, rfl, rfl, ?_, ?_, ?_, ?_⟩) | (with_reducible refine ⟨4, _, _, _, _, get4, rfl, rfl, ?_, ?_, ?_, ?_⟩) | (with_reducible refine ⟨5, _, _, _, _, get5, rfl, rfl, ?_, ?_, ?_, ?_⟩) | (with_reducible refine ⟨6, _, _, _, _, get6, rfl, rfl, ?_, ?_, ?_, ?_⟩) | (with_reducible refine ⟨7, _, _, _, _, get7, rfl, rfl, ?_, ?_, ?_, ?_⟩)); (kernel_rfl); (simp [Value.cells]); (rfl); (clear st; intro w st); (try simp only [nsl, Value.cells, unB] at st); (try clear hc); have hc := st.facts; (try simp only [nfl, nft, Nat.reduceAdd] at hc)); refine hK _ _ ⟨trivial, ?_⟩; (try simp only [Rg4.nrm]))
  refine Rg4.w4_nil (fun w' hw' hcl' _ => ?_); subst hw'; clear hcl'
  go_wp2_with ((first
        | ((with_reducible refine wl_box ?_ (fun K hK => ?_)); rfl; refine owp_box (o := ⟨some 3, _, _, _, _, _⟩) rfl st ?_; apply Exists.intro; refine ⟨?_, ?_⟩; (focus (go_simp; try rfl)); (clear st; intro b3 w hb st; clear hb))
        | ((with_reducible refine wl_store ?_ (fun K hK => ?_)); rfl; refine owp_store rfl st ?_; apply Exists.intro; apply Exists.intro; refine ⟨?_, ?_, ?_⟩; (focus (go_simp; try rfl)); (focus (go_simp; try rfl)); (first | (with_reducible refine ⟨0, _, _, _, _, get0, rfl, rfl, ?_, ?_, ?_, ?_⟩) | (with_reducible refine ⟨1, _, _, _, _, get1, rfl, rfl, ?_, ?_, ?_, ?_⟩) | (with_reducible refine ⟨2, _, _, _, _, get2, rfl, rfl, ?_, ?_, ?_, ?_⟩) | (with_reducible refine ⟨3, _, _, _, _, get3, rfl, rfl, ?_, ?_, ?_, ?_⟩) | (with_reducible refine ⟨4, _, _, _, _, get4, rfl, rfl, ?_, ?_, ?_, ?_⟩) | (with_reducible refine ⟨5, _, _, _, _, get5, rfl, rfl, ?_, ?_, ?_, ?_⟩) | (with_reducible refine ⟨6, _, _, _, _, get6, rfl, rfl, ?_, ?_, ?_, ?_⟩) | (with_reducible refine ⟨7, _, _, _, _, get7, rfl, rfl, ?_, ?_, ?_, ?_⟩)); (kernel_rfl); (simp [Value.cells]); (rfl); (clear st; intro w st))); (try simp only [nsl, Value.cells, unB] at st); (try clear hc); have hc := st.facts; (try simp only [nfl, nft, Nat.reduceAdd] at hc))
  obtain ⟨fr', al', st', back⟩ := st.sub [0, 2] (by decide) (by simp)
  (try simp only [nsl, Value.cells, unB] at st')
  refine (seqLast_c st' HC2.out (by omega)).mono ?_
  clear st'
  rintro en w ⟨a', c', rfl, hq, st'⟩
  replace st := back _ _ (by simp) st'
  clear back st'
  (try simp only [nsl, Value.cells, unB] at st)
  (try clear hc); have hc := st.facts; (try simp only [nfl, nft, Nat.reduceAdd] at hc)
  have HQ := Lib.hid hq
  clear hq
  go_wp2_with ((first
        | ((with_reducible refine wl_box ?_ (fun K hK => ?_)); rfl; refine owp_box (o := ⟨some 3, _, _, _, _, _⟩) rfl st ?_; apply Exists.intro; refine ⟨?_, ?_⟩; (focus (go_simp; try rfl)); (clear st; intro b3 w hb st; clear hb))
        | ((with_reducible refine wl_store ?_ (fun K hK => ?_)); rfl; refine owp_store rfl st ?_; apply Exists.intro; apply Exists.intro; refine ⟨?_, ?_, ?_⟩; (focus (go_simp; try rfl)); (focus (go_simp; try rfl)); (first | (with_reducible refine ⟨0, _, _, _, _, get0, rfl, rfl, ?_, ?_, ?_, ?_⟩) | (with_reducible refine ⟨1, _, _, _, _, get1, rfl, rfl, ?_, ?_, ?_, ?_⟩) | (with_reducible refine ⟨2, _, _, _, _, get2, rfl, rfl, ?_, ?_, ?_, ?_⟩) | (with_reducible refine ⟨3, _, _, _, _, get3, rfl, rfl, ?_, ?_, ?_, ?_⟩) | (with_reducible refine ⟨4, _, _, _, _, get4, rfl, rfl, ?_, ?_, ?_, ?_⟩) | (with_reducible refine ⟨5, _, _, _, _, get5, rfl, rfl, ?_, ?_, ?_, ?_⟩) | (with_reducible refine ⟨6, _, _, _, _, get6, rfl, rfl, ?_, ?_, ?_, ?_⟩) | (with_reducible refine ⟨7, _, _, _, _, get7, rfl, rfl, ?_, ?_, ?_, ?_⟩)); (kernel_rfl); (simp [Value.cells]); (rfl); (clear st; intro w st))); (try simp only [nsl, Value.cells, unB] at st); (try clear hc); have hc := st.facts; (try simp only [nfl, nft, Nat.reduceAdd] at hc))
  go_ret2
  have st2 := st.keep [0, 2, 3] (by decide) (by simp)
  have hfm := HFM.out
  subst hfm
  exact ⟨a', c', a2, c2, rfl, ⟨HQ.out, HC2.out⟩, by simpa [pick] using st2⟩
end Go.Proofs.Ytmlhilgdjedeoaa

namespace Go.Proofs.Ytmlhilgdjedeoaa
set_option linter.unusedSimpArgs false
set_option linter.unusedVariables false
open Go Go.RowKit
set_option maxRecDepth 100000 in
set_option maxHeartbeats 8000000 in
theorem seqGot_new {fr al : Nat → Prop} {W : World} {p : Nat} {v : Nat} {to tr lf tk : Int} {la : Option Addr} {ln lc : Nat} {gt : Int} {k e : Int} {a : Option Addr} {m cap : Nat} (st : Own fr al W [blkI p [.bool false, .bool false, .int .i64 (v : Int), .int .i64 to, .int .i64 tr, .int .i64 lf, .int .i64 tk, .slice la ln lc, .int .i64 gt], byI a m (frM v k e)] W) (hr : mgR (mg0 k 0 e []) = true) (h1 : 1 ≤ v) (h2 : v ≤ 1000000) (hcap : m ≤ cap ∧ cap ≤ maxLen) :
    Calls Try.prog 8 #[.pointer (some ⟨p, 0, none⟩), .slice a m cap] W fun en w' => ∃ wa wc sa sc, en = .returned (.tuple #[.agg #[.int .i64 k, .int .i64 0, .int .i64 e, .string ⟨#[]⟩, .slice wa 0 wc, .slice sa 0 sc], .int .i64 1]) ∧
      Own fr al W [blkI p [.bool true, .bool false, .int .i64 ((v : Int) + 1), .int .i64 to, .int .i64 tr, .int .i64 lf, .int .i64 tk, .slice la ln lc, .int .i64 (v : Int)], byI a m (frM v k e)] w' := by
  have z1 : IntKind.i64.wrap ((v : Int) + 1) = (v : Int) + 1 := IntWalk.i64_in _ ⟨by omega, by omega⟩
  have HRD := Lib.hid (fun (fr al : Nat → Prop) (w : World) (st : Own fr al w [byI a m (frM v k e)] w) => show Calls Try.prog _ _ _ fun en w' => ∃ x, en = .returned (.tuple #[.int .i64 (v : Int), mgV x, .int .i64 0]) ∧ stripM x = stripM (mg0 k 0 e []) ∧ ((x.wn ≤ x.wc ∧ x.wc ≤ maxLen) ∧ (x.sn ≤ x.sc ∧ x.sc ≤ maxLen)) ∧ Own fr al w [byI a m (frM v k e), flI x.wa x.wn x.ws, flI x.sa x.sn x.ss, sgsI x.ss] w' from frRead_good cap st hcap h1 (by omega) (mgB_2048 (mg0_ok default k 0 e []) hr) (frM_rd hr))
  generalize frM v k e = F at *
  clear hr hcap
  (try simp only [nsl, Value.cells, unB] at st)
  (try clear hc); have hc := st.facts; (try simp only [nfl, nft, Nat.reduceAdd] at hc)
  go_enter Try.func8, Try.ntmps8
  go_wp2_with ((first
        | ((with_reducible refine wl_alloc ?_ (fun K hK => ?_)); rfl; refine owp_alloc (o := ⟨some 4, _, _, _, _, _⟩) rfl st ?_; apply Exists.intro; apply Exists.intro; refine ⟨?_, ?_⟩; (focus (first | (go_simp; done) | (go_simp; rfl))); (clear st; intro b4 w hb st; clear hb))
        | ((with_reducible refine wl_alloc ?_ (fun K hK => ?_)); rfl; refine owp_alloc (o := ⟨some 7, _, _, _, _, _⟩) rfl st ?_; apply Exists.intro; apply Exists.intro; refine ⟨?_, ?_⟩; (focus (first | (go_simp; done) | (go_simp; rfl))); (clear st; intro b7 w hb st; clear hb))
        | ((with_reducible refine wl_store ?_ (fun K hK => ?_)); rfl; refine owp_store rfl st ?_; apply Exists.intro; apply Exists.intro; refine ⟨?_, ?_, ?_⟩; (focus (go_simp; try rfl)); (focus (go_simp; try rfl)); (first | (with_reducible refine ⟨0, _, _, _, _, get0, rfl, rfl, ?_, ?_, ?_, ?_⟩) | (with_reducible refine ⟨1, _, _, _, _, get1, rfl, rfl, ?_, ?_, ?_, ?_⟩) | (with_reducible refine ⟨2, _, _, _, _, get2, rfl, rfl, ?_, ?_, ?_, ?_⟩) | (with_reducible refine ⟨3, _, _, _, _, get3, rfl, rfl, ?_, ?_, ?_, ?_⟩) | (with_reducible refine ⟨4, _, _, _, _, get4, rfl, rfl, ?_, ?_, ?_, ?_⟩) | (with_reducible refine ⟨5, _, _, _, _, get5, rfl, rfl, ?_, ?_, ?_, ?_⟩) | (with_reducible refine ⟨6, _, _, _, _, get6, rfl, rfl, ?_, ?_, ?_, ?_⟩) | (with_reducible refine ⟨7, _, _, _, _, get7, rfl, rfl, ?_, ?_, ?_, ?_⟩)); (kernel_rfl); (simp [Value.cells]); (rfl); (clear st; intro w st))); (try simp only [nsl, Value.cells, unB] at st); (try clear hc); have hc := st.facts; (try simp only [nfl, nft, Nat.reduceAdd] at hc))
  obtain ⟨fr', al', st', back⟩ := st.sub [1] (by decide) (by simp)
  (try simp only [nsl, Value.cells, unB] at st')
  refine (HRD.out _ _ _ st').mono ?_
  clear st'
  rintro en w ⟨x, rfl, hxs, hcc, st'⟩
  replace st := back _ _ (by simp) st'
  clear back st'
  (try simp only [nsl, Value.cells, unB] at st)
  (try clear hc); have hc := st.facts; (try simp only [nfl, nft, Nat.reduceAdd] at hc)
  obtain ⟨mwa, mwc, msa, msc, rfl⟩ := strip_mg0 hxs
  clear hxs hcc
  unfold mgV S
  simp only at st ⊢
  (try simp only [nsl, Value.cells, unB] at st)
  (try clear hc); have hc := st.facts; (try simp only [nfl, nft, Nat.reduceAdd] at hc)
  go_wp2_with ((first
        | ((with_reducible refine wl_alloc ?_ (fun K hK => ?_)); rfl; refine owp_alloc (o := ⟨some 4, _, _, _, _, _⟩) rfl st ?_; apply Exists.intro; apply Exists.intro; refine ⟨?_, ?_⟩; (focus (first | (go_simp; done) | (go_simp; rfl))); (clear st; intro b4 w hb st; clear hb))
        | ((with_reducible refine wl_alloc ?_ (fun K hK => ?_)); rfl; refine owp_alloc (o := ⟨some 7, _, _, _, _, _⟩) rfl st ?_; apply Exists.intro; apply Exists.intro; refine ⟨?_, ?_⟩; (focus (first | (go_simp; done) | (go_simp; rfl))); (clear st; intro b7 w hb st; clear hb))
        | ((with_reducible refine wl_store ?_ (fun K hK => ?_)); rfl; refine owp_store rfl st ?_; apply Exists.intro; apply Exists.intro; refine ⟨?_, ?_, ?_⟩; (focus (go_simp; try rfl)); (focus (go_simp; try rfl)); (first | (with_reducible refine ⟨0, _, _, _, _, get0, rfl, rfl, ?_, ?_, ?_, ?_⟩) | (with_reducible refine ⟨1, _, _, _, _, get1, rfl, rfl, ?_, ?_, ?_, ?_⟩) | (with_reducible refine ⟨2, _, _, _, _, get2, rfl, rfl, ?_, ?_, ?_, ?_⟩) | (with_reducible refine ⟨3, _, _, _, _, get3, rfl, rfl, ?_, ?_, ?_, ?_⟩) | (with_reducible refine ⟨4, _, _, _, _, get4, rfl, rfl, ?_, ?_, ?_, ?_⟩) | (with_reducible refine ⟨5, _, _, _, _, get5, rfl, rfl, ?_, ?_, ?_, ?_⟩) | (with_reducible refine ⟨6, _, _, _, _, get6, rfl, rfl, ?_, ?_, ?_, ?_⟩) | (with_reducible refine ⟨7, _, _, _, _, get7, rfl, rfl, ?_, ?_, ?_, ?_⟩)); (kernel_rfl); (simp [Value.cells]); (rfl); (clear st; intro w st))); (try simp only [nsl, Value.cells, unB] at st); (try clear hc); have hc := st.facts; (try simp only [nfl, nft, Nat.reduceAdd] at hc))
  (try simp only [Exit.inBlock, Exit.then])
  refine bodyPost_cell2 rfl rfl (st.blk (i := 2) get2) Try.underlying41 rfl (by kernel_rfl) rfl ?_
  have st2 := st.keep [0, 1] (by decide) (by simp)
  exact ⟨mwa, mwc, msa, msc, rfl, by simpa [pick] using st2⟩
set_option maxRecDepth 100000 in
set_option maxHeartbeats 8000000 in
theorem seqGot_old {fr al : Nat → Prop} {W : World} {p : Nat} {v nx : Nat} {wd : Bool} {to tr lf tk : Int} {la : Option Addr} {ln lc : Nat} {gt : Nat} {k e : Int} {a : Option Addr} {m cap : Nat} {what : Int} (st : Own fr al W [blkI p [.bool wd, .bool false, .int .i64 (nx : Int), .int .i64 to, .int .i64 tr, .int .i64 lf, .int .i64 tk, .slice la ln lc, .int .i64 (gt : Int)], byI a m (frM v k e)] W) (hr : mgR (mg0 k 0 e []) = true) (h1 : 1 ≤ v) (h2 : v ≤ 1000000) (hcap : m ≤ cap ∧ cap ≤ maxLen)
    (hno : v ≠ nx ∨ wd = true) (hw : (v = gt ∧ what = 2) ∨ (v ≠ gt ∧ what = 0)) :
    Calls Try.prog 8 #[.pointer (some ⟨p, 0, none⟩), .slice a m cap] W fun en w' => en = .returned (.tuple #[.agg #[.int .i64 0, .int .i64 0, .int .i64 0, .string ⟨#[]⟩, .slice none 0 0, .slice none 0 0], .int .i64 what]) ∧
      Own fr al W [blkI p [.bool wd, .bool false, .int .i64 (nx : Int), .int .i64 to, .int .i64 tr, .int .i64 lf, .int .i64 tk, .slice la ln lc, .int .i64 (gt : Int)], byI a m (frM v k e)] w' := by
  obtain ⟨cv, hcv⟩ : ∃ c, ((v : Int) == (nx : Int)) = c := ⟨_, rfl⟩
  have hcw : cv = false ∨ wd = true := hno.imp (fun q => by rw [← hcv]; simp; omega) id
  have hg : ((v : Int) == (gt : Int)) = true ∧ what = 2 ∨ ((v : Int) == (gt : Int)) = false ∧ what = 0 := hw.imp (fun q => ⟨by simp; omega, q.2⟩) (fun q => ⟨by simp; omega, q.2⟩)
  clear hno hw
  have HRD := Lib.hid (fun (fr al : Nat → Prop) (w : World) (st : Own fr al w [byI a m (frM v k e)] w) => show Calls Try.prog _ _ _ fun en w' => ∃ x, en = .returned (.tuple #[.int .i64 (v : Int), mgV x, .int .i64 0]) ∧ stripM x = stripM (mg0 k 0 e []) ∧ ((x.wn ≤ x.wc ∧ x.wc ≤ maxLen) ∧ (x.sn ≤ x.sc ∧ x.sc ≤ maxLen)) ∧ Own fr al w [byI a m (frM v k e), flI x.wa x.wn x.ws, flI x.sa x.sn x.ss, sgsI x.ss] w' from frRead_good cap st hcap h1 (by omega) (mgB_2048 (mg0_ok default k 0 e []) hr) (frM_rd hr))
  generalize frM v k e = F at *
  clear hr hcap
  (try simp only [nsl, Value.cells, unB] at st)
  (try clear hc); have hc := st.facts; (try simp only [nfl, nft, Nat.reduceAdd] at hc)
  go_enter Try.func8, Try.ntmps8
  go_wp2_with ((first
        | ((with_reducible refine wl_alloc ?_ (fun K hK => ?_)); rfl; refine owp_alloc (o := ⟨some 4, _, _, _, _, _⟩) rfl st ?_; apply Exists.intro; apply Exists.intro; refine ⟨?_, ?_⟩; (focus (first | (go_simp; done) | (go_simp; rfl))); (clear st; intro b4 w hb st; clear hb))
        | ((with_reducible refine wl_alloc ?_ (fun K hK => ?_)); rfl; refine owp_alloc (o := ⟨some 7, _, _, _, _, _⟩) rfl st ?_; apply Exists.intro; apply Exists.intro; refine ⟨?_, ?_⟩; (focus (first | (go_simp; done) | (go_simp; rfl))); (clear st; intro b7 w hb st; clear hb))
        | ((with_reducible refine wl_store ?_ (fun K hK => ?_)); rfl; refine owp_store rfl st ?_; apply Exists.intro; apply Exists.intro; refine ⟨?_, ?_, ?_⟩; (focus (go_simp; try rfl)); (focus (go_simp; try rfl)); (first | (with_reducible refine ⟨0, _, _, _, _, get0, rfl, rfl, ?_, ?_, ?_, ?_⟩) | (with_reducible refine ⟨1, _, _, _, _, get1, rfl, rfl, ?_, ?_, ?_, ?_⟩) | (with_reducible refine ⟨2, _, _, _, _, get2, rfl, rfl, ?_, ?_, ?_, ?_⟩) | (with_reducible refine ⟨3, _, _, _, _, get3, rfl, rfl, ?_, ?_, ?_, ?_⟩) | (with_reducible refine ⟨4, _, _, _, _, get4, rfl, rfl, ?_, ?_, ?_, ?_⟩) | (with_reducible refine ⟨5, _, _, _, _, get5, rfl, rfl, ?_, ?_, ?_, ?_⟩) | (with_reducible refine ⟨6, _, _, _, _, get6, rfl, rfl, ?_, ?_, ?_, ?_⟩) | (with_reducible refine ⟨7, _, _, _, _, get7, rfl, rfl, ?_, ?_, ?_, ?_⟩)); (kernel_rfl); (simp [Value.cells]); (rfl); (clear st; intro w st))); (try simp only [nsl, Value.cells, unB] at st); (try clear hc); have hc := st.facts; (try simp only [nfl, nft, Nat.reduceAdd] at hc))
  obtain ⟨fr', al', st', back⟩ := st.sub [1] (by decide) (by simp)
  (try simp only [nsl, Value.cells, unB] at st')
  refine (HRD.out _ _ _ st').mono ?_
  clear st'
  rintro en w ⟨x, rfl, hxs, hcc, st'⟩
  replace st := back _ _ (by simp) st'
  clear back st'
  (try simp only [nsl, Value.cells, unB] at st)
  (try clear hc); have hc := st.facts; (try simp only [nfl, nft, Nat.reduceAdd] at hc)
  obtain ⟨mwa, mwc, msa, msc, rfl⟩ := strip_mg0 hxs
  clear hxs hcc
  unfold mgV S
  simp only at st ⊢
  (try simp only [nsl, Value.cells, unB] at st)
  (try clear hc); have hc := st.facts; (try simp only [nfl, nft, Nat.reduceAdd] at hc)
  rcases hg with ⟨hg, rfl⟩ | ⟨hg, rfl⟩
  · rcases hcw with rfl | rfl
    · skip
      go_wp2_with ((first
            | ((with_reducible refine wl_alloc ?_ (fun K hK => ?_)); rfl; refine owp_alloc (o := ⟨some 4, _, _, _, _, _⟩) rfl st ?_; apply Exists.intro; apply Exists.intro; refine ⟨?_, ?_⟩; (focus (first | (go_simp; done) | (go_simp; rfl))); (clear st; intro b4 w hb st; clear hb))
            | ((with_reducible refine wl_alloc ?_ (fun K hK => ?_)); rfl; refine owp_alloc (o := ⟨some 7, _, _, _, _, _⟩) rfl st ?_; apply Exists.intro; apply Exists.intro; refine ⟨?_, ?_⟩; (focus (first | (go_simp; done) | (go_simp; rfl))); (clear st; intro b7 w hb st; clear hb))
            | ((with_reducible refine wl_store ?_ (fun K hK => ?_)); rfl; refine owp_store rfl st ?_; apply Exists.intro; apply Exists.intro; refine ⟨?_, ?_, ?_⟩; (focus (go_simp; try rfl)); (focus (go_simp; try rfl)); (first | (with_reducible refine ⟨0, _, _, _, _, get0, rfl, rfl, ?_, ?_, ?_, ?_⟩) | (with_reducible refine ⟨1, _, _, _, _, get1, rfl, rfl, ?_, ?_, ?_, ?_⟩) | (with_reducible refine ⟨2, _, _, _, _, get2, rfl, rfl, ?_, ?_, ?_, ?_⟩) | (with_reducible refine ⟨3, _, _, _, _, get3, rfl, rfl, ?_, ?_, ?_, ?_⟩) | (with_reducible refine ⟨4, _, _, _, _, get4, rfl, rfl, ?_, ?_, ?_, ?_⟩) | (with_reducible refine ⟨5, _, _, _, _, get5, rfl, rfl, ?_, ?_, ?_, ?_⟩) | (with_reducible refine ⟨6, _, _, _, _, get6, rfl, rfl, ?_, ?_, ?_, ?_⟩) | (with_reducible refine ⟨7, _, _, _, _, get7, rfl, rfl, ?_, ?_, ?_, ?_⟩)); (kernel_rfl); (simp [Value.cells]); (rfl); (clear st; intro w st))); (try simp only [nsl, Value.cells, unB] at st); (try clear hc); have hc := st.facts; (try simp only [nfl, nft, Nat.reduceAdd] at hc))
      (try simp only [Exit.inBlock, Exit.then])
      refine bodyPost_cell2 rfl rfl (st.blk (i := 2) get2) Try.underlying41 rfl (by kernel_rfl) rfl ?_
      have st2 := st.keep [0, 1] (by decide) (by simp)
      exact ⟨rfl, by simpa [pick] using st2⟩
    · cases cv with
      | false =>
        go_wp2_with ((first
              | ((with_reducible refine wl_alloc ?_ (fun K hK => ?_)); rfl; refine owp_alloc (o := ⟨some 4, _, _, _, _, _⟩) rfl st ?_; apply Exists.intro; apply Exists.intro; refine ⟨?_, ?_⟩; (focus (first | (go_simp; done) | (go_simp; rfl))); (clear st; intro b4 w hb st; clear hb))
              | ((with_reducible refine wl_alloc ?_ (fun K hK => ?_)); rfl; refine owp_alloc (o := ⟨some 7, _, _, _, _, _⟩) rfl st ?_; apply Exists.intro; apply Exists.intro; refine ⟨?_, ?_⟩; (focus (first | (go_simp; done) | (go_simp; rfl))); (clear st; intro b7 w hb st; clear hb))
              | ((with_reducible refine wl_store ?_ (fun K hK => ?_)); rfl; refine owp_store rfl st ?_; apply Exists.intro; apply Exists.intro; refine ⟨?_, ?_, ?_⟩; (focus (go_simp; try rfl)); (focus (go_simp; try rfl)); (first | (with_reducible refine ⟨0, _, _, _, _, get0, rfl, rfl, ?_, ?_, ?_, ?_⟩) | (with_reducible refine ⟨1, _, _, _, _, get1, rfl, rfl, ?_, ?_, ?_, ?_⟩) | (with_reducible refine ⟨2, _, _, _, _, get2, rfl, rfl, ?_, ?_, ?_, ?_⟩) | (with_reducible refine ⟨3, _, _, _, _, get3, rfl, rfl, ?_, ?_, ?_, ?_⟩) | (with_reducible refine ⟨4, _, _, _, _, get4, rfl, rfl, ?_, ?_, ?_, ?_⟩) | (with_reducible refine ⟨5, _, _, _, _, get5, rfl, rfl, ?_, ?_, ?_, ?_⟩) | (with_reducible refine ⟨6, _, _, _, _, get6, rfl, rfl, ?_, ?_, ?_, ?_⟩) | (with_reducible refine ⟨7, _, _, _, _, get7, rfl, rfl, ?_, ?_, ?_, ?_⟩)); (kernel_rfl); (simp [Value.cells]); (rfl); (clear st; intro w st))); (try simp only [nsl, Value.cells, unB] at st); (try clear hc); have hc := st.facts; (try simp only [nfl, nft, Nat.reduceAdd] at hc))
        (try simp only [Exit.inBlock, Exit.then])
        refine bodyPost_cell2 rfl rfl (st.blk (i := 2) get2) Try.underlying41 rfl (by kernel_rfl) rfl ?_
        have st2 := st.keep [0, 1] (by decide) (by simp)
        exact ⟨rfl, by simpa [pick] using st2⟩
      | true =>
        go_wp2_with ((first
              | ((with_reducible refine wl_alloc ?_ (fun K hK => ?_)); rfl; refine owp_alloc (o := ⟨some 4, _, _, _, _, _⟩) rfl st ?_; apply Exists.intro; apply Exists.intro; refine ⟨?_, ?_⟩; (focus (first | (go_simp; done) | (go_simp; rfl))); (clear st; intro b4 w hb st; clear hb))
              | ((with_reducible refine wl_alloc ?_ (fun K hK => ?_)); rfl; refine owp_alloc (o := ⟨some 7, _, _, _, _, _⟩) rfl st ?_; apply Exists.intro; apply Exists.intro; refine ⟨?_, ?_⟩; (focus (first | (go_simp; done) | (go_simp; rfl))); (clear st; intro b7 w hb st; clear hb))
              | ((with_reducible refine wl_store ?_ (fun K hK => ?_)); rfl; refine owp_store rfl st ?_; apply Exists.intro; apply Exists.intro; refine ⟨?_, ?_, ?_⟩; (focus (go_simp; try rfl)); (focus (go_simp; try rfl)); (first | (with_reducible refine ⟨0, _, _, _, _, get0, rfl, rfl, ?_, ?_, ?_, ?_⟩) | (with_reducible refine ⟨1, _, _, _, _, get1, rfl, rfl, ?_, ?_, ?_, ?_⟩) | (with_reducible refine ⟨2, _, _, _, _, get2, rfl, rfl, ?_, ?_, ?_, ?_⟩) | (with_reducible refine ⟨3, _, _, _, _, get3, rfl, rfl, ?_, ?_, ?_, ?_⟩) | (with_reducible refine ⟨4, _, _, _, _, get4, rfl, rfl, ?_, ?_, ?_, ?_⟩) | (with_reducible refine ⟨5, _, _, _, _, get5, rfl, rfl, ?_, ?_, ?_, ?_⟩) | (with_reducible refine ⟨6, _, _, _, _, get6, rfl, rfl, ?_, ?_, ?_, ?_⟩) | (with_reducible refine ⟨7, _, _, _, _, get7, rfl, rfl, ?_, ?_, ?_, ?_⟩)); (kernel_rfl); (simp [Value.cells]); (rfl); (clear st; intro w st))); (try simp only [nsl, Value.cells, unB] at st); (try clear hc); have hc := st.facts; (try simp only [nfl, nft, Nat.reduceAdd] at hc))
        (try simp only [Exit.inBlock, Exit.then])
        refine bodyPost_cell2 rfl rfl (st.blk (i := 2) get2) Try.underlying41 rfl (by kernel_rfl) rfl ?_
        have st2 := st.keep [0, 1] (by decide) (by simp)
        exact ⟨rfl, by simpa [pick] using st2⟩
  · rcases hcw with rfl | rfl
    · skip
      go_wp2_with ((first
            | ((with_reducible refine wl_alloc ?_ (fun K hK => ?_)); rfl; refine owp_alloc (o := ⟨some 4, _, _, _, _, _⟩) rfl st ?_; apply Exists.intro; apply Exists.intro; refine ⟨?_, ?_⟩; (focus (first | (go_simp; done) | (go_simp; rfl))); (clear st; intro b4 w hb st; clear hb))
            | ((with_reducible refine wl_alloc ?_ (fun K hK => ?_)); rfl; refine owp_alloc (o := ⟨some 7, _, _, _, _, _⟩) rfl st ?_; apply Exists.intro; apply Exists.intro; refine ⟨?_, ?_⟩; (focus (first | (go_simp; done) | (go_simp; rfl))); (clear st; intro b7 w hb st; clear hb))
            | ((with_reducible refine wl_store ?_ (fun K hK => ?_)); rfl; refine owp_store rfl st ?_; apply Exists.intro; apply Exists.intro; refine ⟨?_, ?_, ?_⟩; (focus (go_simp; try rfl)); (focus (go_simp; try rfl)); (first | (with_reducible refine ⟨0, _, _, _, _, get0, rfl, rfl, ?_, ?_, ?_, ?_⟩) | (with_reducible refine ⟨1, _, _, _, _, get1, rfl, rfl, ?_, ?_, ?_, ?_⟩) | (with_reducible refine ⟨2, _, _, _, _, get2, rfl, rfl, ?_, ?_, ?_, ?_⟩) | (with_reducible refine ⟨3, _, _, _, _, get3, rfl, rfl, ?_, ?_, ?_, ?_⟩) | (with_reducible refine ⟨4, _, _, _, _, get4, rfl, rfl, ?_, ?_, ?_, ?_⟩) | (with_reducible refine ⟨5, _, _, _, _, get5, rfl, rfl, ?_, ?_, ?_, ?_⟩) | (with_reducible refine ⟨6, _, _, _, _, get6, rfl, rfl, ?_, ?_, ?_, ?_⟩) | (with_reducible refine ⟨7, _, _, _, _, get7, rfl, rfl, ?_, ?_, ?_, ?_⟩)); (kernel_rfl); (simp [Value.cells]); (rfl); (clear st; intro w st))); (try simp only [nsl, Value.cells, unB] at st); (try clear hc); have hc := st.facts; (try simp only [nfl, nft, Nat.reduceAdd] at hc))
      (try simp only [Exit.inBlock, Exit.then])
      refine bodyPost_cell2 rfl rfl (st.blk (i := 2) get2) Try.underlying41 rfl (by kernel_rfl) rfl ?_
      have st2 := st.keep [0, 1] (by decide) (by simp)
      exact ⟨rfl, by simpa [pick] using st2⟩
    · cases cv with
      | false =>
        go_wp2_with ((first
              | ((with_reducible refine wl_alloc ?_ (fun K hK => ?_)); rfl; refine owp_alloc (o := ⟨some 4, _, _, _, _, _⟩) rfl st ?_; apply Exists.intro; apply Exists.intro; refine ⟨?_, ?_⟩; (focus (first | (go_simp; done) | (go_simp; rfl))); (clear st; intro b4 w hb st; clear hb))
              | ((with_reducible refine wl_alloc ?_ (fun K hK => ?_)); rfl; refine owp_alloc (o := ⟨some 7, _, _, _, _, _⟩) rfl st ?_; apply Exists.intro; apply Exists.intro; refine ⟨?_, ?_⟩; (focus (first | (go_simp; done) | (go_simp; rfl))); (clear st; intro b7 w hb st; clear hb))
              | ((with_reducible refine wl_store ?_ (fun K hK => ?_)); rfl; refine owp_store rfl st ?_; apply Exists.intro; apply Exists.intro; refine ⟨?_, ?_, ?_⟩; (focus (go_simp; try rfl)); (focus (go_simp; try rfl)); (first | (with_reducible refine ⟨0, _, _, _, _, get0, rfl, rfl, ?_, ?_, ?_, ?_⟩) | (with_reducible refine ⟨1, _, _, _, _, get1, rfl, rfl, ?_, ?_, ?_, ?_⟩) | (with_reducible refine ⟨2, _, _, _, _, get2, rfl, rfl, ?_, ?_, ?_, ?_⟩) | (with_reducible refine ⟨3, _, _, _, _, get3, rfl, rfl, ?_, ?_, ?_, ?_⟩) | (with_reducible refine ⟨4, _, _, _, _, get4, rfl, rfl, ?_, ?_, ?_, ?_⟩) | (with_reducible refine ⟨5, _, _, _, _, get5, rfl, rfl, ?_, ?_, ?_, ?_⟩) | (with_reducible refine ⟨6, _, _, _, _, get6, rfl, rfl, ?_, ?_, ?_, ?_⟩) | (with_reducible refine ⟨7, _, _, _, _, get7, rfl, rfl, ?_, ?_, ?_, ?_⟩)); (kernel_rfl); (simp [Value.cells]); (rfl); (clear st; intro w st))); (try simp only [nsl, Value.cells, unB] at st); (try clear hc); have hc := st.facts; (try simp only [nfl, nft, Nat.reduceAdd] at hc))
        (try simp only [Exit.inBlock, Exit.then])
        refine bodyPost_cell2 rfl rfl (st.blk (i := 2) get2) Try.underlying41 rfl (by kernel_rfl) rfl ?_
        have st2 := st.keep [0, 1] (by decide) (by simp)
        exact ⟨rfl, by simpa [pick] using st2⟩
      | true =>
        go_wp2_with ((first
              | ((with_reducible refine wl_alloc ?_ (fun K hK => ?_)); rfl; refine owp_alloc (o := ⟨some 4, _, _, _, _, _⟩) rfl st ?_; apply Exists.intro; apply Exists.intro; refine ⟨?_, ?_⟩; (focus (first | (go_simp; done) | (go_simp; rfl))); (clear st; intro b4 w hb st; clear hb))
              | ((with_reducible refine wl_alloc ?_ (fun K hK => ?_)); rfl; refine owp_alloc (o := ⟨some 7, _, _, _, _, _⟩) rfl st ?_; apply Exists.intro; apply Exists.intro; refine ⟨?_, ?_⟩; (focus (first | (go_simp; done) | (go_simp; rfl))); (clear st; intro b7 w hb st; clear hb))
              | ((with_reducible refine wl_store ?_ (fun K hK => ?_)); rfl; refine owp_store rfl st ?_; apply Exists.intro; apply Exists.intro; refine ⟨?_, ?_, ?_⟩; (focus (go_simp; try rfl)); (focus (go_simp; try rfl)); (first | (with_reducible refine ⟨0, _, _, _, _, get0, rfl, rfl, ?_, ?_, ?_, ?_⟩) | (with_reducible refine ⟨1, _, _, _, _, get1, rfl, rfl, ?_, ?_, ?_, ?_⟩) | (with_reducible refine ⟨2, _, _, _, _, get2, rfl, rfl, ?_, ?_, ?_, ?_⟩) | (with_reducible refine ⟨3, _, _, _, _, get3, rfl, rfl, ?_, ?_, ?_, ?_⟩) | (with_reducible refine ⟨4, _, _, _, _, get4, rfl, rfl, ?_, ?_, ?_, ?_⟩) | (with_reducible refine ⟨5, _, _, _, _, get5, rfl, rfl, ?_, ?_, ?_, ?_⟩) | (with_reducible refine ⟨6, _, _, _, _, get6, rfl, rfl, ?_, ?_, ?_, ?_⟩) | (with_reducible refine ⟨7, _, _, _, _, get7, rfl, rfl, ?_, ?_, ?_, ?_⟩)); (kernel_rfl); (simp [Value.cells]); (rfl); (clear st; intro w st))); (try simp only [nsl, Value.cells, unB] at st); (try clear hc); have hc := st.facts; (try simp only [nfl, nft, Nat.reduceAdd] at hc))
        (try simp only [Exit.inBlock, Exit.then])
        refine bodyPost_cell2 rfl rfl (st.blk (i := 2) get2) Try.underlying41 rfl (by kernel_rfl) rfl ?_
        have st2 := st.keep [0, 1] (by decide) (by simp)
        exact ⟨rfl, by simpa [pick] using st2⟩
set_option maxRecDepth 100000 in
set_option maxHeartbeats 4000000 in
theorem seqAgain_yes {fr al : Nat → Prop} {W : World} {p : Nat} {wd cl : Bool} {nx to tr tk : Int} {lf : Nat} {la : Option Addr} {ln lc : Nat} {gt : Int} {F : List UInt8} (st : Own fr al W [blkI p [.bool wd, .bool cl, .int .i64 nx, .int .i64 to, .int .i64 tr, .int .i64 (lf : Int), .int .i64 tk, .slice la ln lc, .int .i64 gt], byI la ln F] W) (hc : ln ≤ lc ∧ lc ≤ maxLen) (hn : ln ≤ 5000) (h0 : 0 < ln) (hl : 0 < lf) (hl2 : lf ≤ 1000) :
    Calls Try.prog 9 #[.pointer (some ⟨p, 0, none⟩)] W fun e w' => ∃ a' c', e = .returned (.tuple #[.slice a' F.length c', .bool true]) ∧ (F.length ≤ c' ∧ c' ≤ maxLen) ∧ Own fr al W [blkI p [.bool wd, .bool cl, .int .i64 nx, .int .i64 to, .int .i64 tr, .int .i64 ((lf : Int) - 1), .int .i64 0, .slice la ln lc, .int .i64 gt], byI la ln F, byI a' F.length F] w' := by
  have HC := Lib.hid hc
  clear hc
  have h0i : ((ln : Int) == 0) = false := by simp; omega
  have hli : ¬ (lf : Int) ≤ 0 := by omega
  have z1 : IntKind.i64.wrap ((lf : Int) - 1) = (lf : Int) - 1 := IntWalk.i64_in _ ⟨by omega, by omega⟩
  (try simp only [nsl, Value.cells, unB] at st)
  (try clear hc); have hc := st.facts; (try simp only [nfl, nft, Nat.reduceAdd] at hc)
  go_enter Try.func9, Try.ntmps9
  go_wp2_with ((((with_reducible refine wl_store ?_ (fun K hK => ?_)); rfl; refine owp_store rfl st ?_; apply Exists.intro; apply Exists.intro; refine ⟨?_, ?_, ?_⟩; (focus (go_simp; try rfl)); (focus (go_simp; try rfl)); (first | (with_reducible refine ⟨0, _, _, _, _, get0, rfl, rfl, ?_, ?_, ?_, ?_⟩) | (with_reducible refine ⟨1, _, _, _, _, get1, rfl, rfl, ?_, ?_, ?_, ?_⟩) | (with_reducible refine ⟨2, _, _, _, _, get2, rfl, rfl, ?_, ?_, ?_, ?_⟩) | (with_reducible refine ⟨3, _, _, _, _, get3, rfl, rfl, ?_, ?_, ?_, ?_⟩) | (with_reducible refine ⟨4, _, _, _, _, get4, rfl, rfl, ?_, ?_, ?_, ?_⟩) | (with_reducible refine ⟨5, _, _, _, _, get5, rfl, rfl, ?_, ?_, ?_, ?_⟩) | (with_reducible refine ⟨6, _, _, _, _, get6, rfl, rfl, ?_, ?_, ?_, ?_⟩) | (with_reducible refine ⟨7, _, _, _, _, get7, rfl, rfl, ?_, ?_, ?_, ?_⟩)); (kernel_rfl); (simp [Value.cells]); (rfl); (clear st; intro w st))); (try simp only [nsl, Value.cells, unB] at st); (try clear hc); have hc := st.facts; (try simp only [nfl, nft, Nat.reduceAdd] at hc))
  obtain ⟨fr', al', st', back⟩ := st.sub [0, 1] (by decide) (by simp)
  (try simp only [nsl, Value.cells, unB] at st')
  refine (seqLast_c st' HC.out hn).mono ?_
  clear st'
  rintro en w ⟨a', c', rfl, hq, st'⟩
  replace st := back _ _ (by simp) st'
  clear back st'
  (try simp only [nsl, Value.cells, unB] at st)
  (try clear hc); have hc := st.facts; (try simp only [nfl, nft, Nat.reduceAdd] at hc)
  have HQ := Lib.hid hq
  clear hq
  go_wp2_with ((((with_reducible refine wl_store ?_ (fun K hK => ?_)); rfl; refine owp_store rfl st ?_; apply Exists.intro; apply Exists.intro; refine ⟨?_, ?_, ?_⟩; (focus (go_simp; try rfl)); (focus (go_simp; try rfl)); (first | (with_reducible refine ⟨0, _, _, _, _, get0, rfl, rfl, ?_, ?_, ?_, ?_⟩) | (with_reducible refine ⟨1, _, _, _, _, get1, rfl, rfl, ?_, ?_, ?_, ?_⟩) | (with_reducible refine ⟨2, _, _, _, _, get2, rfl, rfl, ?_, ?_, ?_, ?_⟩) | (with_reducible refine ⟨3, _, _, _, _, get3, rfl, rfl, ?_, ?_, ?_, ?_⟩) | (with_reducible refine ⟨4, _, _, _, _, get4, rfl, rfl, ?_, ?_, ?_, ?_⟩) | (with_reducible refine ⟨5, _, _, _, _, get5, rfl, rfl, ?_, ?_, ?_, ?_⟩) | (with_reducible refine ⟨6, _, _, _, _, get6, rfl, rfl, ?_, ?_, ?_, ?_⟩) | (with_reducible refine ⟨7, _, _, _, _, get7, rfl, rfl, ?_, ?_, ?_, ?_⟩)); (kernel_rfl); (simp [Value.cells]); (rfl); (clear st; intro w st))); (try simp only [nsl, Value.cells, unB] at st); (try clear hc); have hc := st.facts; (try simp only [nfl, nft, Nat.reduceAdd] at hc))
  go_ret2
  exact ⟨_, _, rfl, HQ.out, st⟩
set_option maxRecDepth 100000 in
set_option maxHeartbeats 2000000 in
theorem seqAgain_no {fr al : Nat → Prop} {W : World} {p : Nat} {wd cl : Bool} {nx to tr tk : Int} {lf : Nat} {la : Option Addr} {ln lc : Nat} {gt : Int} {F : List UInt8} (st : Own fr al W [blkI p [.bool wd, .bool cl, .int .i64 nx, .int .i64 to, .int .i64 tr, .int .i64 (lf : Int), .int .i64 tk, .slice la ln lc, .int .i64 gt], byI la ln F] W) (h : ln = 0 ∨ lf = 0) :
    Calls Try.prog 9 #[.pointer (some ⟨p, 0, none⟩)] W fun e w' => e = .returned (.tuple #[.slice none 0 0, .bool false]) ∧ Own fr al W [blkI p [.bool wd, .bool cl, .int .i64 nx, .int .i64 to, .int .i64 tr, .int .i64 (lf : Int), .int .i64 tk, .slice la ln lc, .int .i64 gt], byI la ln F] w' := by
  by_cases h0 : ln = 0
  · subst h0
    clear h
    (try simp only [nsl, Value.cells, unB] at st)
    (try clear hc); have hc := st.facts; (try simp only [nfl, nft, Nat.reduceAdd] at hc)
    go_enter Try.func9, Try.ntmps9
    go_wp2_with ((((with_reducible refine wl_store ?_ (fun K hK => ?_)); rfl; refine owp_store rfl st ?_; apply Exists.intro; apply Exists.intro; refine ⟨?_, ?_, ?_⟩; (focus (go_simp; try rfl)); (focus (go_simp; try rfl)); (first | (with_reducible refine ⟨0, _, _, _, _, get0, rfl, rfl, ?_, ?_, ?_, ?_⟩) | (with_reducible refine ⟨1, _, _, _, _, get1, rfl, rfl, ?_, ?_, ?_, ?_⟩) | (with_reducible refine ⟨2, _, _, _, _, get2, rfl, rfl, ?_, ?_, ?_, ?_⟩) | (with_reducible refine ⟨3, _, _, _, _, get3, rfl, rfl, ?_, ?_, ?_, ?_⟩) | (with_reducible refine ⟨4, _, _, _, _, get4, rfl, rfl, ?_, ?_, ?_, ?_⟩) | (with_reducible refine ⟨5, _, _, _, _, get5, rfl, rfl, ?_, ?_, ?_, ?_⟩) | (with_reducible refine ⟨6, _, _, _, _, get6, rfl, rfl, ?_, ?_, ?_, ?_⟩) | (with_reducible refine ⟨7, _, _, _, _, get7, rfl, rfl, ?_, ?_, ?_, ?_⟩)); (kernel_rfl); (simp [Value.cells]); (rfl); (clear st; intro w st))); (try simp only [nsl, Value.cells, unB] at st); (try clear hc); have hc := st.facts; (try simp only [nfl, nft, Nat.reduceAdd] at hc))
    go_ret2
    exact ⟨rfl, st⟩
  · obtain rfl : lf = 0 := by omega
    have h0i : ((ln : Int) == 0) = false := by simp; omega
    clear h h0
    (try simp only [nsl, Value.cells, unB] at st)
    (try clear hc); have hc := st.facts; (try simp only [nfl, nft, Nat.reduceAdd] at hc)
    go_enter Try.func9, Try.ntmps9
    go_wp2_with ((((with_reducible refine wl_store ?_ (fun K hK => ?_)); rfl; refine owp_store rfl st ?_; apply Exists.intro; apply Exists.intro; refine ⟨?_, ?_, ?_⟩; (focus (go_simp; try rfl)); (focus (go_simp; try rfl)); (first | (with_reducible refine ⟨0, _, _, _, _, get0, rfl, rfl, ?_, ?_, ?_, ?_⟩) | (with_reducible refine ⟨1, _, _, _, _, get1, rfl, rfl, ?_, ?_, ?_, ?_⟩) | (with_reducible refine ⟨2, _, _, _, _, get2, rfl, rfl, ?_, ?_, ?_, ?_⟩) | (with_reducible refine ⟨3, _, _, _, _, get3, rfl, rfl, ?_, ?_, ?_, ?_⟩) | (with_reducible refine ⟨4, _, _, _, _, get4, rfl, rfl, ?_, ?_, ?_, ?_⟩) | (with_reducible refine ⟨5, _, _, _, _, get5, rfl, rfl, ?_, ?_, ?_, ?_⟩) | (with_reducible refine ⟨6, _, _, _, _, get6, rfl, rfl, ?_, ?_, ?_, ?_⟩) | (with_reducible refine ⟨7, _, _, _, _, get7, rfl, rfl, ?_, ?_, ?_, ?_⟩)); (kernel_rfl); (simp [Value.cells]); (rfl); (clear st; intro w st))); (try simp only [nsl, Value.cells, unB] at st); (try clear hc); have hc := st.facts; (try simp only [nfl, nft, Nat.reduceAdd] at hc))
    go_ret2
    exact ⟨rfl, st⟩
set_option maxRecDepth 100000 in
set_option maxHeartbeats 2000000 in
theorem seqTick_idle {fr al : Nat → Prop} {W : World} {p : Nat} {wd : Bool} {nx to tr tk lf : Int} {la : Option Addr} {ln lc : Nat} {gt : Int} {F : List UInt8} (st : Own fr al W [blkI p [.bool wd, .bool false, .int .i64 nx, .int .i64 to, .int .i64 tr, .int .i64 lf, .int .i64 tk, .slice la ln lc, .int .i64 gt], byI la ln F] W) (h : wd = true ∨ ln = 0) :
    Calls Try.prog 10 #[.pointer (some ⟨p, 0, none⟩)] W fun e w' => e = .returned (.tuple #[.slice none 0 0, .int .i64 0]) ∧ Own fr al W [blkI p [.bool wd, .bool false, .int .i64 nx, .int .i64 to, .int .i64 tr, .int .i64 lf, .int .i64 tk, .slice la ln lc, .int .i64 gt], byI la ln F] w' := by
  cases wd with
  | true =>
    clear h
    (try simp only [nsl, Value.cells, unB] at st)
    (try clear hc); have hc := st.facts; (try simp only [nfl, nft, Nat.reduceAdd] at hc)
    go_enter Try.func10, Try.ntmps10
    go_wp2_with ((((with_reducible refine wl_store ?_ (fun K hK => ?_)); rfl; refine owp_store rfl st ?_; apply Exists.intro; apply Exists.intro; refine ⟨?_, ?_, ?_⟩; (focus (go_simp; try rfl)); (focus (go_simp; try rfl)); (first | (with_reducible refine ⟨0, _, _, _, _, get0, rfl, rfl, ?_, ?_, ?_, ?_⟩) | (with_reducible refine ⟨1, _, _, _, _, get1, rfl, rfl, ?_, ?_, ?_, ?_⟩) | (with_reducible refine ⟨2, _, _, _, _, get2, rfl, rfl, ?_, ?_, ?_, ?_⟩) | (with_reducible refine ⟨3, _, _, _, _, get3, rfl, rfl, ?_, ?_, ?_, ?_⟩) | (with_reducible refine ⟨4, _, _, _, _, get4, rfl, rfl, ?_, ?_, ?_, ?_⟩) | (with_reducible refine ⟨5, _, _, _, _, get5, rfl, rfl, ?_, ?_, ?_, ?_⟩) | (with_reducible refine ⟨6, _, _, _, _, get6, rfl, rfl, ?_, ?_, ?_, ?_⟩) | (with_reducible refine ⟨7, _, _, _, _, get7, rfl, rfl, ?_, ?_, ?_, ?_⟩)); (kernel_rfl); (simp [Value.cells]); (rfl); (clear st; intro w st))); (try simp only [nsl, Value.cells, unB] at st); (try clear hc); have hc := st.facts; (try simp only [nfl, nft, Nat.reduceAdd] at hc))
    go_ret2
    exact ⟨rfl, st⟩
  | false =>
    obtain rfl : ln = 0 := h.elim (fun q => by cases q) id
    clear h
    (try simp only [nsl, Value.cells, unB] at st)
    (try clear hc); have hc := st.facts; (try simp only [nfl, nft, Nat.reduceAdd] at hc)
    go_enter Try.func10, Try.ntmps10
    go_wp2_with ((((with_reducible refine wl_store ?_ (fun K hK => ?_)); rfl; refine owp_store rfl st ?_; apply Exists.intro; apply Exists.intro; refine ⟨?_, ?_, ?_⟩; (focus (go_simp; try rfl)); (focus (go_simp; try rfl)); (first | (with_reducible refine ⟨0, _, _, _, _, get0, rfl, rfl, ?_, ?_, ?_, ?_⟩) | (with_reducible refine ⟨1, _, _, _, _, get1, rfl, rfl, ?_, ?_, ?_, ?_⟩) | (with_reducible refine ⟨2, _, _, _, _, get2, rfl, rfl, ?_, ?_, ?_, ?_⟩) | (with_reducible refine ⟨3, _, _, _, _, get3, rfl, rfl, ?_, ?_, ?_, ?_⟩) | (with_reducible refine ⟨4, _, _, _, _, get4, rfl, rfl, ?_, ?_, ?_, ?_⟩) | (with_reducible refine ⟨5, _, _, _, _, get5, rfl, rfl, ?_, ?_, ?_, ?_⟩) | (with_reducible refine ⟨6, _, _, _, _, get6, rfl, rfl, ?_, ?_, ?_, ?_⟩) | (with_reducible refine ⟨7, _, _, _, _, get7, rfl, rfl, ?_, ?_, ?_, ?_⟩)); (kernel_rfl); (simp [Value.cells]); (rfl); (clear st; intro w st))); (try simp only [nsl, Value.cells, unB] at st); (try clear hc); have hc := st.facts; (try simp only [nfl, nft, Nat.reduceAdd] at hc))
    go_ret2
    exact ⟨rfl, st⟩
set_option maxRecDepth 100000 in
set_option maxHeartbeats 4000000 in
theorem seqTick_wait {fr al : Nat → Prop} {W : World} {p : Nat} {nx tr lf : Int} {to tk : Nat} {la : Option Addr} {ln lc : Nat} {gt : Int} {F : List UInt8} (st : Own fr al W [blkI p [.bool false, .bool false, .int .i64 nx, .int .i64 (to : Int), .int .i64 tr, .int .i64 lf, .int .i64 (tk : Int), .slice la ln lc, .int .i64 gt], byI la ln F] W) (h0 : 0 < ln) (ht : tk + 1 < to) (hto : to ≤ 1000) :
    Calls Try.prog 10 #[.pointer (some ⟨p, 0, none⟩)] W fun e w' => e = .returned (.tuple #[.slice none 0 0, .int .i64 0]) ∧ Own fr al W [blkI p [.bool false, .bool false, .int .i64 nx, .int .i64 (to : Int), .int .i64 tr, .int .i64 lf, .int .i64 ((tk : Int) + 1), .slice la ln lc, .int .i64 gt], byI la ln F] w' := by
  have hmi : min ((tk : Int) + 1) (to : Int) = (tk : Int) + 1 := by omega
  have hlt : (tk : Int) + 1 < (to : Int) := by omega
  have h0i : ((ln : Int) == 0) = false := by simp; omega
  have z1 : IntKind.i64.wrap ((tk : Int) + 1) = (tk : Int) + 1 := IntWalk.i64_in _ ⟨by omega, by omega⟩
  (try simp only [nsl, Value.cells, unB] at st)
  (try clear hc); have hc := st.facts; (try simp only [nfl, nft, Nat.reduceAdd] at hc)
  go_enter Try.func10, Try.ntmps10
  go_wp2_with ((((with_reducible refine wl_store ?_ (fun K hK => ?_)); rfl; refine owp_store rfl st ?_; apply Exists.intro; apply Exists.intro; refine ⟨?_, ?_, ?_⟩; (focus (go_simp; try rfl)); (focus (go_simp; try rfl)); (first | (with_reducible refine ⟨0, _, _, _, _, get0, rfl, rfl, ?_, ?_, ?_, ?_⟩) | (with_reducible refine ⟨1, _, _, _, _, get1, rfl, rfl, ?_, ?_, ?_, ?_⟩) | (with_reducible refine ⟨2, _, _, _, _, get2, rfl, rfl, ?_, ?_, ?_, ?_⟩) | (with_reducible refine ⟨3, _, _, _, _, get3, rfl, rfl, ?_, ?_, ?_, ?_⟩) | (with_reducible refine ⟨4, _, _, _, _, get4, rfl, rfl, ?_, ?_, ?_, ?_⟩) | (with_reducible refine ⟨5, _, _, _, _, get5, rfl, rfl, ?_, ?_, ?_, ?_⟩) | (with_reducible refine ⟨6, _, _, _, _, get6, rfl, rfl, ?_, ?_, ?_, ?_⟩) | (with_reducible refine ⟨7, _, _, _, _, get7, rfl, rfl, ?_, ?_, ?_, ?_⟩)); (kernel_rfl); (simp [Value.cells]); (rfl); (clear st; intro w st))); (try simp only [nsl, Value.cells, unB] at st); (try clear hc); have hc := st.facts; (try simp only [nfl, nft, Nat.reduceAdd] at hc))
  refine Rg4.wp_region4_eq #[0, 0, 2, 6, 14, 30, 0, 64, 192, 448, 1022, 2047, 4095, 8191] [13] [4, 9] (fun _ => True) [0, 1, 2, 3, 4, 5, 6, 7, 8, 9, 10, 11, 12, 13] (by kernel_rfl) (by kernel_rfl) (by kernel_rfl) (by kernel_rfl) (show Rg4.PB _ by repeat (first | with_reducible exact Rg4.pb_body | with_reducible exact Rg4.pb_bodyD rfl | with_reducible refine Rg4.pb_then ?_ | with_reducible refine Rg4.pb_inBlock ?_ | with_reducible refine Rg4.pb_noGoto ?_ | with_reducible assumption)) (trivial) ?_
  replace st := st.drew
  change Rg4.wp4 _ _ _ _ _ _ _ _ _ (World.drew _) _ _
  generalize World.drew _ = w at st ⊢
  (try clear hc); have hc := st.facts; (try simp only [nfl, nft, Nat.reduceAdd] at hc)
  iterate 4 (refine Rg4.w4_any (Rg4.want_none rfl) rfl ?_; apply Exists.intro; refine ⟨fun w' => ?_, ?_⟩; (focus (first | (go_simp; done) | (go_simp; first | rfl | (rw [if_neg] <;> first | rfl | omega) | (rw [if_pos] <;> first | rfl | omega)))); (try simp only [Rg4.nrm]))
  (refine Rg4.w4_read (Rg4.want_none rfl) rfl rfl ?_; apply Exists.intro; refine ⟨fun w' hw' hcl' => ?_, ?_⟩; focus (subst hw'; (focus (first | (go_simp; done) | (go_simp; first | rfl | (rw [if_neg] <;> first | rfl | omega) | (rw [if_pos] <;> first | rfl | omega))))); (try simp only [Rg4.nrm]))
  iterate 4 (refine Rg4.w4_any (Rg4.want_none rfl) rfl ?_; apply Exists.intro; refine ⟨fun w' => ?_, ?_⟩; (focus (first | (go_simp; done) | (go_simp; first | rfl | (rw [if_neg] <;> first | rfl | omega) | (rw [if_pos] <;> first | rfl | omega)))); (try simp only [Rg4.nrm]))
  (refine Rg4.w4_read (Rg4.want_none rfl) rfl rfl ?_; apply Exists.intro; refine ⟨fun w' hw' hcl' => ?_, ?_⟩; focus (subst hw'; (focus (first | (go_simp; done) | (go_simp; first | rfl | (rw [if_neg] <;> first | rfl | omega) | (rw [if_pos] <;> first | rfl | omega))))); (try simp only [Rg4.nrm]))
  iterate 3 (refine Rg4.w4_any (Rg4.want_none rfl) rfl ?_; apply Exists.intro; refine ⟨fun w' => ?_, ?_⟩; (focus (first | (go_simp; done) | (go_simp; first | rfl | (rw [if_neg] <;> first | rfl | omega) | (rw [if_pos] <;> first | rfl | omega)))); (try simp only [Rg4.nrm]))
  (refine Rg4.w4_bar (Rg4.want_none rfl) rfl (fun w' hw' hcl' _ K hK => ?_); subst hw'; (refine owp_store rfl st ?_; apply Exists.intro; apply Exists.intro; refine ⟨?_, ?_, ?_⟩; (focus (go_simp; try rfl)); (focus (go_simp; try rfl)); (first | (with_reducible refine ⟨0, _, _, _, _, get0, rfl, rfl, ?_, ?_, ?_, ?_⟩) | (with_reducible refine ⟨1, _, _, _, _, get1, rfl, rfl, ?_, ?_, ?_, ?_⟩) | (with_reducible refine ⟨2, _, _, _, _, get2, rfl, rfl, ?_, ?_, ?_, ?_⟩) | (with_reducible refine ⟨3, _, _, _, _, get3, rfl, rfl, ?_, ?_, ?_, ?_⟩) | (with_reducible refine ⟨4, _, _, _, _, get4, rfl, rfl, ?_, ?_, ?_, ?_⟩) | (with_reducible refine ⟨5, _, _, _, _, get5, rfl, rfl, ?_, ?_, ?_, ?_⟩) | (with_reducible refine ⟨6, _, _, _, _, get6, rfl, rfl, ?_, ?_, ?_, ?_⟩) | (with_reducible refine ⟨7, _, _, _, _, get7, rfl, rfl, ?_, ?_, ?_, ?_⟩)); (kernel_rfl); (simp [Value.cells]); (rfl); (clear st; intro w st); (try simp only [nsl, Value.cells, unB] at st); (try clear hc); have hc := st.facts; (try simp only [nfl, nft, Nat.reduceAdd] at hc)); refine hK _ _ ⟨trivial, ?_⟩; (try simp only [Rg4.nrm]))
  refine Rg4.w4_nil (fun w' hw' hcl' _ => ?_); subst hw'; clear hcl'
  go_wp2_with fail
  refine Rg4.wp_region4_eq #[0, 1, 3, 7, 0, 16, 48, 112, 255] [] [3, 7] (fun _ => True) [0, 1, 2, 3, 4, 5, 6, 7, 8] (by kernel_rfl) (by kernel_rfl) (by kernel_rfl) (by kernel_rfl) (show Rg4.PB _ by repeat (first | with_reducible exact Rg4.pb_body | with_reducible exact Rg4.pb_bodyD rfl | with_reducible refine Rg4.pb_then ?_ | with_reducible refine Rg4.pb_inBlock ?_ | with_reducible refine Rg4.pb_noGoto ?_ | with_reducible assumption)) (trivial) ?_
  replace st := st.drew
  change Rg4.wp4 _ _ _ _ _ _ _ _ _ (World.drew _) _ _
  generalize World.drew _ = w at st ⊢
  (try clear hc); have hc := st.facts; (try simp only [nfl, nft, Nat.reduceAdd] at hc)
  iterate 3 (refine Rg4.w4_any (Rg4.want_none rfl) rfl ?_; apply Exists.intro; refine ⟨fun w' => ?_, ?_⟩; (focus (first | (go_simp; done) | (go_simp; first | rfl | (rw [if_neg] <;> first | rfl | omega) | (rw [if_pos] <;> first | rfl | omega)))); (try simp only [Rg4.nrm]))
  (refine Rg4.w4_read (Rg4.want_none rfl) rfl rfl ?_; apply Exists.intro; refine ⟨fun w' hw' hcl' => ?_, ?_⟩; focus (subst hw'; (focus (first | (go_simp; done) | (go_simp; first | rfl | (rw [if_neg] <;> first | rfl | omega) | (rw [if_pos] <;> first | rfl | omega))))); (try simp only [Rg4.nrm]))
  iterate 3 (refine Rg4.w4_any (Rg4.want_none rfl) rfl ?_; apply Exists.intro; refine ⟨fun w' => ?_, ?_⟩; (focus (first | (go_simp; done) | (go_simp; first | rfl | (rw [if_neg] <;> first | rfl | omega) | (rw [if_pos] <;> first | rfl | omega)))); (try simp only [Rg4.nrm]))
  (refine Rg4.w4_read (Rg4.want_none rfl) rfl rfl ?_; apply Exists.intro; refine ⟨fun w' hw' hcl' => ?_, ?_⟩; focus (subst hw'; (focus (first | (go_simp; done) | (go_simp; first | rfl | (rw [if_neg] <;> first | rfl | omega) | (rw [if_pos] <;> first | rfl | omega))))); (try simp only [Rg4.nrm]))
  (refine Rg4.w4_any (Rg4.want_none rfl) rfl ?_; apply Exists.intro; refine ⟨fun w' => ?_, ?_⟩; (focus (first | (go_simp; done) | (go_simp; first | rfl | (rw [if_neg] <;> first | rfl | omega) | (rw [if_pos] <;> first | rfl | omega)))); (try simp only [Rg4.nrm]))
  refine Rg4.w4_nil (fun w' hw' hcl' _ => ?_); subst hw'; clear hcl'
  go_wp2_with fail
  go_ret2
  exact ⟨rfl, st⟩
set_option maxRecDepth 100000 in
set_option maxHeartbeats 4000000 in
theorem seqTick_again {fr al : Nat → Prop} {W : World} {p : Nat} {nx tr : Int} {to tk lf : Nat} {la : Option Addr} {ln lc : Nat} {gt : Int} {F : List UInt8} (st : Own fr al W [blkI p [.bool false, .bool false, .int .i64 nx, .int .i64 (to : Int), .int .i64 tr, .int .i64 (lf : Int), .int .i64 (tk : Int), .slice la ln lc, .int .i64 gt], byI la ln F] W) (hc : ln ≤ lc ∧ lc ≤ maxLen) (hn : ln ≤ 5000) (h0 : 0 < ln) (ht : to ≤ tk + 1) (hto : to ≤ 1000) (htk : tk ≤ 1000) (hl : 0 < lf) (hl2 : lf ≤ 1000) :
    Calls Try.prog 10 #[.pointer (some ⟨p, 0, none⟩)] W fun e w' => ∃ a' c', e = .returned (.tuple #[.slice a' F.length c', .int .i64 0]) ∧ (F.length ≤ c' ∧ c' ≤ maxLen) ∧ Own fr al W [blkI p [.bool false, .bool false, .int .i64 nx, .int .i64 (to : Int), .int .i64 tr, .int .i64 ((lf : Int) - 1), .int .i64 0, .slice la ln lc, .int .i64 gt], byI la ln F, byI a' F.length F] w' := by
  have HC := Lib.hid hc
  clear hc
  have hmi : min ((tk : Int) + 1) (to : Int) = (to : Int) := by omega
  have hlt : ¬ (to : Int) < (to : Int) := by omega
  have h0i : ((ln : Int) == 0) = false := by simp; omega
  have z1 : IntKind.i64.wrap ((tk : Int) + 1) = (tk : Int) + 1 := IntWalk.i64_in _ ⟨by omega, by omega⟩
  (try simp only [nsl, Value.cells, unB] at st)
  (try clear hc); have hc := st.facts; (try simp only [nfl, nft, Nat.reduceAdd] at hc)
  go_enter Try.func10, Try.ntmps10
  go_wp2_with ((((with_reducible refine wl_store ?_ (fun K hK => ?_)); rfl; refine owp_store rfl st ?_; apply Exists.intro; apply Exists.intro; refine ⟨?_, ?_, ?_⟩; (focus (go_simp; try rfl)); (focus (go_simp; try rfl)); (first | (with_reducible refine ⟨0, _, _, _, _, get0, rfl, rfl, ?_, ?_, ?_, ?_⟩) | (with_reducible refine ⟨1, _, _, _, _, get1, rfl, rfl, ?_, ?_, ?_, ?_⟩) | (with_reducible refine ⟨2, _, _, _, _, get2, rfl, rfl, ?_, ?_, ?_, ?_⟩) | (with_reducible refine ⟨3, _, _, _, _, get3, rfl, rfl, ?_, ?_, ?_, ?_⟩) | (with_reducible refine ⟨4, _, _, _, _, get4, rfl, rfl, ?_, ?_, ?_, ?_⟩) | (with_reducible refine ⟨5, _, _, _, _, get5, rfl, rfl, ?_, ?_, ?_, ?_⟩) | (with_reducible refine ⟨6, _, _, _, _, get6, rfl, rfl, ?_, ?_, ?_, ?_⟩) | (with_reducible refine ⟨7, _, _, _, _, get7, rfl, rfl, ?_, ?_, ?_, ?_⟩)); (kernel_rfl); (simp [Value.cells]); (rfl); (clear st; intro w st))); (try simp only [nsl, Value.cells, unB] at st); (try clear hc); have hc := st.facts; (try simp only [nfl, nft, Nat.reduceAdd] at hc))
  refine Rg4.wp_region4_eq #[0, 0, 2, 6, 14, 30, 0, 64, 192, 448, 1022, 2047, 4095, 8191] [13] [4, 9] (fun _ => True) [0, 1, 2, 3, 4, 5, 6, 7, 8, 9, 10, 11, 12, 13] (by kernel_rfl) (by kernel_rfl) (by kernel_rfl) (by kernel_rfl) (show Rg4.PB _ by repeat (first | with_reducible exact Rg4.pb_body | with_reducible exact Rg4.pb_bodyD rfl | with_reducible refine Rg4.pb_then ?_ | with_reducible refine Rg4.pb_inBlock ?_ | with_reducible refine Rg4.pb_noGoto ?_ | with_reducible assumption)) (trivial) ?_
  replace st := st.drew
  change Rg4.wp4 _ _ _ _ _ _ _ _ _ (World.drew _) _ _
  generalize World.drew _ = w at st ⊢
  (try clear hc); have hc := st.facts; (try simp only [nfl, nft, Nat.reduceAdd] at hc)
  iterate 4 (refine Rg4.w4_any (Rg4.want_none rfl) rfl ?_; apply Exists.intro; refine ⟨fun w' => ?_, ?_⟩; (focus (first | (go_simp; done) | (go_simp; first | rfl | (rw [if_neg] <;> first | rfl | omega) | (rw [if_pos] <;> first | rfl | omega)))); (try simp only [Rg4.nrm]))
  (refine Rg4.w4_read (Rg4.want_none rfl) rfl rfl ?_; apply Exists.intro; refine ⟨fun w' hw' hcl' => ?_, ?_⟩; focus (subst hw'; (focus (first | (go_simp; done) | (go_simp; first | rfl | (rw [if_neg] <;> first | rfl | omega) | (rw [if_pos] <;> first | rfl | omega))))); (try simp only [Rg4.nrm]))
  iterate 4 (refine Rg4.w4_any (Rg4.want_none rfl) rfl ?_; apply Exists.intro; refine ⟨fun w' => ?_, ?_⟩; (focus (first | (go_simp; done) | (go_simp; first | rfl | (rw [if_neg] <;> first | rfl | omega) | (rw [if_pos] <;> first | rfl | omega)))); (try simp only [Rg4.nrm]))
  (refine Rg4.w4_read (Rg4.want_none rfl) rfl rfl ?_; apply Exists.intro; refine ⟨fun w' hw' hcl' => ?_, ?_⟩; focus (subst hw'; (focus (first | (go_simp; done) | (go_simp; first | rfl | (rw [if_neg] <;> first | rfl | omega) | (rw [if_pos] <;> first | rfl | omega))))); (try simp only [Rg4.nrm]))
  iterate 3 (refine Rg4.w4_any (Rg4.want_none rfl) rfl ?_; apply Exists.intro; refine ⟨fun w' => ?_, ?_⟩; (focus (first | (go_simp; done) | (go_simp; first | rfl | (rw [if_neg] <;> first | rfl | omega) | (rw [if_pos] <;> first | rfl | omega)))); (try simp only [Rg4.nrm]))
  (refine Rg4.w4_bar (Rg4.want_none rfl) rfl (fun w' hw' hcl' _ K hK => ?_); subst hw'; (refine owp_store rfl st ?_; apply Exists.intro; apply Exists.intro; refine ⟨?_, ?_, ?_⟩; (focus (go_simp; try rfl)); (focus (go_simp; try rfl)); (first | (with_reducible refine ⟨0, _, _, _, _, get0, rfl, rfl, ?_, ?_, ?_, ?_⟩) | (with_reducible refine ⟨1, _, _, _, _, get1, rfl, rfl, ?_, ?_, ?_, ?_⟩) | (with_reducible refine ⟨2, _, _, _, _, get2, rfl, rfl, ?_, ?_, ?_, ?_⟩) | (with_reducible refine ⟨3, _, _, _, _, get3, rfl, rfl, ?_, ?_, ?_, ?_⟩) | (with_reducible refine ⟨4, _, _, _, _, get4, rfl, rfl, ?_, ?_, ?_, ?_⟩) | (with_reducible refine ⟨5, _, _, _, _, get5, rfl, rfl, ?_, ?_, ?_, ?_⟩) | (with_reducible refine ⟨6, _, _, _, _, get6, rfl, rfl, ?_, ?_, ?_, ?_⟩) | (with_reducible refine ⟨7, _, _, _, _, get7, rfl, rfl, ?_, ?_, ?_, ?_⟩)); (kernel_rfl); (simp [Value.cells]); (rfl); (clear st; intro w st); (try simp only [nsl, Value.cells, unB] at st); (try clear hc); have hc := st.facts; (try simp only [nfl, nft, Nat.reduceAdd] at hc)); refine hK _ _ ⟨trivial, ?_⟩; (try simp only [Rg4.nrm]))
  refine Rg4.w4_nil (fun w' hw' hcl' _ => ?_); subst hw'; clear hcl'
  go_wp2_with fail
  refine Rg4.wp_region4_eq #[0, 1, 3, 7, 0, 16, 48, 112, 255] [] [3, 7] (fun _ => True) [0, 1, 2, 3, 4, 5, 6, 7, 8] (by kernel_rfl) (by kernel_rfl) (by kernel_rfl) (by kernel_rfl) (show Rg4.PB _ by repeat (first | with_reducible exact Rg4.pb_body | with_reducible exact Rg4.pb_bodyD rfl | with_reducible refine Rg4.pb_then ?_ | with_reducible refine Rg4.pb_inBlock ?_ | with_reducible refine Rg4.pb_noGoto ?_ | with_reducible assumption)) (trivial) ?_
  replace st := st.drew
  change Rg4.wp4 _ _ _ _ _ _ _ _ _ (World.drew _) _ _
  generalize World.drew _ = w at st ⊢
  (try clear hc); have hc := st.facts; (try simp only [nfl, nft, Nat.reduceAdd] at hc)
  iterate 3 (refine Rg4.w4_any (Rg4.want_none rfl) rfl ?_; apply Exists.intro; refine ⟨fun w' => ?_, ?_⟩; (focus (first | (go_simp; done) | (go_simp; first | rfl | (rw [if_neg] <;> first | rfl | omega) | (rw [if_pos] <;> first | rfl | omega)))); (try simp only [Rg4.nrm]))
  (refine Rg4.w4_read (Rg4.want_none rfl) rfl rfl ?_; apply Exists.intro; refine ⟨fun w' hw' hcl' => ?_, ?_⟩; focus (subst hw'; (focus (first | (go_simp; done) | (go_simp; first | rfl | (rw [if_neg] <;> first | rfl | omega) | (rw [if_pos] <;> first | rfl | omega))))); (try simp only [Rg4.nrm]))
  iterate 3 (refine Rg4.w4_any (Rg4.want_none rfl) rfl ?_; apply Exists.intro; refine ⟨fun w' => ?_, ?_⟩; (focus (first | (go_simp; done) | (go_simp; first | rfl | (rw [if_neg] <;> first | rfl | omega) | (rw [if_pos] <;> first | rfl | omega)))); (try simp only [Rg4.nrm]))
  (refine Rg4.w4_read (Rg4.want_none rfl) rfl rfl ?_; apply Exists.intro; refine ⟨fun w' hw' hcl' => ?_, ?_⟩; focus (subst hw'; (focus (first | (go_simp; done) | (go_simp; first | rfl | (rw [if_neg] <;> first | rfl | omega) | (rw [if_pos] <;> first | rfl | omega))))); (try simp only [Rg4.nrm]))
  (refine Rg4.w4_any (Rg4.want_none rfl) rfl ?_; apply Exists.intro; refine ⟨fun w' => ?_, ?_⟩; (focus (first | (go_simp; done) | (go_simp; first | rfl | (rw [if_neg] <;> first | rfl | omega) | (rw [if_pos] <;> first | rfl | omega)))); (try simp only [Rg4.nrm]))
  refine Rg4.w4_nil (fun w' hw' hcl' _ => ?_); subst hw'; clear hcl'
  go_wp2_with fail
  obtain ⟨fr', al', st', back⟩ := st.sub [0, 1] (by decide) (by simp)
  (try simp only [nsl, Value.cells, unB] at st')
  refine (seqAgain_yes st' HC.out hn h0 hl hl2).mono ?_
  clear st'
  rintro en w ⟨a', c', rfl, hq, st'⟩
  replace st := back _ _ (by simp) st'
  clear back st'
  (try simp only [nsl, Value.cells, unB] at st)
  (try clear hc); have hc := st.facts; (try simp only [nfl, nft, Nat.reduceAdd] at hc)
  have HQ := Lib.hid hq
  clear hq
  go_wp2_with ((((with_reducible refine wl_store ?_ (fun K hK => ?_)); rfl; refine owp_store rfl st ?_; apply Exists.intro; apply Exists.intro; refine ⟨?_, ?_, ?_⟩; (focus (go_simp; try rfl)); (focus (go_simp; try rfl)); (first | (with_reducible refine ⟨0, _, _, _, _, get0, rfl, rfl, ?_, ?_, ?_, ?_⟩) | (with_reducible refine ⟨1, _, _, _, _, get1, rfl, rfl, ?_, ?_, ?_, ?_⟩) | (with_reducible refine ⟨2, _, _, _, _, get2, rfl, rfl, ?_, ?_, ?_, ?_⟩) | (with_reducible refine ⟨3, _, _, _, _, get3, rfl, rfl, ?_, ?_, ?_, ?_⟩) | (with_reducible refine ⟨4, _, _, _, _, get4, rfl, rfl, ?_, ?_, ?_, ?_⟩) | (with_reducible refine ⟨5, _, _, _, _, get5, rfl, rfl, ?_, ?_, ?_, ?_⟩) | (with_reducible refine ⟨6, _, _, _, _, get6, rfl, rfl, ?_, ?_, ?_, ?_⟩) | (with_reducible refine ⟨7, _, _, _, _, get7, rfl, rfl, ?_, ?_, ?_, ?_⟩)); (kernel_rfl); (simp [Value.cells]); (rfl); (clear st; intro w st))); (try simp only [nsl, Value.cells, unB] at st); (try clear hc); have hc := st.facts; (try simp only [nfl, nft, Nat.reduceAdd] at hc))
  go_ret2
  exact ⟨_, _, rfl, HQ.out, st⟩
set_option maxRecDepth 100000 in
set_option maxHeartbeats 4000000 in
theorem seqTick_fail {fr al : Nat → Prop} {W : World} {p : Nat} {nx tr : Int} {to tk : Nat} {la : Option Addr} {ln lc : Nat} {gt : Int} {F : List UInt8} (st : Own fr al W [blkI p [.bool false, .bool false, .int .i64 nx, .int .i64 (to : Int), .int .i64 tr, .int .i64 0, .int .i64 (tk : Int), .slice la ln lc, .int .i64 gt], byI la ln F] W) (h0 : 0 < ln) (ht : to ≤ tk + 1) (hto : to ≤ 1000) (htk : tk ≤ 1000) :
    Calls Try.prog 10 #[.pointer (some ⟨p, 0, none⟩)] W fun e w' => e = .returned (.tuple #[.slice none 0 0, .int .i64 60]) ∧ Own fr al W [blkI p [.bool false, .bool false, .int .i64 nx, .int .i64 (to : Int), .int .i64 tr, .int .i64 0, .int .i64 (to : Int), .slice la ln lc, .int .i64 gt], byI la ln F] w' := by
  have hmi : min ((tk : Int) + 1) (to : Int) = (to : Int) := by omega
  have hlt : ¬ (to : Int) < (to : Int) := by omega
  have h0i : ((ln : Int) == 0) = false := by simp; omega
  have z1 : IntKind.i64.wrap ((tk : Int) + 1) = (tk : Int) + 1 := IntWalk.i64_in _ ⟨by omega, by omega⟩
  (try simp only [nsl, Value.cells, unB] at st)
  (try clear hc); have hc := st.facts; (try simp only [nfl, nft, Nat.reduceAdd] at hc)
  go_enter Try.func10, Try.ntmps10
  go_wp2_with ((((with_reducible refine wl_store ?_ (fun K hK => ?_)); rfl; refine owp_store rfl st ?_; apply Exists.intro; apply Exists.intro; refine ⟨?_, ?_, ?_⟩; (focus (go_simp; try rfl)); (focus (go_simp; try rfl)); (first | (with_reducible refine ⟨0, _, _, _, _, get0, rfl, rfl, ?_, ?_, ?_, ?_⟩) | (with_reducible refine ⟨1, _, _, _, _, get1, rfl, rfl, ?_, ?_, ?_, ?_⟩) | (with_reducible refine ⟨2, _, _, _, _, get2, rfl, rfl, ?_, ?_, ?_, ?_⟩) | (with_reducible refine ⟨3, _, _, _, _, get3, rfl, rfl, ?_, ?_, ?_, ?_⟩) | (with_reducible refine ⟨4, _, _, _, _, get4, rfl, rfl, ?_, ?_, ?_, ?_⟩) | (with_reducible refine ⟨5, _, _, _, _, get5, rfl, rfl, ?_, ?_, ?_, ?_⟩) | (with_reducible refine ⟨6, _, _, _, _, get6, rfl, rfl, ?_, ?_, ?_, ?_⟩) | (with_reducible refine ⟨7, _, _, _, _, get7, rfl, rfl, ?_, ?_, ?_, ?_⟩)); (kernel_rfl); (simp [Value.cells]); (rfl); (clear st; intro w st))); (try simp only [nsl, Value.cells, unB] at st); (try clear hc); have hc := st.facts; (try simp only [nfl, nft, Nat.reduceAdd] at hc))
  refine Rg4.wp_region4_eq #[0, 0, 2, 6, 14, 30, 0, 64, 192, 448, 1022, 2047, 4095, 8191] [13] [4, 9] (fun _ => True) [0, 1, 2, 3, 4, 5, 6, 7, 8, 9, 10, 11, 12, 13] (by kernel_rfl) (by kernel_rfl) (by kernel_rfl) (by kernel_rfl) (show Rg4.PB _ by repeat (first | with_reducible exact Rg4.pb_body | with_reducible exact Rg4.pb_bodyD rfl | with_reducible refine Rg4.pb_then ?_ | with_reducible refine Rg4.pb_inBlock ?_ | with_reducible refine Rg4.pb_noGoto ?_ | with_reducible assumption)) (trivial) ?_
  replace st := st.drew
  change Rg4.wp4 _ _ _ _ _ _ _ _ _ (World.drew _) _ _
  generalize World.drew _ = w at st ⊢
  (try clear hc); have hc := st.facts; (try simp only [nfl, nft, Nat.reduceAdd] at hc)
  iterate 4 (refine Rg4.w4_any (Rg4.want_none rfl) rfl ?_; apply Exists.intro; refine ⟨fun w' => ?_, ?_⟩; (focus (first | (go_simp; done) | (go_simp; first | rfl | (rw [if_neg] <;> first | rfl | omega) | (rw [if_pos] <;> first | rfl | omega)))); (try simp only [Rg4.nrm]))
  (refine Rg4.w4_read (Rg4.want_none rfl) rfl rfl ?_; apply Exists.intro; refine ⟨fun w' hw' hcl' => ?_, ?_⟩; focus (subst hw'; (focus (first | (go_simp; done) | (go_simp; first | rfl | (rw [if_neg] <;> first | rfl | omega) | (rw [if_pos] <;> first | rfl | omega))))); (try simp only [Rg4.nrm]))
  iterate 4 (refine Rg4.w4_any (Rg4.want_none rfl) rfl ?_; apply Exists.intro; refine ⟨fun w' => ?_, ?_⟩; (focus (first | (go_simp; done) | (go_simp; first | rfl | (rw [if_neg] <;> first | rfl | omega) | (rw [if_pos] <;> first | rfl | omega)))); (try simp only [Rg4.nrm]))
  (refine Rg4.w4_read (Rg4.want_none rfl) rfl rfl ?_; apply Exists.intro; refine ⟨fun w' hw' hcl' => ?_, ?_⟩; focus (subst hw'; (focus (first | (go_simp; done) | (go_simp; first | rfl | (rw [if_neg] <;> first | rfl | omega) | (rw [if_pos] <;> first | rfl | omega))))); (try simp only [Rg4.nrm]))
  iterate 3 (refine Rg4.w4_any (Rg4.want_none rfl) rfl ?_; apply Exists.intro; refine ⟨fun w' => ?_, ?_⟩; (focus (first | (go_simp; done) | (go_simp; first | rfl | (rw [if_neg] <;> first | rfl | omega) | (rw [if_pos] <;> first | rfl | omega)))); (try simp only [Rg4.nrm]))
  (refine Rg4.w4_bar (Rg4.want_none rfl) rfl (fun w' hw' hcl' _ K hK => ?_); subst hw'; (refine owp_store rfl st ?_; apply Exists.intro; apply Exists.intro; refine ⟨?_, ?_, ?_⟩; (focus (go_simp; try rfl)); (focus (go_simp; try rfl)); (first | (with_reducible refine ⟨0, _, _, _, _, get0, rfl, rfl, ?_, ?_, ?_, ?_⟩) | (with_reducible refine ⟨1, _, _, _, _, get1, rfl, rfl, ?_, ?_, ?_, ?_⟩) | (with_reducible refine ⟨2, _, _, _, _, get2, rfl, rfl, ?_, ?_, ?_, ?_⟩) | (with_reducible refine ⟨3, _, _, _, _, get3, rfl, rfl, ?_, ?_, ?_, ?_⟩) | (with_reducible refine ⟨4, _, _, _, _, get4, rfl, rfl, ?_, ?_, ?_, ?_⟩) | (with_reducible refine ⟨5, _, _, _, _, get5, rfl, rfl, ?_, ?_, ?_, ?_⟩) | (with_reducible refine ⟨6, _, _, _, _, get6, rfl, rfl, ?_, ?_, ?_, ?_⟩) | (with_reducible refine ⟨7, _, _, _, _, get7, rfl, rfl, ?_, ?_, ?_, ?_⟩)); (kernel_rfl); (simp [Value.cells]); (rfl); (clear st; intro w st); (try simp only [nsl, Value.cells, unB] at st); (try clear hc); have hc := st.facts; (try simp only [nfl, nft, Nat.reduceAdd] at hc)); refine hK _ _ ⟨trivial, ?_⟩; (try simp only [Rg4.nrm]))
  refine Rg4.w4_nil (fun w' hw' hcl' _ => ?_); subst hw'; clear hcl'
  go_wp2_with fail
  refine Rg4.wp_region4_eq #[0, 1, 3, 7, 0, 16, 48, 112, 255] [] [3, 7] (fun _ => True) [0, 1, 2, 3, 4, 5, 6, 7, 8] (by kernel_rfl) (by kernel_rfl) (by kernel_rfl) (by kernel_rfl) (show Rg4.PB _ by repeat (first | with_reducible exact Rg4.pb_body | with_reducible exact Rg4.pb_bodyD rfl | with_reducible refine Rg4.pb_then ?_ | with_reducible refine Rg4.pb_inBlock ?_ | with_reducible refine Rg4.pb_noGoto ?_ | with_reducible assumption)) (trivial) ?_
  replace st := st.drew
  change Rg4.wp4 _ _ _ _ _ _ _ _ _ (World.drew _) _ _
  generalize World.drew _ = w at st ⊢
  (try clear hc); have hc := st.facts; (try simp only [nfl, nft, Nat.reduceAdd] at hc)
  iterate 3 (refine Rg4.w4_any (Rg4.want_none rfl) rfl ?_; apply Exists.intro; refine ⟨fun w' => ?_, ?_⟩; (focus (first | (go_simp; done) | (go_simp; first | rfl | (rw [if_neg] <;> first | rfl | omega) | (rw [if_pos] <;> first | rfl | omega)))); (try simp only [Rg4.nrm]))
  (refine Rg4.w4_read (Rg4.want_none rfl) rfl rfl ?_; apply Exists.intro; refine ⟨fun w' hw' hcl' => ?_, ?_⟩; focus (subst hw'; (focus (first | (go_simp; done) | (go_simp; first | rfl | (rw [if_neg] <;> first | rfl | omega) | (rw [if_pos] <;> first | rfl | omega))))); (try simp only [Rg4.nrm]))
  iterate 3 (refine Rg4.w4_any (Rg4.want_none rfl) rfl ?_; apply Exists.intro; refine ⟨fun w' => ?_, ?_⟩; (focus (first | (go_simp; done) | (go_simp; first | rfl | (rw [if_neg] <;> first | rfl | omega) | (rw [if_pos] <;> first | rfl | omega)))); (try simp only [Rg4.nrm]))
  (refine Rg4.w4_read (Rg4.want_none rfl) rfl rfl ?_; apply Exists.intro; refine ⟨fun w' hw' hcl' => ?_, ?_⟩; focus (subst hw'; (focus (first | (go_simp; done) | (go_simp; first | rfl | (rw [if_neg] <;> first | rfl | omega) | (rw [if_pos] <;> first | rfl | omega))))); (try simp only [Rg4.nrm]))
  (refine Rg4.w4_any (Rg4.want_none rfl) rfl ?_; apply Exists.intro; refine ⟨fun w' => ?_, ?_⟩; (focus (first | (go_simp; done) | (go_simp; first | rfl | (rw [if_neg] <;> first | rfl | omega) | (rw [if_pos] <;> first | rfl | omega)))); (try simp only [Rg4.nrm]))
  refine Rg4.w4_nil (fun w' hw' hcl' _ => ?_); subst hw'; clear hcl'
  go_wp2_with fail
  obtain ⟨fr', al', st', back⟩ := st.sub [0, 1] (by decide) (by simp)
  (try simp only [nsl, Value.cells, unB] at st')
  refine (seqAgain_no (lf := 0) st' (.inr rfl)).mono ?_
  clear st'
  rintro en w ⟨rfl, st'⟩
  replace st := back _ _ (by simp) st'
  clear back st'
  (try simp only [nsl, Value.cells, unB] at st)
  (try clear hc); have hc := st.facts; (try simp only [nfl, nft, Nat.reduceAdd] at hc)
  go_wp2_with ((((with_reducible refine wl_store ?_ (fun K hK => ?_)); rfl; refine owp_store rfl st ?_; apply Exists.intro; apply Exists.intro; refine ⟨?_, ?_, ?_⟩; (focus (go_simp; try rfl)); (focus (go_simp; try rfl)); (first | (with_reducible refine ⟨0, _, _, _, _, get0, rfl, rfl, ?_, ?_, ?_, ?_⟩) | (with_reducible refine ⟨1, _, _, _, _, get1, rfl, rfl, ?_, ?_, ?_, ?_⟩) | (with_reducible refine ⟨2, _, _, _, _, get2, rfl, rfl, ?_, ?_, ?_, ?_⟩) | (with_reducible refine ⟨3, _, _, _, _, get3, rfl, rfl, ?_, ?_, ?_, ?_⟩) | (with_reducible refine ⟨4, _, _, _, _, get4, rfl, rfl, ?_, ?_, ?_, ?_⟩) | (with_reducible refine ⟨5, _, _, _, _, get5, rfl, rfl, ?_, ?_, ?_, ?_⟩) | (with_reducible refine ⟨6, _, _, _, _, get6, rfl, rfl, ?_, ?_, ?_, ?_⟩) | (with_reducible refine ⟨7, _, _, _, _, get7, rfl, rfl, ?_, ?_, ?_, ?_⟩)); (kernel_rfl); (simp [Value.cells]); (rfl); (clear st; intro w st))); (try simp only [nsl, Value.cells, unB] at st); (try clear hc); have hc := st.facts; (try simp only [nfl, nft, Nat.reduceAdd] at hc))
  go_ret2
  exact ⟨rfl, st⟩
end Go.Proofs.Ytmlhilgdjedeoaa
