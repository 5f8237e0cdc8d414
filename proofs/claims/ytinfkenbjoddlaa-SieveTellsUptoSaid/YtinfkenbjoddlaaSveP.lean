/- Sieves: Add, by the reference. -/
import Derived.Test.YtinfkenbjoddlaaSveD
import Derived.Test.YtinfkenbjoddlaaShelf
import Derived.Test.YtinfkenbjoddlaaNameL
import Derived.Lib.BytesEntry
import Derived.Laws.Externs
import Derived.Shelf.SlSortCmp.NoneTotal
import Derived.Sort.OwnSorted
import Derived.Test.YtinfkenbjoddlaaSortC
namespace Go.Proofs.Ytinfkenbjoddlaa
set_option linter.unusedSimpArgs false
set_option linter.unusedVariables false
open Go Go.RowKit
instance fltBoo : Flt Bool := ⟨1, fun b => [.bool b], fun _ => rfl, by decide, fun x u hu => by simp at hu; subst hu; rfl⟩
theorem boo_cells (b : Bool) : Flt.cells b = [Value.bool b] := rfl
theorem cellsL_boo (l : List Bool) : cellsL l = l.map Value.bool := by
  induction l with
  | nil => rfl
  | cons p ps ih =>
    have := cellsL_append [p] ps
    rw [List.singleton_append] at this
    rw [this, ih, cellsL_one', boo_cells]
    rfl
theorem booInfo : ∃ i, Try.prog.info? 4 = some i ∧ i.zero = some (.bool false) ∧ i.size = 1 ∧ i.bytes = 1 := info_parts (by kernel_rfl)
theorem spl_boo (l : List Bool) (p : Nat) : spl (cellsL l) p [.bool true] = cellsL (l.set p true) := by
  rw [cellsL_boo, cellsL_boo]
  simp [spl, List.map_set]
theorem addCbs_len (n k : Nat) (cs : List CredT) : ∀ l : List Bool, (addCbs n k l cs).length = l.length := by
  induction cs with
  | nil => intro l; rfl
  | cons c cs ih =>
    intro l
    have h : (addCb n k l c).length = l.length := by unfold addCb; split; exact addPb_len _ _; rfl
    unfold addCbs
    rw [List.foldl_cons]
    have := ih (addCb n k l c)
    unfold addCbs at this
    rw [this, h]
set_option maxRecDepth 100000 in
set_option maxHeartbeats 4000000 in
theorem refAdd_c {fr al : Nat → Prop} {W : World} {k n c cn cc : Nat} {a ca : Option Addr} {bl : List Bool} {l : List CredT} (st : Own fr al W [flI a n bl, flI ca cn l] W) (hn : 8 ≤ n ∧ n ≤ 4096) (hk : k ≤ 8) (hcn : cn ≤ 1000000) (hl : ∀ x ∈ l, CLenS x) :
    Calls Try.prog 14 #[.agg #[.slice a n c, .int .i64 (k : Int)], .slice ca cn cc] W fun e w' => ∃ va vc, e = .returned (.agg #[.slice va n vc, .int .i64 (k : Int)]) ∧ Own fr al W [flI a n bl, flI ca cn l, rowI 4 1 (.slice va n vc) n (cellsL (addCbs n k bl l))] w' := by
  have HNB : Hid (n = bl.length) := Lib.hid (st.flAt (i := 0) get0).1
  have HNL : Hid (cn = l.length) := Lib.hid (st.flAt (i := 1) get1).1
  have HCL := Lib.hid hl
  clear hl
  (try simp only [nsl, Value.cells, unB] at st)
  (try clear hc); have hc := st.facts; (try simp only [nfl, nft, Nat.reduceAdd] at hc)
  go_enter Try.func14, Try.ntmps14
  go_wp2_with (first
      | ((with_reducible refine wl_append ?_ (fun K hK => ?_)); (rfl); (obtain ⟨inf, hinf, hz0, hz1, hz2⟩ := booInfo); (refine owp_append rfl st 4 get4 Try.underlying36 hinf hz0 hz1 hz2 rfl (by decide) rfl rfl ((st.flAt (i := 0) get0).flat) (by first | exact cellsL_all _ | simp [Value.oneCell']) (by simp only [maxLen]; omega) (by omega) ?_); (clear hinf hz0 hz1 hz2 inf); (clear st; intro v' w st); (obtain ⟨va', vc', rfl⟩ := own_slice (st.row (i := 4) get4)); (try simp only [nsl, Value.cells, unB] at st); (try simp only [Nat.zero_add] at st); (try clear hc); have hc := st.facts; (try simp only [nfl, nft, Nat.reduceAdd] at hc))
      | ((with_reducible refine wl_buildSlice ?_ (fun K hK => ?_)); (rfl); (refine owp_buildRow (o := ⟨some 10, _, _, _, _, _⟩) rfl st 4 1 ?_; refine ⟨0, #[], ?_, by simp, by simp [maxLen], ?_⟩; (focus (go_simp; (first | done | rfl))); (clear st; intro b10 w hb st; clear hb)); (try simp only [nsl, Value.cells, unB] at st); (try clear hc); have hc := st.facts; (try simp only [nfl, nft, Nat.reduceAdd] at hc))
      | ((first
        | ((with_reducible refine wl_box ?_ (fun K hK => ?_)); rfl; refine owp_box (o := ⟨some 2, _, _, _, _, _⟩) rfl st ?_; apply Exists.intro; refine ⟨?_, ?_⟩; (focus (go_simp; try rfl)); (clear st; intro b2 w hb st; clear hb))
        | ((with_reducible refine wl_alloc ?_ (fun K hK => ?_)); rfl; refine owp_alloc (o := ⟨some 4, _, _, _, _, _⟩) rfl st ?_; apply Exists.intro; apply Exists.intro; refine ⟨?_, ?_⟩; (focus (first | (go_simp; done) | (go_simp; rfl))); (clear st; intro b4 w hb st; clear hb))
        | ((with_reducible refine wl_buildSlice ?_ (fun K hK => ?_)); rfl; refine owp_buildSlice (o := ⟨some 10, _, _, _, _, _⟩) rfl st ?_; apply Exists.intro; apply Exists.intro; apply Exists.intro; apply Exists.intro; refine ⟨?_, ?_⟩; (focus (go_simp; (first | done | exact ⟨⟨rfl, rfl⟩, rfl⟩ | rfl))); (clear st; intro b10 w hb st; clear hb))
        | ((with_reducible refine wl_alloc ?_ (fun K hK => ?_)); rfl; refine owp_alloc (o := ⟨some 7, _, _, _, _, _⟩) rfl st ?_; apply Exists.intro; apply Exists.intro; refine ⟨?_, ?_⟩; (focus (first | (go_simp; done) | (go_simp; rfl))); (clear st; intro b7 w hb st; clear hb))
        | ((with_reducible refine wl_store ?_ (fun K hK => ?_)); rfl; refine owp_store rfl st ?_; apply Exists.intro; apply Exists.intro; refine ⟨?_, ?_, ?_⟩; (focus (go_simp; try rfl)); (focus (go_simp; try rfl)); (first | (with_reducible refine ⟨0, _, _, _, _, get0, rfl, rfl, ?_, ?_, ?_, ?_⟩) | (with_reducible refine ⟨1, _, _, _, _, get1, rfl, rfl, ?_, ?_, ?_, ?_⟩) | (with_reducible refine ⟨2, _, _, _, _, get2, rfl, rfl, ?_, ?_, ?_, ?_⟩) | (with_reducible refine ⟨3, _, _, _, _, get3, rfl, rfl, ?_, ?_, ?_, ?_⟩) | (with_reducible refine ⟨4, _, _, _, _, get4, rfl, rfl, ?_, ?_, ?_, ?_⟩) | (with_reducible refine ⟨5, _, _, _, _, get5, rfl, rfl, ?_, ?_, ?_, ?_⟩) | (with_reducible refine ⟨6, _, _, _, _, get6, rfl, rfl, ?_, ?_, ?_, ?_⟩)); (kernel_rfl); (simp [Value.cells]); (rfl); (clear st; intro w st))); (try simp only [nsl, Value.cells, unB] at st); (try clear hc); have hc := st.facts; (try simp only [nfl, nft, Nat.reduceAdd] at hc)))
  obtain ⟨g, gcap, hv, -, -⟩ := st.rowAt (i := 4) get4 (by omega)
  injection hv with v1 _ v3
  subst v1 v3
  go_loopg [16] cn (fun q i wr => ∃ (j : Nat), j ≤ cn ∧ q = cn - j ∧ i = .int .i64 (j : Int) ∧ Own fr al W [flI a n bl, flI ca cn l, blkI b2 [.slice a n c, .int .i64 (k : Int)], blkI b4 [.slice none 0 0, .int .i64 0], rowI 4 1 (.slice (some ⟨g, 0, none⟩) n vc') n (cellsL (addCbs n k bl (l.take j)))] wr)
  case atStart => exact ⟨0, by omega, by omega, rfl, by simpa [addCbs] using st⟩
  case round =>
    obtain ⟨j, hj, rfl, rfl, st'⟩ := hrel
    clear st hc
    have st := st'
    clear st'
    by_cases hjn : j < cn
    · obtain ⟨b, off, ha, hcell⟩ := (st.flAt (i := 1) get1).cred (by omega)
      have hjl : j < l.length := by have := HNL.out; omega
      have hcc := hcell j l[j] (List.getElem?_eq_getElem hjl)
      obtain ⟨r0, r1, r2, r3, r4, r5, r6, r7, r8⟩ := hcc
      have HTK : Hid (l.take (j + 1) = l.take j ++ [l[j]]) := Lib.hid (List.take_append_getElem hjl).symm
      have hxl := HCL.out _ (List.getElem_mem hjl)
      obtain ⟨cs0, hcs0⟩ : ∃ s, l.take j = s := ⟨_, rfl⟩
      rw [hcs0] at HTK st
      obtain ⟨x, hx⟩ : ∃ x, l[j] = x := ⟨_, rfl⟩
      rw [hx] at HTK hxl r0 r1 r2 r3 r4 r5 r6 r7 r8
      clear hcell hcs0 hx hjl
      subst ha
      have HR := Lib.hid (fun W => refCredRight_any x W (CLenS.big hxl))
      have HSN : Hid (addCbs n k bl (cs0 ++ [x]) = addCb n k (addCbs n k bl cs0) x) := Lib.hid (addCbs_snoc n k bl cs0 x)
      obtain ⟨B0, hB0⟩ : ∃ s, addCbs n k bl cs0 = s := ⟨_, rfl⟩
      have HB0 : Hid (B0.length = n) := Lib.hid (by rw [← hB0, addCbs_len]; exact HNB.out.symm)
      rw [hB0] at HSN st
      clear hB0 hxl
      unfold S at r1 r2 r3 r4 r5 r6 r7 r8
      have HXV : Hid (cV x = .agg #[.int .i64 x.k, .string ⟨x.h.1.toArray⟩, .string ⟨x.h.2.toArray⟩, .string ⟨x.w.toArray⟩, .string ⟨x.b.1.toArray⟩, .string ⟨x.b.2.toArray⟩, .string ⟨x.c.1.toArray⟩, .string ⟨x.c.2.toArray⟩, .string ⟨x.e.toArray⟩]) := Lib.hid rfl
      rw [HXV.out] at HR
      (try simp only [nsl, Value.cells, unB] at st)
      (try clear hc); have hc := st.facts; (try simp only [nfl, nft, Nat.reduceAdd] at hc)
      go_wp2_with ((first
            | ((with_reducible refine wl_box ?_ (fun K hK => ?_)); rfl; refine owp_box (o := ⟨some 2, _, _, _, _, _⟩) rfl st ?_; apply Exists.intro; refine ⟨?_, ?_⟩; (focus (go_simp; try rfl)); (clear st; intro b2 w hb st; clear hb))
            | ((with_reducible refine wl_alloc ?_ (fun K hK => ?_)); rfl; refine owp_alloc (o := ⟨some 4, _, _, _, _, _⟩) rfl st ?_; apply Exists.intro; apply Exists.intro; refine ⟨?_, ?_⟩; (focus (first | (go_simp; done) | (go_simp; rfl))); (clear st; intro b4 w hb st; clear hb))
            | ((with_reducible refine wl_buildSlice ?_ (fun K hK => ?_)); rfl; refine owp_buildSlice (o := ⟨some 10, _, _, _, _, _⟩) rfl st ?_; apply Exists.intro; apply Exists.intro; apply Exists.intro; apply Exists.intro; refine ⟨?_, ?_⟩; (focus (go_simp; (first | done | exact ⟨⟨rfl, rfl⟩, rfl⟩ | rfl))); (clear st; intro b10 w hb st; clear hb))
            | ((with_reducible refine wl_alloc ?_ (fun K hK => ?_)); rfl; refine owp_alloc (o := ⟨some 7, _, _, _, _, _⟩) rfl st ?_; apply Exists.intro; apply Exists.intro; refine ⟨?_, ?_⟩; (focus (first | (go_simp; done) | (go_simp; rfl))); (clear st; intro b7 w hb st; clear hb))
            | ((with_reducible refine wl_store ?_ (fun K hK => ?_)); rfl; refine owp_store rfl st ?_; apply Exists.intro; apply Exists.intro; refine ⟨?_, ?_, ?_⟩; (focus (go_simp; try rfl)); (focus (go_simp; try rfl)); (first | (with_reducible refine ⟨0, _, _, _, _, get0, rfl, rfl, ?_, ?_, ?_, ?_⟩) | (with_reducible refine ⟨1, _, _, _, _, get1, rfl, rfl, ?_, ?_, ?_, ?_⟩) | (with_reducible refine ⟨2, _, _, _, _, get2, rfl, rfl, ?_, ?_, ?_, ?_⟩) | (with_reducible refine ⟨3, _, _, _, _, get3, rfl, rfl, ?_, ?_, ?_, ?_⟩) | (with_reducible refine ⟨4, _, _, _, _, get4, rfl, rfl, ?_, ?_, ?_, ?_⟩) | (with_reducible refine ⟨5, _, _, _, _, get5, rfl, rfl, ?_, ?_, ?_, ?_⟩) | (with_reducible refine ⟨6, _, _, _, _, get6, rfl, rfl, ?_, ?_, ?_, ?_⟩)); (kernel_rfl); (simp [Value.cells]); (rfl); (clear st; intro w st))); (try simp only [nsl, Value.cells, unB] at st); (try clear hc); have hc := st.facts; (try simp only [nfl, nft, Nat.reduceAdd] at hc))
      clear r0 r1 r2 r3 r4 r5 r6 r7 r8
      refine (HR.out _).mono ?_
      rintro en w ⟨rfl, hx⟩
      replace st := st.ext hx
      clear hx
      (try clear hc); have hc := st.facts; (try simp only [nfl, nft, Nat.reduceAdd] at hc)
      cases hr : credR x with
      | false =>
        have HA : Hid (addCbs n k bl (l.take (j + 1)) = B0) := Lib.hid (by rw [HTK.out, HSN.out]; unfold addCb; rw [if_neg (by rw [hr]; decide)])
        clear hr
        go_wp2_with ((first
              | ((with_reducible refine wl_box ?_ (fun K hK => ?_)); rfl; refine owp_box (o := ⟨some 2, _, _, _, _, _⟩) rfl st ?_; apply Exists.intro; refine ⟨?_, ?_⟩; (focus (go_simp; try rfl)); (clear st; intro b2 w hb st; clear hb))
              | ((with_reducible refine wl_alloc ?_ (fun K hK => ?_)); rfl; refine owp_alloc (o := ⟨some 4, _, _, _, _, _⟩) rfl st ?_; apply Exists.intro; apply Exists.intro; refine ⟨?_, ?_⟩; (focus (first | (go_simp; done) | (go_simp; rfl))); (clear st; intro b4 w hb st; clear hb))
              | ((with_reducible refine wl_buildSlice ?_ (fun K hK => ?_)); rfl; refine owp_buildSlice (o := ⟨some 10, _, _, _, _, _⟩) rfl st ?_; apply Exists.intro; apply Exists.intro; apply Exists.intro; apply Exists.intro; refine ⟨?_, ?_⟩; (focus (go_simp; (first | done | exact ⟨⟨rfl, rfl⟩, rfl⟩ | rfl))); (clear st; intro b10 w hb st; clear hb))
              | ((with_reducible refine wl_alloc ?_ (fun K hK => ?_)); rfl; refine owp_alloc (o := ⟨some 7, _, _, _, _, _⟩) rfl st ?_; apply Exists.intro; apply Exists.intro; refine ⟨?_, ?_⟩; (focus (first | (go_simp; done) | (go_simp; rfl))); (clear st; intro b7 w hb st; clear hb))
              | ((with_reducible refine wl_store ?_ (fun K hK => ?_)); rfl; refine owp_store rfl st ?_; apply Exists.intro; apply Exists.intro; refine ⟨?_, ?_, ?_⟩; (focus (go_simp; try rfl)); (focus (go_simp; try rfl)); (first | (with_reducible refine ⟨0, _, _, _, _, get0, rfl, rfl, ?_, ?_, ?_, ?_⟩) | (with_reducible refine ⟨1, _, _, _, _, get1, rfl, rfl, ?_, ?_, ?_, ?_⟩) | (with_reducible refine ⟨2, _, _, _, _, get2, rfl, rfl, ?_, ?_, ?_, ?_⟩) | (with_reducible refine ⟨3, _, _, _, _, get3, rfl, rfl, ?_, ?_, ?_, ?_⟩) | (with_reducible refine ⟨4, _, _, _, _, get4, rfl, rfl, ?_, ?_, ?_, ?_⟩) | (with_reducible refine ⟨5, _, _, _, _, get5, rfl, rfl, ?_, ?_, ?_, ?_⟩) | (with_reducible refine ⟨6, _, _, _, _, get6, rfl, rfl, ?_, ?_, ?_, ?_⟩)); (kernel_rfl); (simp [Value.cells]); (rfl); (clear st; intro w st))); (try simp only [nsl, Value.cells, unB] at st); (try clear hc); have hc := st.facts; (try simp only [nfl, nft, Nat.reduceAdd] at hc))
        have st' := st.keep [0, 1, 2, 3, 4] (by decide) (by simp)
        go_roundg (cn - (j + 1))
        case measure => omega
        case rel => exact ⟨j + 1, by omega, by omega, by go_num, by rw [HA.out]; simpa [pick] using st'⟩
      | true =>
        have HA : Hid (addCbs n k bl (l.take (j + 1)) = addPb B0 (plC n k x)) := Lib.hid (by rw [HTK.out, HSN.out]; unfold addCb; rw [if_pos hr])
        have HLT : Hid (∀ p ∈ plC n k x, p < n) := Lib.hid (fun p hp => plL_lt (by omega) hp)
        have HPLN : Hid ((plC n k x).length = k) := Lib.hid (plC_len n k x)
        have HPC := Lib.hid (fun (W : World) => refPlaces_any x a n c k W hr hn hk)
        rw [HXV.out, show plL (fnv fnv0 (credBy x)) n k = plC n k x from rfl] at HPC
        generalize plC n k x = ps at *
        clear hr
        go_wp2_with ((first
              | ((with_reducible refine wl_box ?_ (fun K hK => ?_)); rfl; refine owp_box (o := ⟨some 2, _, _, _, _, _⟩) rfl st ?_; apply Exists.intro; refine ⟨?_, ?_⟩; (focus (go_simp; try rfl)); (clear st; intro b2 w hb st; clear hb))
              | ((with_reducible refine wl_alloc ?_ (fun K hK => ?_)); rfl; refine owp_alloc (o := ⟨some 4, _, _, _, _, _⟩) rfl st ?_; apply Exists.intro; apply Exists.intro; refine ⟨?_, ?_⟩; (focus (first | (go_simp; done) | (go_simp; rfl))); (clear st; intro b4 w hb st; clear hb))
              | ((with_reducible refine wl_buildSlice ?_ (fun K hK => ?_)); rfl; refine owp_buildSlice (o := ⟨some 10, _, _, _, _, _⟩) rfl st ?_; apply Exists.intro; apply Exists.intro; apply Exists.intro; apply Exists.intro; refine ⟨?_, ?_⟩; (focus (go_simp; (first | done | exact ⟨⟨rfl, rfl⟩, rfl⟩ | rfl))); (clear st; intro b10 w hb st; clear hb))
              | ((with_reducible refine wl_alloc ?_ (fun K hK => ?_)); rfl; refine owp_alloc (o := ⟨some 7, _, _, _, _, _⟩) rfl st ?_; apply Exists.intro; apply Exists.intro; refine ⟨?_, ?_⟩; (focus (first | (go_simp; done) | (go_simp; rfl))); (clear st; intro b7 w hb st; clear hb))
              | ((with_reducible refine wl_store ?_ (fun K hK => ?_)); rfl; refine owp_store rfl st ?_; apply Exists.intro; apply Exists.intro; refine ⟨?_, ?_, ?_⟩; (focus (go_simp; try rfl)); (focus (go_simp; try rfl)); (first | (with_reducible refine ⟨0, _, _, _, _, get0, rfl, rfl, ?_, ?_, ?_, ?_⟩) | (with_reducible refine ⟨1, _, _, _, _, get1, rfl, rfl, ?_, ?_, ?_, ?_⟩) | (with_reducible refine ⟨2, _, _, _, _, get2, rfl, rfl, ?_, ?_, ?_, ?_⟩) | (with_reducible refine ⟨3, _, _, _, _, get3, rfl, rfl, ?_, ?_, ?_, ?_⟩) | (with_reducible refine ⟨4, _, _, _, _, get4, rfl, rfl, ?_, ?_, ?_, ?_⟩) | (with_reducible refine ⟨5, _, _, _, _, get5, rfl, rfl, ?_, ?_, ?_, ?_⟩) | (with_reducible refine ⟨6, _, _, _, _, get6, rfl, rfl, ?_, ?_, ?_, ?_⟩)); (kernel_rfl); (simp [Value.cells]); (rfl); (clear st; intro w st))); (try simp only [nsl, Value.cells, unB] at st); (try clear hc); have hc := st.facts; (try simp only [nfl, nft, Nat.reduceAdd] at hc))
        refine (HPC.out _).mono ?_
        rintro en w ⟨va, vc, rfl, hfr⟩
        replace st := st.fresh hfr
        clear hfr
        (try simp only [nsl, Value.cells, unB] at st)
        (try clear hc); have hc := st.facts; (try simp only [nfl, nft, Nat.reduceAdd] at hc)
        go_wp2_with fail
        go_loopg [26] k (fun q i wr => ∃ (jj : Nat), jj ≤ k ∧ q = k - jj ∧ i = .int .i64 (jj : Int) ∧ Own fr al W [flI a n bl, flI (some ⟨b, off, none⟩) cn l, blkI b2 [.slice a n c, .int .i64 (k : Int)], blkI b4 [.slice none 0 0, .int .i64 0], rowI 4 1 (.slice (some ⟨g, 0, none⟩) n vc') n (cellsL (addPb B0 (ps.take jj))), rowI 3 1 (.slice va k vc) k (cellsL ps)] wr)
        case atStart => exact ⟨0, by omega, by omega, rfl, by
          have st' := st.keep [0, 1, 2, 3, 4, 6] (by decide) (by simp)
          simpa [pick, addPb] using st'⟩
        case round =>
          obtain ⟨jj, hjj, rfl, rfl, st'⟩ := hrel
          clear st hc
          have st := st'
          clear st'
          by_cases hjk : jj < k
          · obtain ⟨gr, grc, hv, -, -⟩ := st.rowAt (i := 5) get5 (by omega)
            injection hv with v1 _ v3
            subst v1 v3
            have hjps : jj < ps.length := by have := HPLN.out; omega
            have hcl : (cellsL ps)[jj]? = some (.int .i64 (ps[jj] : Int)) := by rw [cellsL_nat, List.getElem?_map, List.getElem?_eq_getElem hjps]; rfl
            have hrow := (row_cell (st.row (i := 5) get5) jj (by omega)).1.trans hcl
            have hlt := HLT.out _ (List.getElem_mem hjps)
            have HTJ : Hid (ps.take (jj + 1) = ps.take jj ++ [ps[jj]]) := Lib.hid (List.take_append_getElem hjps).symm
            obtain ⟨pp, hpp⟩ : ∃ v, ps[jj] = v := ⟨_, rfl⟩
            rw [hpp] at hrow hlt HTJ
            clear hcl hpp hjps
            obtain ⟨B1, hB1⟩ : ∃ s, addPb B0 (ps.take jj) = s := ⟨_, rfl⟩
            have HA1 : Hid (addPb B0 (ps.take (jj + 1)) = B1.set pp true) := Lib.hid (by rw [HTJ.out, addPb_snoc, hB1])
            rw [hB1] at st
            clear hB1
            have hp0 : (0 : Int) ≤ (pp : Int) := by omega
            have hpz : (pp : Int).toNat = pp := by omega
            have hpi : (pp : Int) < (n : Int) := by omega
            (try simp only [nsl, Value.cells, unB] at st)
            (try clear hc); have hc := st.facts; (try simp only [nfl, nft, Nat.reduceAdd] at hc)
            go_wp2_with ((with_reducible refine wl_store ?_ (fun K hK => ?_)); (rfl); (refine owp_storeRow' rfl st ?_; apply Exists.intro; apply Exists.intro; refine ⟨?_, ?_, ?_⟩; (focus (go_simp; try rfl)); (focus (go_simp; try rfl)); refine ⟨4, _, _, _, _, _, _, _, _, get4, rfl, rfl, ?_, ?_, ?_, ?_⟩; (kernel_rfl); (simp [Value.cells]; omega); (rfl); (clear st hrow; intro w st)))
            have e : spl (cellsL B1) pp [.bool true] = cellsL (B1.set pp true) := spl_boo B1 pp
            (try rw [show (Value.bool true).cells.toList = [.bool true] from rfl] at st)
            rw [e] at st
            simp only [List.set] at st
            go_roundg (k - (jj + 1))
            case measure => omega
            case rel => exact ⟨jj + 1, by omega, by omega, by go_num, by rw [HA1.out]; exact st⟩
          · obtain rfl : jj = k := by omega
            have htk2 : ps.take jj = ps := List.take_of_length_le (by have := HPLN.out; omega)
            rw [htk2] at st
            clear htk2
            (try simp only [nsl, Value.cells, unB] at st)
            (try clear hc); have hc := st.facts; (try simp only [nfl, nft, Nat.reduceAdd] at hc)
            go_wp2_with fail
            have st' := st.keep [0, 1, 2, 3, 4] (by decide) (by simp)
            go_roundg (cn - (j + 1))
            case measure => omega
            case rel => exact ⟨j + 1, by omega, by omega, by go_num, by rw [HA.out]; simpa [pick] using st'⟩
    · obtain rfl : j = cn := by omega
      have htk : l.take j = l := List.take_of_length_le (by have := HNL.out; omega)
      rw [htk] at st
      clear htk
      (try simp only [nsl, Value.cells, unB] at st)
      (try clear hc); have hc := st.facts; (try simp only [nfl, nft, Nat.reduceAdd] at hc)
      go_wp2_with ((first
            | ((with_reducible refine wl_box ?_ (fun K hK => ?_)); rfl; refine owp_box (o := ⟨some 2, _, _, _, _, _⟩) rfl st ?_; apply Exists.intro; refine ⟨?_, ?_⟩; (focus (go_simp; try rfl)); (clear st; intro b2 w hb st; clear hb))
            | ((with_reducible refine wl_alloc ?_ (fun K hK => ?_)); rfl; refine owp_alloc (o := ⟨some 4, _, _, _, _, _⟩) rfl st ?_; apply Exists.intro; apply Exists.intro; refine ⟨?_, ?_⟩; (focus (first | (go_simp; done) | (go_simp; rfl))); (clear st; intro b4 w hb st; clear hb))
            | ((with_reducible refine wl_buildSlice ?_ (fun K hK => ?_)); rfl; refine owp_buildSlice (o := ⟨some 10, _, _, _, _, _⟩) rfl st ?_; apply Exists.intro; apply Exists.intro; apply Exists.intro; apply Exists.intro; refine ⟨?_, ?_⟩; (focus (go_simp; (first | done | exact ⟨⟨rfl, rfl⟩, rfl⟩ | rfl))); (clear st; intro b10 w hb st; clear hb))
            | ((with_reducible refine wl_alloc ?_ (fun K hK => ?_)); rfl; refine owp_alloc (o := ⟨some 7, _, _, _, _, _⟩) rfl st ?_; apply Exists.intro; apply Exists.intro; refine ⟨?_, ?_⟩; (focus (first | (go_simp; done) | (go_simp; rfl))); (clear st; intro b7 w hb st; clear hb))
            | ((with_reducible refine wl_store ?_ (fun K hK => ?_)); rfl; refine owp_store rfl st ?_; apply Exists.intro; apply Exists.intro; refine ⟨?_, ?_, ?_⟩; (focus (go_simp; try rfl)); (focus (go_simp; try rfl)); (first | (with_reducible refine ⟨0, _, _, _, _, get0, rfl, rfl, ?_, ?_, ?_, ?_⟩) | (with_reducible refine ⟨1, _, _, _, _, get1, rfl, rfl, ?_, ?_, ?_, ?_⟩) | (with_reducible refine ⟨2, _, _, _, _, get2, rfl, rfl, ?_, ?_, ?_, ?_⟩) | (with_reducible refine ⟨3, _, _, _, _, get3, rfl, rfl, ?_, ?_, ?_, ?_⟩) | (with_reducible refine ⟨4, _, _, _, _, get4, rfl, rfl, ?_, ?_, ?_, ?_⟩) | (with_reducible refine ⟨5, _, _, _, _, get5, rfl, rfl, ?_, ?_, ?_, ?_⟩) | (with_reducible refine ⟨6, _, _, _, _, get6, rfl, rfl, ?_, ?_, ?_, ?_⟩)); (kernel_rfl); (simp [Value.cells]); (rfl); (clear st; intro w st))); (try simp only [nsl, Value.cells, unB] at st); (try clear hc); have hc := st.facts; (try simp only [nfl, nft, Nat.reduceAdd] at hc))
      (try simp only [Exit.inBlock, Exit.then])
      refine bodyPost_cell rfl rfl (st.blk (i := 3) get3) Try.underlying38 rfl (by kernel_rfl) rfl ?_
      have st' := st.keep [0, 1, 4] (by decide) (by simp)
      exact ⟨_, _, rfl, by simpa [pick] using st'⟩
end Go.Proofs.Ytinfkenbjoddlaa

namespace Go.Proofs.Ytinfkenbjoddlaa
set_option linter.unusedSimpArgs false
set_option linter.unusedVariables false
open Go Go.RowKit
theorem Fl.nat {w : World} {a : Option Addr} {n : Nat} {xs : List Nat} (h : Fl w a n xs) (h0 : 0 < n) : ∃ b off, a = some ⟨b, off, none⟩ ∧ ∀ (j x : Nat), xs[j]? = some x → w.cell? ⟨b, off + j, none⟩ = some (.int .i64 (x : Int)) := by
  obtain ⟨b, off, rfl, hc⟩ := h.2 h0
  exact ⟨b, off, rfl, fun j x hj => by have := hc j x hj 0 _ rfl; simpa [Flt.k] using this⟩
theorem bit_and (b : UInt8) (r : Nat) : (bits .and .u8 ((b.toNat : Int) / 2 ^ r) 1 == 0) = !b.toNat.testBit r := by
  have e : (b.toNat : Int) / 2 ^ r = ((b.toNat / 2 ^ r : Nat) : Int) := by simp
  have hb : b.toNat / 2 ^ r < 256 := Nat.lt_of_le_of_lt (Nat.div_le_self _ _) b.toNat_lt
  have h := u8_and_nat (b.toNat / 2 ^ r) 1 hb (by decide)
  rw [show ((1 : Nat) : Int) = 1 from rfl] at h
  rw [e, h, Nat.and_one_is_mod, Nat.testBit_eq_decide_div_mod_eq]
  rcases Nat.mod_two_eq_zero_or_one (b.toNat / 2 ^ r) with q | q
  · rw [q]; rfl
  · rw [q]; rfl
set_option maxRecDepth 100000 in
set_option maxHeartbeats 1000000 in
theorem intIndexFunc_any (a : Option Addr) (n c : Nat) (xs : List Nat) (W : World) (h : Fl W a n xs) (hn : n ≤ 2000000) (F : FuncId) (cap : Array Value) (p : Nat → Bool)
    (hi : ∀ w x, (callFunc F (#[x] ++ cap)).run Try.prog w = .ok (.enter F (#[x] ++ cap)) w)
    (hp : ∀ x ∈ xs, ∀ w, Ext W w → Calls Try.prog F (#[.int .i64 (x : Int)] ++ cap) w fun e w' => e = .returned (.bool (p x)) ∧ Ext w w') :
    Calls Try.prog 62 #[.slice a n c, .func (.func F) #[] cap] W fun e w' => ∃ v : Int, e = .returned (.int .i64 v) ∧ (0 ≤ v ↔ xs.any p = true) ∧ Ext W w' := by
  have HP := Lib.hid hp
  have H := Lib.hid h
  have HN := Lib.hid h.1
  have st := Own.startOld W
  clear hp h
  (try simp only [nsl, Value.cells, unB] at st)
  (try clear hc); have hc := st.facts; (try simp only [nfl, nft, Nat.reduceAdd] at hc)
  go_enter Try.func62, Try.ntmps62
  go_wp2_with fail
  go_loopg [8] n (fun k i wr => ∃ (j : Nat), j ≤ n ∧ k = n - j ∧ i = .int .i64 (j : Int) ∧ Hid (∀ x ∈ xs.take j, p x = false) ∧ Own (fun _ => False) (fun _ => True) W [oldI W] wr)
  case atStart => exact ⟨0, by omega, by omega, rfl, Lib.hid (by simp), st⟩
  case round =>
    obtain ⟨j, hj, rfl, rfl, HT, st'⟩ := hrel
    clear st hc
    have st := st'
    clear st'
    (try simp only [nsl, Value.cells, unB] at st)
    (try clear hc); have hc := st.facts; (try simp only [nfl, nft, Nat.reduceAdd] at hc)
    by_cases hjn : j < n
    · obtain ⟨b, off, ha, hcell⟩ := H.out.nat (by omega)
      have hjl : j < xs.length := by have := HN.out; omega
      have r0 := st.oldCell (i := 0) get0 (hcell j xs[j] (List.getElem?_eq_getElem hjl))
      have hts : xs.take (j + 1) = xs.take j ++ [xs[j]] := (List.take_append_getElem hjl).symm
      have hx := HP.out xs[j] (List.getElem_mem hjl)
      have hmem := List.getElem_mem hjl
      clear hcell
      generalize xs[j] = x at *
      have HX := Lib.hid (And.intro hts hmem)
      clear hts hmem hjl
      subst ha
      have HQ := Lib.hid hx
      clear hx
      go_wp2_with fail
      refine (HQ.out _ st.ext0).mono ?_
      rintro en w ⟨rfl, hx⟩
      replace st := st.ext hx
      clear hx r0
      by_cases hpx : p x = true
      · rw [hpx]
        have HF : Hid (xs.any p = true) := Lib.hid (List.any_eq_true.2 ⟨_, HX.out.2, hpx⟩)
        clear hpx
        go_wp2_with fail
        go_ret
        exact ⟨_, rfl, ⟨fun _ => HF.out, fun _ => by omega⟩, st.ext0⟩
      · have hpf : p x = false := by simpa using hpx
        rw [hpf]
        have HF : Hid (∀ x ∈ xs.take (j + 1), p x = false) := Lib.hid (fun x hx => by
          rw [HX.out.1] at hx
          rcases List.mem_append.1 hx with q | q
          · exact HT.out x q
          · rw [List.mem_singleton.1 q]; exact hpf)
        clear hpx hpf
        go_wp2_with fail
        go_roundg (n - (j + 1))
        case measure => omega
        case rel => exact ⟨j + 1, by omega, by omega, by go_num, HF, st⟩
    · obtain rfl : j = n := by omega
      have HF : Hid (xs.any p = false) := Lib.hid (by
        rw [List.any_eq_false]
        intro x hx
        have := HT.out x (by rw [List.take_of_length_le (by have := HN.out; omega)]; exact hx)
        simp [this])
      go_wp2_with fail
      go_ret
      exact ⟨_, rfl, ⟨fun q => by omega, fun q => by rw [HF.out] at q; cases q⟩, st.ext0⟩
set_option maxRecDepth 100000 in
set_option maxHeartbeats 1000000 in
theorem intContainsFunc_any (a : Option Addr) (n c : Nat) (xs : List Nat) (W : World) (h : Fl W a n xs) (hn : n ≤ 2000000) (F : FuncId) (cap : Array Value) (p : Nat → Bool)
    (hi : ∀ w x, (callFunc F (#[x] ++ cap)).run Try.prog w = .ok (.enter F (#[x] ++ cap)) w)
    (hp : ∀ x ∈ xs, ∀ w, Ext W w → Calls Try.prog F (#[.int .i64 (x : Int)] ++ cap) w fun e w' => e = .returned (.bool (p x)) ∧ Ext w w') :
    Calls Try.prog 36 #[.slice a n c, .func (.func F) #[] cap] W fun e w' => e = .returned (.bool (xs.any p)) ∧ Ext W w' := by
  have HI := Lib.hid (intIndexFunc_any a n c xs W h hn F cap p hi hp)
  obtain ⟨r, hr⟩ : ∃ r, xs.any p = r := ⟨_, rfl⟩
  rw [hr] at HI ⊢
  clear hp h hi hr
  go_enter Try.func36, Try.ntmps36
  go_wp2_with fail
  refine HI.out.mono ?_
  rintro en w' ⟨v, rfl, hv, hx⟩
  by_cases h0 : 0 ≤ v
  · have hr : r = true := hv.1 h0
    subst hr
    clear hv
    go_wp2_with fail
    go_ret
    exact ⟨by simp [h0], hx⟩
  · have hr : r = false := by cases r with | false => rfl | true => exact absurd (hv.2 rfl) h0
    subst hr
    clear hv
    go_wp2_with fail
    go_ret
    exact ⟨by simp; omega, hx⟩
set_option maxRecDepth 100000 in
set_option maxHeartbeats 1000000 in
theorem svMay1_any (b2 p g m k pp : Nat) (bs : List UInt8) (W : World) (h2 : Blk W b2 [.pointer (some ⟨p, 0, none⟩)]) (hp : Blk W p [.slice (some ⟨g, 0, none⟩) m m, .int .i64 (k : Int)]) (hg : Blk W g (bs.map B)) (hm : bs.length = m) (hm2 : m ≤ 512) (hpp : pp < 8 * m) :
    Calls Try.prog 37 #[.int .i64 (pp : Int), .pointer (some ⟨b2, 0, none⟩)] W fun e w' => e = .returned (.bool (!bitAt bs pp)) ∧ Ext W w' := by
  have c0 := h2.cell 0
  have c1 := hp.cell 0
  obtain ⟨q, hq⟩ : ∃ q, pp / 8 = q := ⟨_, rfl⟩
  obtain ⟨r, hr⟩ : ∃ q, pp % 8 = q := ⟨_, rfl⟩
  have hgc : W.cell? ⟨g, q, none⟩ = some (.int .u8 ((byteOf bs pp).toNat : Int)) := by
    have h1 := hg.cell q
    have h2 := byteOf_some (bs := bs) (p := pp) (by omega)
    rw [hq] at h2
    rw [h1, List.getElem?_map, h2]
    rfl
  have HB : Hid (bitAt bs pp = (byteOf bs pp).toNat.testBit r) := Lib.hid (by unfold bitAt; rw [hr])
  obtain ⟨bb, hbb⟩ : ∃ v, byteOf bs pp = v := ⟨_, rfl⟩
  rw [hbb] at hgc HB
  have zq : (pp : Int).tdiv 8 = (q : Int) := by rw [Int.tdiv_eq_ediv_of_nonneg (by omega)]; omega
  have zr : (pp : Int).tmod 8 = (r : Int) := by rw [Int.tmod_eq_emod_of_nonneg (by omega)]; omega
  have hqm : q < m := by omega
  have hr8 : r < 8 := by omega
  have zqw : IntKind.i64.wrap (q : Int) = (q : Int) := IntWalk.i64_in _ ⟨by omega, by omega⟩
  have zrw : IntKind.i64.wrap (r : Int) = (r : Int) := IntWalk.i64_in _ ⟨by omega, by omega⟩
  have hq0 : (0 : Int) ≤ (q : Int) := by omega
  have hqz : (q : Int).toNat = q := by omega
  have hrz : (r : Int).toNat = r := by omega
  have hqi : (q : Int) < (m : Int) := by omega
  have zand := bit_and bb r
  obtain ⟨bv, hbv⟩ : ∃ v, bitAt bs pp = v := ⟨_, rfl⟩
  rw [hbv] at HB ⊢
  rw [← HB.out] at zand
  clear hq hr hbb h2 hp hg hbv
  simp only [List.getElem?_cons_zero] at c0 c1
  go_enter Try.func37, Try.ntmps37
  go_wp2_with fail
  go_ret
  exact ⟨by simp [zand], Ext.refl _⟩
set_option maxRecDepth 100000 in
set_option maxHeartbeats 2000000 in
theorem svMay_c {fr al : Nat → Prop} {W : World} {p g m k : Nat} {bs : List UInt8} (x : CredT) (st : Own fr al W [blkI p [.slice (some ⟨g, 0, none⟩) m m, .int .i64 (k : Int)], blkI g (bs.map B)] W) (hl : CredL 100000 x) (hbl : bs.length = m) (hm : 1 ≤ m ∧ m ≤ 512) (hk : k ≤ 8) :
    Calls Try.prog 17 #[.pointer (some ⟨p, 0, none⟩), cV x] W fun e w' => e = .returned (.bool (mayB (8 * m) k bs x)) ∧ Own fr al W [blkI p [.slice (some ⟨g, 0, none⟩) m m, .int .i64 (k : Int)], blkI g (bs.map B)] w' := by
  have HR := Lib.hid (fun W => credRight_any x W (by unfold CredL at hl; omega))
  have HPC := Lib.hid (fun (fr al : Nat → Prop) (W : World) (st : Own fr al W [blkI p [.slice (some ⟨g, 0, none⟩) m m, .int .i64 (k : Int)]] W) => svPlaces_c x st hl hm hk)
  have HLT : Hid (∀ q ∈ plC (8 * m) k x, q < 8 * m) := Lib.hid (fun q hq => plL_lt (by omega) hq)
  have HV : Hid (mayB (8 * m) k bs x = (credR x && !((plC (8 * m) k x).any fun q => !bitAt bs q))) := Lib.hid (by unfold mayB; rw [← List.not_all_eq_any_not]; simp)
  have HBL := Lib.hid hbl
  rw [show plL (fnv fnv0 (credBy x)) (8 * m) k = plC (8 * m) k x from rfl] at HPC
  generalize plC (8 * m) k x = ps at *
  obtain ⟨mv, hmv⟩ : ∃ v, mayB (8 * m) k bs x = v := ⟨_, rfl⟩
  rw [hmv] at HV ⊢
  clear hmv hl hbl
  have HXV : Hid (cV x = .agg #[.int .i64 x.k, .string ⟨x.h.1.toArray⟩, .string ⟨x.h.2.toArray⟩, .string ⟨x.w.toArray⟩, .string ⟨x.b.1.toArray⟩, .string ⟨x.b.2.toArray⟩, .string ⟨x.c.1.toArray⟩, .string ⟨x.c.2.toArray⟩, .string ⟨x.e.toArray⟩]) := Lib.hid rfl
  rw [HXV.out] at HR HPC ⊢
  (try simp only [nsl, Value.cells, unB] at st)
  (try clear hc); have hc := st.facts; (try simp only [nfl, nft, Nat.reduceAdd] at hc)
  go_enter Try.func17, Try.ntmps17
  go_wp2_with ((first
        | ((with_reducible refine wl_box ?_ (fun K hK => ?_)); rfl; refine owp_box (o := ⟨some 2, _, _, _, _, _⟩) rfl st ?_; apply Exists.intro; refine ⟨?_, ?_⟩; (focus (go_simp; try rfl)); (clear st; intro b2 w hb st; clear hb))
        | ((with_reducible refine wl_box ?_ (fun K hK => ?_)); rfl; refine owp_box (o := ⟨some 3, _, _, _, _, _⟩) rfl st ?_; apply Exists.intro; refine ⟨?_, ?_⟩; (focus (go_simp; try rfl)); (clear st; intro b3 w hb st; clear hb))); (try simp only [nsl, Value.cells, unB] at st); (try clear hc); have hc := st.facts; (try simp only [nfl, nft, Nat.reduceAdd] at hc))
  refine (HR.out _).mono ?_
  rintro en w ⟨rfl, hx⟩
  replace st := st.ext hx
  clear hx
  (try clear hc); have hc := st.facts; (try simp only [nfl, nft, Nat.reduceAdd] at hc)
  cases hr : credR x with
  | false =>
    have HF : Hid (mv = false) := Lib.hid (by rw [HV.out, hr]; rfl)
    clear hr
    go_wp2_with ((first
          | ((with_reducible refine wl_box ?_ (fun K hK => ?_)); rfl; refine owp_box (o := ⟨some 2, _, _, _, _, _⟩) rfl st ?_; apply Exists.intro; refine ⟨?_, ?_⟩; (focus (go_simp; try rfl)); (clear st; intro b2 w hb st; clear hb))
          | ((with_reducible refine wl_box ?_ (fun K hK => ?_)); rfl; refine owp_box (o := ⟨some 3, _, _, _, _, _⟩) rfl st ?_; apply Exists.intro; refine ⟨?_, ?_⟩; (focus (go_simp; try rfl)); (clear st; intro b3 w hb st; clear hb))); (try simp only [nsl, Value.cells, unB] at st); (try clear hc); have hc := st.facts; (try simp only [nfl, nft, Nat.reduceAdd] at hc))
    go_ret
    have st' := st.keep [0, 1] (by decide) (by simp)
    exact ⟨by rw [HF.out]; rfl, by simpa [pick] using st'⟩
  | true =>
    have HF : Hid (mv = !(ps.any fun q => !bitAt bs q)) := Lib.hid (by rw [HV.out, hr]; rfl)
    clear hr
    go_wp2_with ((first
          | ((with_reducible refine wl_box ?_ (fun K hK => ?_)); rfl; refine owp_box (o := ⟨some 2, _, _, _, _, _⟩) rfl st ?_; apply Exists.intro; refine ⟨?_, ?_⟩; (focus (go_simp; try rfl)); (clear st; intro b2 w hb st; clear hb))
          | ((with_reducible refine wl_box ?_ (fun K hK => ?_)); rfl; refine owp_box (o := ⟨some 3, _, _, _, _, _⟩) rfl st ?_; apply Exists.intro; refine ⟨?_, ?_⟩; (focus (go_simp; try rfl)); (clear st; intro b3 w hb st; clear hb))); (try simp only [nsl, Value.cells, unB] at st); (try clear hc); have hc := st.facts; (try simp only [nfl, nft, Nat.reduceAdd] at hc))
    obtain ⟨fr', al', st', back⟩ := st.sub [0] (by decide) (by simp)
    (try simp only [nsl, Value.cells, unB] at st')
    refine (HPC.out _ _ _ st').mono ?_
    clear st'
    rintro en w ⟨va, vc, rfl, st'⟩
    replace st := back _ _ (by simp) st'
    clear back st'
    (try simp only [nsl, Value.cells, unB] at st)
    (try clear hc); have hc := st.facts; (try simp only [nfl, nft, Nat.reduceAdd] at hc)
    go_wp2_with ((first
          | ((with_reducible refine wl_box ?_ (fun K hK => ?_)); rfl; refine owp_box (o := ⟨some 2, _, _, _, _, _⟩) rfl st ?_; apply Exists.intro; refine ⟨?_, ?_⟩; (focus (go_simp; try rfl)); (clear st; intro b2 w hb st; clear hb))
          | ((with_reducible refine wl_box ?_ (fun K hK => ?_)); rfl; refine owp_box (o := ⟨some 3, _, _, _, _, _⟩) rfl st ?_; apply Exists.intro; refine ⟨?_, ?_⟩; (focus (go_simp; try rfl)); (clear st; intro b3 w hb st; clear hb))); (try simp only [nsl, Value.cells, unB] at st); (try clear hc); have hc := st.facts; (try simp only [nfl, nft, Nat.reduceAdd] at hc))
    have hfl := (st.rowFl3 (α := Nat) (i := 4) get4).2
    have f2 := st.blk (i := 2) get2
    have f0 := st.blk (i := 0) get0
    have f1 := st.blk (i := 1) get1
    refine (intContainsFunc_any _ k _ ps _ hfl (by omega) 37 #[.pointer (some ⟨b2, 0, none⟩)] (fun q => !bitAt bs q) (fun _ _ => by kernel_rfl) (fun q hq w' hx => svMay1_any b2 p g m k q bs w' (f2.ext hx) (f0.ext hx) (f1.ext hx) HBL.out hm.2 (HLT.out q hq))).mono ?_
    rintro en w ⟨rfl, hx⟩
    replace st := st.ext hx
    clear hx hfl f2 f0 f1
    (try simp only [nsl, Value.cells, unB] at st)
    (try clear hc); have hc := st.facts; (try simp only [nfl, nft, Nat.reduceAdd] at hc)
    go_wp2_with ((first
          | ((with_reducible refine wl_box ?_ (fun K hK => ?_)); rfl; refine owp_box (o := ⟨some 2, _, _, _, _, _⟩) rfl st ?_; apply Exists.intro; refine ⟨?_, ?_⟩; (focus (go_simp; try rfl)); (clear st; intro b2 w hb st; clear hb))
          | ((with_reducible refine wl_box ?_ (fun K hK => ?_)); rfl; refine owp_box (o := ⟨some 3, _, _, _, _, _⟩) rfl st ?_; apply Exists.intro; refine ⟨?_, ?_⟩; (focus (go_simp; try rfl)); (clear st; intro b3 w hb st; clear hb))); (try simp only [nsl, Value.cells, unB] at st); (try clear hc); have hc := st.facts; (try simp only [nfl, nft, Nat.reduceAdd] at hc))
    go_ret
    have st' := st.keep [0, 1] (by decide) (by simp)
    exact ⟨by rw [HF.out]; simp, by simpa [pick] using st'⟩
set_option maxRecDepth 100000 in
set_option maxHeartbeats 1000000 in
theorem svMayB1_any (b2 p m sc k pp : Nat) (sa : Option Addr) (bs : List UInt8) (W : World) (h2 : Blk W b2 [.pointer (some ⟨p, 0, none⟩)]) (hp : Blk W p [.slice sa m sc, .int .i64 (k : Int)]) (hg : By W sa m bs) (hm : bs.length = m) (hm2 : m ≤ 512) (hpp : pp < 8 * m) :
    Calls Try.prog 37 #[.int .i64 (pp : Int), .pointer (some ⟨b2, 0, none⟩)] W fun e w' => e = .returned (.bool (!bitAt bs pp)) ∧ Ext W w' := by
  have c0 := h2.cell 0
  have c1 := hp.cell 0
  obtain ⟨q, hq⟩ : ∃ q, pp / 8 = q := ⟨_, rfl⟩
  obtain ⟨r, hr⟩ : ∃ q, pp % 8 = q := ⟨_, rfl⟩
  obtain ⟨g, off, ha, hcell, -⟩ := hg.at (k := q) (by omega)
  have hgc : W.cell? ⟨g, off + q, none⟩ = some (.int .u8 ((byteOf bs pp).toNat : Int)) := by
    have h2 := byteOf_some (bs := bs) (p := pp) (by omega)
    rw [hq] at h2
    exact hcell q _ h2
  subst ha
  clear hcell
  have HB : Hid (bitAt bs pp = (byteOf bs pp).toNat.testBit r) := Lib.hid (by unfold bitAt; rw [hr])
  obtain ⟨bb, hbb⟩ : ∃ v, byteOf bs pp = v := ⟨_, rfl⟩
  rw [hbb] at hgc HB
  have zq : (pp : Int).tdiv 8 = (q : Int) := by rw [Int.tdiv_eq_ediv_of_nonneg (by omega)]; omega
  have zr : (pp : Int).tmod 8 = (r : Int) := by rw [Int.tmod_eq_emod_of_nonneg (by omega)]; omega
  have hqm : q < m := by omega
  have hr8 : r < 8 := by omega
  have zqw : IntKind.i64.wrap (q : Int) = (q : Int) := IntWalk.i64_in _ ⟨by omega, by omega⟩
  have zrw : IntKind.i64.wrap (r : Int) = (r : Int) := IntWalk.i64_in _ ⟨by omega, by omega⟩
  have hq0 : (0 : Int) ≤ (q : Int) := by omega
  have hqz : (q : Int).toNat = q := by omega
  have hrz : (r : Int).toNat = r := by omega
  have hqi : (q : Int) < (m : Int) := by omega
  have zand := bit_and bb r
  obtain ⟨bv, hbv⟩ : ∃ v, bitAt bs pp = v := ⟨_, rfl⟩
  rw [hbv] at HB ⊢
  rw [← HB.out] at zand
  clear hq hr hbb h2 hp hg hbv
  simp only [List.getElem?_cons_zero] at c0 c1
  go_enter Try.func37, Try.ntmps37
  go_wp2_with fail
  go_ret
  exact ⟨by simp [zand], Ext.refl _⟩
set_option maxRecDepth 100000 in
set_option maxHeartbeats 2000000 in
theorem svMayB_c {fr al : Nat → Prop} {W : World} {p m sc k : Nat} {sa : Option Addr} {bs : List UInt8} (x : CredT) (st : Own fr al W [blkI p [.slice sa m sc, .int .i64 (k : Int)], byI sa m bs] W) (hl : CredL 100000 x) (hbl : bs.length = m) (hm : 1 ≤ m ∧ m ≤ 512) (hk : k ≤ 8) :
    Calls Try.prog 17 #[.pointer (some ⟨p, 0, none⟩), cV x] W fun e w' => e = .returned (.bool (mayB (8 * m) k bs x)) ∧ Own fr al W [blkI p [.slice sa m sc, .int .i64 (k : Int)], byI sa m bs] w' := by
  have HR := Lib.hid (fun W => credRight_any x W (by unfold CredL at hl; omega))
  have HPC := Lib.hid (fun (fr al : Nat → Prop) (W : World) (st : Own fr al W [blkI p [.slice sa m sc, .int .i64 (k : Int)]] W) => svPlaces_c x st hl hm hk)
  have HLT : Hid (∀ q ∈ plC (8 * m) k x, q < 8 * m) := Lib.hid (fun q hq => plL_lt (by omega) hq)
  have HV : Hid (mayB (8 * m) k bs x = (credR x && !((plC (8 * m) k x).any fun q => !bitAt bs q))) := Lib.hid (by unfold mayB; rw [← List.not_all_eq_any_not]; simp)
  have HBL := Lib.hid hbl
  rw [show plL (fnv fnv0 (credBy x)) (8 * m) k = plC (8 * m) k x from rfl] at HPC
  generalize plC (8 * m) k x = ps at *
  obtain ⟨mv, hmv⟩ : ∃ v, mayB (8 * m) k bs x = v := ⟨_, rfl⟩
  rw [hmv] at HV ⊢
  clear hmv hl hbl
  have HXV : Hid (cV x = .agg #[.int .i64 x.k, .string ⟨x.h.1.toArray⟩, .string ⟨x.h.2.toArray⟩, .string ⟨x.w.toArray⟩, .string ⟨x.b.1.toArray⟩, .string ⟨x.b.2.toArray⟩, .string ⟨x.c.1.toArray⟩, .string ⟨x.c.2.toArray⟩, .string ⟨x.e.toArray⟩]) := Lib.hid rfl
  rw [HXV.out] at HR HPC ⊢
  (try simp only [nsl, Value.cells, unB] at st)
  (try clear hc); have hc := st.facts; (try simp only [nfl, nft, Nat.reduceAdd] at hc)
  go_enter Try.func17, Try.ntmps17
  go_wp2_with ((first
        | ((with_reducible refine wl_box ?_ (fun K hK => ?_)); rfl; refine owp_box (o := ⟨some 2, _, _, _, _, _⟩) rfl st ?_; apply Exists.intro; refine ⟨?_, ?_⟩; (focus (go_simp; try rfl)); (clear st; intro b2 w hb st; clear hb))
        | ((with_reducible refine wl_box ?_ (fun K hK => ?_)); rfl; refine owp_box (o := ⟨some 3, _, _, _, _, _⟩) rfl st ?_; apply Exists.intro; refine ⟨?_, ?_⟩; (focus (go_simp; try rfl)); (clear st; intro b3 w hb st; clear hb))); (try simp only [nsl, Value.cells, unB] at st); (try clear hc); have hc := st.facts; (try simp only [nfl, nft, Nat.reduceAdd] at hc))
  refine (HR.out _).mono ?_
  rintro en w ⟨rfl, hx⟩
  replace st := st.ext hx
  clear hx
  (try clear hc); have hc := st.facts; (try simp only [nfl, nft, Nat.reduceAdd] at hc)
  cases hr : credR x with
  | false =>
    have HF : Hid (mv = false) := Lib.hid (by rw [HV.out, hr]; rfl)
    clear hr
    go_wp2_with ((first
          | ((with_reducible refine wl_box ?_ (fun K hK => ?_)); rfl; refine owp_box (o := ⟨some 2, _, _, _, _, _⟩) rfl st ?_; apply Exists.intro; refine ⟨?_, ?_⟩; (focus (go_simp; try rfl)); (clear st; intro b2 w hb st; clear hb))
          | ((with_reducible refine wl_box ?_ (fun K hK => ?_)); rfl; refine owp_box (o := ⟨some 3, _, _, _, _, _⟩) rfl st ?_; apply Exists.intro; refine ⟨?_, ?_⟩; (focus (go_simp; try rfl)); (clear st; intro b3 w hb st; clear hb))); (try simp only [nsl, Value.cells, unB] at st); (try clear hc); have hc := st.facts; (try simp only [nfl, nft, Nat.reduceAdd] at hc))
    go_ret
    have st' := st.keep [0, 1] (by decide) (by simp)
    exact ⟨by rw [HF.out]; rfl, by simpa [pick] using st'⟩
  | true =>
    have HF : Hid (mv = !(ps.any fun q => !bitAt bs q)) := Lib.hid (by rw [HV.out, hr]; rfl)
    clear hr
    go_wp2_with ((first
          | ((with_reducible refine wl_box ?_ (fun K hK => ?_)); rfl; refine owp_box (o := ⟨some 2, _, _, _, _, _⟩) rfl st ?_; apply Exists.intro; refine ⟨?_, ?_⟩; (focus (go_simp; try rfl)); (clear st; intro b2 w hb st; clear hb))
          | ((with_reducible refine wl_box ?_ (fun K hK => ?_)); rfl; refine owp_box (o := ⟨some 3, _, _, _, _, _⟩) rfl st ?_; apply Exists.intro; refine ⟨?_, ?_⟩; (focus (go_simp; try rfl)); (clear st; intro b3 w hb st; clear hb))); (try simp only [nsl, Value.cells, unB] at st); (try clear hc); have hc := st.facts; (try simp only [nfl, nft, Nat.reduceAdd] at hc))
    obtain ⟨fr', al', st', back⟩ := st.sub [0] (by decide) (by simp)
    (try simp only [nsl, Value.cells, unB] at st')
    refine (HPC.out _ _ _ st').mono ?_
    clear st'
    rintro en w ⟨va, vc, rfl, st'⟩
    replace st := back _ _ (by simp) st'
    clear back st'
    (try simp only [nsl, Value.cells, unB] at st)
    (try clear hc); have hc := st.facts; (try simp only [nfl, nft, Nat.reduceAdd] at hc)
    go_wp2_with ((first
          | ((with_reducible refine wl_box ?_ (fun K hK => ?_)); rfl; refine owp_box (o := ⟨some 2, _, _, _, _, _⟩) rfl st ?_; apply Exists.intro; refine ⟨?_, ?_⟩; (focus (go_simp; try rfl)); (clear st; intro b2 w hb st; clear hb))
          | ((with_reducible refine wl_box ?_ (fun K hK => ?_)); rfl; refine owp_box (o := ⟨some 3, _, _, _, _, _⟩) rfl st ?_; apply Exists.intro; refine ⟨?_, ?_⟩; (focus (go_simp; try rfl)); (clear st; intro b3 w hb st; clear hb))); (try simp only [nsl, Value.cells, unB] at st); (try clear hc); have hc := st.facts; (try simp only [nfl, nft, Nat.reduceAdd] at hc))
    have hfl := (st.rowFl3 (α := Nat) (i := 4) get4).2
    have f2 := st.blk (i := 2) get2
    have f0 := st.blk (i := 0) get0
    have f1 := st.by (i := 1) get1
    refine (intContainsFunc_any _ k _ ps _ hfl (by omega) 37 #[.pointer (some ⟨b2, 0, none⟩)] (fun q => !bitAt bs q) (fun _ _ => by kernel_rfl) (fun q hq w' hx => svMayB1_any b2 p m sc k q sa bs w' (f2.ext hx) (f0.ext hx) (f1.ext hx) HBL.out hm.2 (HLT.out q hq))).mono ?_
    rintro en w ⟨rfl, hx⟩
    replace st := st.ext hx
    clear hx hfl f2 f0 f1
    (try simp only [nsl, Value.cells, unB] at st)
    (try clear hc); have hc := st.facts; (try simp only [nfl, nft, Nat.reduceAdd] at hc)
    go_wp2_with ((first
          | ((with_reducible refine wl_box ?_ (fun K hK => ?_)); rfl; refine owp_box (o := ⟨some 2, _, _, _, _, _⟩) rfl st ?_; apply Exists.intro; refine ⟨?_, ?_⟩; (focus (go_simp; try rfl)); (clear st; intro b2 w hb st; clear hb))
          | ((with_reducible refine wl_box ?_ (fun K hK => ?_)); rfl; refine owp_box (o := ⟨some 3, _, _, _, _, _⟩) rfl st ?_; apply Exists.intro; refine ⟨?_, ?_⟩; (focus (go_simp; try rfl)); (clear st; intro b3 w hb st; clear hb))); (try simp only [nsl, Value.cells, unB] at st); (try clear hc); have hc := st.facts; (try simp only [nfl, nft, Nat.reduceAdd] at hc))
    go_ret
    have st' := st.keep [0, 1] (by decide) (by simp)
    exact ⟨by rw [HF.out]; simp, by simpa [pick] using st'⟩
end Go.Proofs.Ytinfkenbjoddlaa

namespace Go.Proofs.Ytinfkenbjoddlaa
set_option linter.unusedSimpArgs false
set_option linter.unusedVariables false
open Go Go.RowKit
theorem Fl.boo {w : World} {a : Option Addr} {n : Nat} {xs : List Bool} (h : Fl w a n xs) (h0 : 0 < n) : ∃ b off, a = some ⟨b, off, none⟩ ∧ ∀ (j : Nat) (x : Bool), xs[j]? = some x → w.cell? ⟨b, off + j, none⟩ = some (.bool x) := by
  obtain ⟨b, off, rfl, hc⟩ := h.2 h0
  exact ⟨b, off, rfl, fun j x hj => by have := hc j x hj 0 _ rfl; simpa [Flt.k] using this⟩
def mayL (n k : Nat) (bl : List Bool) (x : CredT) : Bool := credR x && (plC n k x).all fun q => (bl[q]?).getD false
theorem mayL_bits {n k : Nat} {bs : List UInt8} (x : CredT) (hn : n = 8 * bs.length) (h0 : 0 < n) : mayL n k (bitsOf bs) x = mayB n k bs x := by
  unfold mayL mayB
  congr 1
  rw [Bool.eq_iff_iff, List.all_eq_true, List.all_eq_true]
  have key : ∀ q ∈ plC n k x, ((bitsOf bs)[q]?).getD false = bitAt bs q := fun q hq => by
    rw [bitsOf_at (by rw [← hn]; exact plL_lt h0 hq)]
    rfl
  exact ⟨fun h q hq => by rw [← key q hq]; exact h q hq, fun h q hq => by rw [key q hq]; exact h q hq⟩
set_option maxRecDepth 100000 in
set_option maxHeartbeats 2000000 in
theorem refMay_any (x : CredT) (a : Option Addr) (n c k : Nat) (bl : List Bool) (W : World) (h : Fl W a n bl) (hl : CLenS x) (hn : 8 ≤ n ∧ n ≤ 4096) (hk : k ≤ 8) :
    Calls Try.prog 16 #[.agg #[.slice a n c, .int .i64 (k : Int)], cV x] W fun e w' => e = .returned (.bool (mayL n k bl x)) ∧ Ext W w' := by
  have H := Lib.hid h
  have HNB : Hid (n = bl.length) := Lib.hid h.1
  have HR := Lib.hid (fun W => refCredRight_any x W (CLenS.big hl))
  have HPC := Lib.hid (fun (W : World) hr => refPlaces_any x a n c k W hr hn hk)
  have HLT : Hid (∀ q ∈ plC n k x, q < n) := Lib.hid (fun q hq => plL_lt (by omega) hq)
  have HPLN : Hid ((plC n k x).length = k) := Lib.hid (plC_len n k x)
  have HV : Hid (mayL n k bl x = (credR x && (plC n k x).all fun q => (bl[q]?).getD false)) := Lib.hid rfl
  rw [show plL (fnv fnv0 (credBy x)) n k = plC n k x from rfl] at HPC
  generalize plC n k x = ps at *
  obtain ⟨mv, hmv⟩ : ∃ v, mayL n k bl x = v := ⟨_, rfl⟩
  rw [hmv] at HV ⊢
  clear hmv hl h
  have HXV : Hid (cV x = .agg #[.int .i64 x.k, .string ⟨x.h.1.toArray⟩, .string ⟨x.h.2.toArray⟩, .string ⟨x.w.toArray⟩, .string ⟨x.b.1.toArray⟩, .string ⟨x.b.2.toArray⟩, .string ⟨x.c.1.toArray⟩, .string ⟨x.c.2.toArray⟩, .string ⟨x.e.toArray⟩]) := Lib.hid rfl
  rw [HXV.out] at HR HPC ⊢
  have st := Own.startOld W
  (try simp only [nsl, Value.cells, unB] at st)
  (try clear hc); have hc := st.facts; (try simp only [nfl, nft, Nat.reduceAdd] at hc)
  go_enter Try.func16, Try.ntmps16
  go_wp2_with ((first
        | ((with_reducible refine wl_box ?_ (fun K hK => ?_)); rfl; refine owp_box (o := ⟨some 2, _, _, _, _, _⟩) rfl st ?_; apply Exists.intro; refine ⟨?_, ?_⟩; (focus (go_simp; try rfl)); (clear st; intro b2 w hb st; clear hb))
        | ((with_reducible refine wl_box ?_ (fun K hK => ?_)); rfl; refine owp_box (o := ⟨some 3, _, _, _, _, _⟩) rfl st ?_; apply Exists.intro; refine ⟨?_, ?_⟩; (focus (go_simp; try rfl)); (clear st; intro b3 w hb st; clear hb))); (try simp only [nsl, Value.cells, unB] at st); (try clear hc); have hc := st.facts; (try simp only [nfl, nft, Nat.reduceAdd] at hc))
  refine (HR.out _).mono ?_
  rintro en w ⟨rfl, hx⟩
  replace st := st.ext hx
  clear hx
  (try clear hc); have hc := st.facts; (try simp only [nfl, nft, Nat.reduceAdd] at hc)
  cases hr : credR x with
  | false =>
    have HF : Hid (mv = false) := Lib.hid (by rw [HV.out, hr]; rfl)
    clear hr
    go_wp2_with ((first
          | ((with_reducible refine wl_box ?_ (fun K hK => ?_)); rfl; refine owp_box (o := ⟨some 2, _, _, _, _, _⟩) rfl st ?_; apply Exists.intro; refine ⟨?_, ?_⟩; (focus (go_simp; try rfl)); (clear st; intro b2 w hb st; clear hb))
          | ((with_reducible refine wl_box ?_ (fun K hK => ?_)); rfl; refine owp_box (o := ⟨some 3, _, _, _, _, _⟩) rfl st ?_; apply Exists.intro; refine ⟨?_, ?_⟩; (focus (go_simp; try rfl)); (clear st; intro b3 w hb st; clear hb))); (try simp only [nsl, Value.cells, unB] at st); (try clear hc); have hc := st.facts; (try simp only [nfl, nft, Nat.reduceAdd] at hc))
    go_ret
    exact ⟨by rw [HF.out]; rfl, st.ext0⟩
  | true =>
    have HF : Hid (mv = ps.all fun q => (bl[q]?).getD false) := Lib.hid (by rw [HV.out, hr]; rfl)
    go_wp2_with ((first
          | ((with_reducible refine wl_box ?_ (fun K hK => ?_)); rfl; refine owp_box (o := ⟨some 2, _, _, _, _, _⟩) rfl st ?_; apply Exists.intro; refine ⟨?_, ?_⟩; (focus (go_simp; try rfl)); (clear st; intro b2 w hb st; clear hb))
          | ((with_reducible refine wl_box ?_ (fun K hK => ?_)); rfl; refine owp_box (o := ⟨some 3, _, _, _, _, _⟩) rfl st ?_; apply Exists.intro; refine ⟨?_, ?_⟩; (focus (go_simp; try rfl)); (clear st; intro b3 w hb st; clear hb))); (try simp only [nsl, Value.cells, unB] at st); (try clear hc); have hc := st.facts; (try simp only [nfl, nft, Nat.reduceAdd] at hc))
    refine (HPC.out _ hr).mono ?_
    clear hr
    rintro en w ⟨va, vc, rfl, hfr⟩
    replace st := st.fresh hfr
    clear hfr
    (try simp only [nsl, Value.cells, unB] at st)
    (try clear hc); have hc := st.facts; (try simp only [nfl, nft, Nat.reduceAdd] at hc)
    go_wp2_with fail
    go_loopg [14] k (fun q i wr => ∃ (j : Nat), j ≤ k ∧ q = k - j ∧ i = .int .i64 (j : Int) ∧ Hid (∀ q ∈ ps.take j, (bl[q]?).getD false = true) ∧ Own (fun _ => False) (fun _ => True) W [oldI W, blkI b2 [.slice a n c, .int .i64 (k : Int)], rowI 3 1 (.slice va k vc) k (cellsL ps)] wr)
    case atStart => exact ⟨0, by omega, by omega, rfl, Lib.hid (by simp), by
      have st' := st.keep [0, 1, 3] (by decide) (by simp)
      simpa [pick] using st'⟩
    case round =>
      obtain ⟨j, hj, rfl, rfl, HT, st'⟩ := hrel
      clear st hc
      have st := st'
      clear st'
      by_cases hjk : j < k
      · obtain ⟨gr, grc, hv, -, -⟩ := st.rowAt (i := 2) get2 (by omega)
        injection hv with v1 _ v3
        subst v1 v3
        have hjps : j < ps.length := by have := HPLN.out; omega
        have hcl : (cellsL ps)[j]? = some (.int .i64 (ps[j] : Int)) := by rw [cellsL_nat, List.getElem?_map, List.getElem?_eq_getElem hjps]; rfl
        have hrow := (row_cell (st.row (i := 2) get2) j (by omega)).1.trans hcl
        have hmem := List.getElem_mem hjps
        have hlt := HLT.out _ hmem
        have HTJ : Hid (ps.take (j + 1) = ps.take j ++ [ps[j]]) := Lib.hid (List.take_append_getElem hjps).symm
        obtain ⟨pp, hpp⟩ : ∃ v, ps[j] = v := ⟨_, rfl⟩
        rw [hpp] at hrow hlt HTJ hmem
        have HM := Lib.hid hmem
        clear hcl hpp hjps hmem
        obtain ⟨b, off, ha, hcell⟩ := H.out.boo (by omega)
        obtain ⟨bv, hbv⟩ : ∃ v, bl[pp]? = some v := ⟨_, List.getElem?_eq_getElem (by have := HNB.out; omega)⟩
        have r0 := st.oldCell (i := 0) get0 (hcell pp bv hbv)
        have HBV := Lib.hid hbv
        clear hcell hbv
        subst ha
        have hp0 : (0 : Int) ≤ (pp : Int) := by omega
        have hpz : (pp : Int).toNat = pp := by omega
        have hpi : (pp : Int) < (n : Int) := by omega
        (try simp only [nsl, Value.cells, unB] at st)
        (try clear hc); have hc := st.facts; (try simp only [nfl, nft, Nat.reduceAdd] at hc)
        cases bv with
        | false =>
          have HE : Hid (mv = false) := Lib.hid (by
            rw [HF.out, List.all_eq_false]
            exact ⟨pp, HM.out, by rw [HBV.out]; simp⟩)
          go_wp2_with fail
          go_ret
          exact ⟨by rw [HE.out]; rfl, st.ext0⟩
        | true =>
          have HT2 : Hid (∀ q ∈ ps.take (j + 1), (bl[q]?).getD false = true) := Lib.hid (fun q hq => by
            rw [HTJ.out] at hq
            rcases List.mem_append.1 hq with e | e
            · exact HT.out q e
            · rw [List.mem_singleton.1 e, HBV.out]; rfl)
          go_wp2_with fail
          go_roundg (k - (j + 1))
          case measure => omega
          case rel => exact ⟨j + 1, by omega, by omega, by go_num, HT2, st⟩
      · obtain rfl : j = k := by omega
        have HE : Hid (mv = true) := Lib.hid (by
          rw [HF.out, List.all_eq_true]
          intro q hq
          exact HT.out q (by rw [List.take_of_length_le (by have := HPLN.out; omega)]; exact hq))
        (try simp only [nsl, Value.cells, unB] at st)
        (try clear hc); have hc := st.facts; (try simp only [nfl, nft, Nat.reduceAdd] at hc)
        go_wp2_with fail
        go_ret
        exact ⟨by rw [HE.out]; rfl, st.ext0⟩
end Go.Proofs.Ytinfkenbjoddlaa

namespace Go.Proofs.Ytinfkenbjoddlaa
set_option linter.unusedSimpArgs false
set_option linter.unusedVariables false
open Go Go.RowKit
def popB (b : UInt8) : Nat := ((List.range 8).map fun i => b.toNat.testBit i).count true
/-- How many bits are set. -/
def setN (bs : List UInt8) : Nat := (bs.map popB).sum
theorem popB_le (b : UInt8) : popB b ≤ 8 := by
  unfold popB
  exact Nat.le_trans (List.count_le_length) (by simp)
theorem pop_ones : ∀ m : Fin 256, Lib.onesCount m.val = popB (UInt8.ofNat m.val) := by decide +kernel
theorem pop_one (b : UInt8) : Lib.onesCount ((b.toNat : Int).toNat) = popB b := by
  have := pop_ones ⟨b.toNat, b.toNat_lt⟩
  simpa using this
theorem bitsOf_cons (b : UInt8) (bs : List UInt8) : bitsOf (b :: bs) = ((List.range 8).map fun i => b.toNat.testBit i) ++ bitsOf bs := by
  unfold bitsOf
  rw [List.length_cons, show 8 * (bs.length + 1) = 8 + 8 * bs.length by omega, List.range_add, List.map_append, List.map_map]
  have h1 : (List.range 8).map (bitAt (b :: bs)) = (List.range 8).map fun i => b.toNat.testBit i := by
    apply List.map_congr_left
    intro i hi
    have h8 : i < 8 := by simpa using hi
    unfold bitAt byteOf
    rw [show i / 8 = 0 by omega, show i % 8 = i by omega]
    rfl
  have h2 : (List.range (8 * bs.length)).map (bitAt (b :: bs) ∘ (8 + ·)) = (List.range (8 * bs.length)).map (bitAt bs) := by
    apply List.map_congr_left
    intro i _
    simp only [Function.comp]
    unfold bitAt byteOf
    rw [show (8 + i) / 8 = i / 8 + 1 by omega, show (8 + i) % 8 = i % 8 by omega]
    rfl
  rw [h1, h2]
theorem count_bits (bs : List UInt8) : (bitsOf bs).count true = setN bs := by
  induction bs with
  | nil => rfl
  | cons b bs ih => rw [bitsOf_cons, List.count_append, ih]; rfl
theorem setN_le (bs : List UInt8) : setN bs ≤ 8 * bs.length := by
  induction bs with
  | nil => simp [setN]
  | cons b bs ih => have := popB_le b; simp only [setN, List.map_cons, List.sum_cons, List.length_cons] at *; omega
theorem setN_take (bs : List UInt8) (j : Nat) (h : j < bs.length) : setN (bs.take (j + 1)) = setN (bs.take j) + popB bs[j] := by
  unfold setN
  rw [← List.take_append_getElem h, List.map_append, List.sum_append]
  simp
theorem count_take (bl : List Bool) (j : Nat) (h : j < bl.length) : (bl.take (j + 1)).count true = (bl.take j).count true + (if bl[j] then 1 else 0) := by
  rw [← List.take_append_getElem h, List.count_append]
  cases bl[j] <;> rfl
set_option maxRecDepth 100000 in
set_option maxHeartbeats 1000000 in
theorem svSet_c {fr al : Nat → Prop} {W : World} {p m sc k : Nat} {sa : Option Addr} {bs : List UInt8} (st : Own fr al W [blkI p [.slice sa m sc, .int .i64 (k : Int)], byI sa m bs] W) (hbl : bs.length = m) (hm : m ≤ 512) :
    Calls Try.prog 10 #[.pointer (some ⟨p, 0, none⟩)] W fun e w' => e = .returned (.int .i64 (setN bs : Int)) ∧ Own fr al W [blkI p [.slice sa m sc, .int .i64 (k : Int)], byI sa m bs] w' := by
  have HBL := Lib.hid hbl
  have HST : Hid (∀ j, setN (bs.take j) ≤ 8 * m) := Lib.hid (fun j => by have := setN_le (bs.take j); rw [List.length_take] at this; omega)
  clear hbl
  (try simp only [nsl, Value.cells, unB] at st)
  (try clear hc); have hc := st.facts; (try simp only [nfl, nft, Nat.reduceAdd] at hc)
  go_enter Try.func10, Try.ntmps10
  go_wp2_with fail
  go_loopg [3, 13] m (fun q o i wr => ∃ (j s : Nat), j ≤ m ∧ q = m - j ∧ i = .int .i64 (j : Int) ∧ o = .int .i64 (s : Int) ∧ Hid (s = setN (bs.take j)) ∧ Own fr al W [blkI p [.slice sa m sc, .int .i64 (k : Int)], byI sa m bs] wr)
  case atStart => exact ⟨0, 0, by omega, by omega, rfl, rfl, Lib.hid rfl, st⟩
  case round =>
    obtain ⟨j, s, hj, rfl, rfl, rfl, HS, st'⟩ := hrel
    clear st hc
    have st := st'
    clear st'
    (try simp only [nsl, Value.cells, unB] at st)
    (try clear hc); have hc := st.facts; (try simp only [nfl, nft, Nat.reduceAdd] at hc)
    by_cases hjm : j < m
    · have hjl : j < bs.length := by rw [HBL.out]; exact hjm
      obtain ⟨g, off, ha, -, hjl2, hgc⟩ := (st.by (i := 1) get1).at hjm
      have hsn := setN_take bs j hjl
      have hsb := HST.out (j + 1)
      rw [hsn, ← HS.out] at hsb
      obtain ⟨b, hb⟩ : ∃ b, bs[j] = b := ⟨_, rfl⟩
      rw [hb] at hgc hsn hsb
      have HX : Hid (s + popB b = setN (bs.take (j + 1))) := Lib.hid (by rw [hsn, HS.out])
      have hp := pop_one b
      obtain ⟨pb, hpb⟩ : ∃ v, popB b = v := ⟨_, rfl⟩
      rw [hpb] at HX hp hsb
      have hlt := b.toNat_lt
      have HP := Lib.hid hp
      clear hsn hb hpb hjl hp
      subst ha
      go_wp2_with fail
      refine (Try.bits_OnesCount8 (b.toNat : Int) _ (by omega) (by omega)).mono ?_
      rintro en w' ⟨rfl, rfl⟩
      rw [HP.out]
      go_wp2_with fail
      go_roundg (m - (j + 1))
      case measure => omega
      case rel => exact ⟨j + 1, s + pb, by omega, by omega, by go_num, by go_num, HX, st⟩
    · obtain rfl : j = m := by omega
      have HE : Hid (setN bs = s) := Lib.hid (by rw [HS.out, List.take_of_length_le (by have := HBL.out; omega)])
      go_wp2_with fail
      go_ret
      exact ⟨by rw [HE.out]; rfl, st⟩
set_option maxRecDepth 100000 in
set_option maxHeartbeats 1000000 in
theorem refSet_any2 (a : Option Addr) (n c : Nat) (k : Int) (bl : List Bool) (W : World) (h : Fl W a n bl) (hn : n ≤ 4096) :
    Calls Try.prog 18 #[.agg #[.slice a n c, .int .i64 k]] W fun e w' => e = .returned (.int .i64 (bl.count true : Int)) ∧ Ext W w' := by
  have H := Lib.hid h
  have HNB : Hid (n = bl.length) := Lib.hid h.1
  have HST : Hid (∀ j, (bl.take j).count true ≤ n) := Lib.hid (fun j => Nat.le_trans List.count_le_length (by rw [List.length_take, HNB.out]; omega))
  have st := Own.startOld W
  clear h
  (try simp only [nsl, Value.cells, unB] at st)
  (try clear hc); have hc := st.facts; (try simp only [nfl, nft, Nat.reduceAdd] at hc)
  go_enter Try.func18, Try.ntmps18
  go_wp2_with ((((with_reducible refine wl_box ?_ (fun K hK => ?_)); rfl; refine owp_box (o := ⟨some 1, _, _, _, _, _⟩) rfl st ?_; apply Exists.intro; refine ⟨?_, ?_⟩; (focus (go_simp; try rfl)); (clear st; intro b1 w hb st; clear hb))); (try simp only [nsl, Value.cells, unB] at st); (try clear hc); have hc := st.facts; (try simp only [nfl, nft, Nat.reduceAdd] at hc))
  go_loopg [3, 9] n (fun q o i wr => ∃ (j s : Nat), j ≤ n ∧ q = n - j ∧ i = .int .i64 (j : Int) ∧ o = .int .i64 (s : Int) ∧ Hid (s = (bl.take j).count true) ∧ Own (fun _ => False) (fun _ => True) W [oldI W] wr)
  case atStart => exact ⟨0, 0, by omega, by omega, rfl, rfl, Lib.hid (by simp), by
    have st' := st.keep [0] (by decide) (by simp)
    simpa [pick] using st'⟩
  case round =>
    obtain ⟨j, s, hj, rfl, rfl, rfl, HS, st'⟩ := hrel
    clear st hc
    have st := st'
    clear st'
    (try simp only [nsl, Value.cells, unB] at st)
    (try clear hc); have hc := st.facts; (try simp only [nfl, nft, Nat.reduceAdd] at hc)
    by_cases hjn : j < n
    · have hjl : j < bl.length := by rw [← HNB.out]; exact hjn
      obtain ⟨b, off, ha, hcell⟩ := H.out.boo (by omega)
      have r0 := st.oldCell (i := 0) get0 (hcell j bl[j] (List.getElem?_eq_getElem hjl))
      have hct := count_take bl j hjl
      have hsb := HST.out (j + 1)
      obtain ⟨bv, hbv⟩ : ∃ v, bl[j] = v := ⟨_, rfl⟩
      rw [hbv] at r0 hct
      rw [hct, ← HS.out] at hsb
      have HX : Hid ((bl.take (j + 1)).count true = s + (if bv then 1 else 0)) := Lib.hid (by rw [hct, HS.out])
      clear hcell hct hbv hjl
      subst ha
      cases bv with
      | true =>
        simp only [if_true] at hsb
        go_wp2_with fail
        go_roundg (n - (j + 1))
        case measure => omega
        case rel => exact ⟨j + 1, s + 1, by omega, by omega, by go_num, by go_num, Lib.hid (by rw [HX.out]; rfl), st⟩
      | false =>
        go_wp2_with fail
        go_roundg (n - (j + 1))
        case measure => omega
        case rel => exact ⟨j + 1, s, by omega, by omega, by go_num, rfl, Lib.hid (by rw [HX.out]; rfl), st⟩
    · obtain rfl : j = n := by omega
      have HE : Hid (bl.count true = s) := Lib.hid (by rw [HS.out, List.take_of_length_le (by have := HNB.out; omega)])
      go_wp2_with fail
      go_ret
      exact ⟨by rw [HE.out]; rfl, st.ext0⟩
end Go.Proofs.Ytinfkenbjoddlaa

namespace Go.Proofs.Ytinfkenbjoddlaa
set_option linter.unusedSimpArgs false
set_option linter.unusedVariables false
open Go Go.RowKit
/-- A sieve's bytes. -/
def svB (m k : Nat) (bs : List UInt8) : List UInt8 := numB (8 * m) ++ numB k ++ bs
theorem popB_div (b : UInt8) (k : Nat) : b.toNat / 2 ^ k = b.toNat / 2 ^ (k + 1) * 2 + (if b.toNat.testBit k then 1 else 0) := by
  rw [Nat.pow_succ, ← Nat.div_div_eq_div_mul, Nat.testBit_eq_decide_div_mod_eq]
  generalize b.toNat / 2 ^ k = q
  rcases Nat.mod_two_eq_zero_or_one q with h | h <;> simp [h] <;> omega
set_option maxRecDepth 100000 in
set_option maxHeartbeats 1000000 in
theorem svBytes_no (W : World) : Calls Try.prog 11 #[.pointer none] W fun e w' => e = .returned (.slice none 0 0) ∧ Ext W w' := by
  go_enter Try.func11, Try.ntmps11
  go_wp2_with fail
  go_ret
  exact ⟨rfl, Ext.refl _⟩
set_option maxRecDepth 100000 in
set_option maxHeartbeats 1000000 in
theorem svBytes_c {fr al : Nat → Prop} {W : World} {p m sc k : Nat} {sa : Option Addr} {bs : List UInt8} (st : Own fr al W [blkI p [.slice sa m sc, .int .i64 (k : Int)], byI sa m bs] W) (hbl : bs.length = m) (hm : m ≤ 512) (hk : k ≤ 8) :
    Calls Try.prog 11 #[.pointer (some ⟨p, 0, none⟩)] W fun e w' => ∃ a c, e = .returned (.slice a (svB m k bs).length c) ∧ ((svB m k bs).length ≤ c ∧ c ≤ maxLen) ∧ Own fr al W [blkI p [.slice sa m sc, .int .i64 (k : Int)], byI sa m bs, rowI 5 1 (.slice a (svB m k bs).length c) (svB m k bs).length ((svB m k bs).map B)] w' := by
  have HBL := Lib.hid hbl
  have hb1 : (numB (8 * m)).length ≤ 10 := numF_len 10 _
  have hb2 : (numB k).length ≤ 10 := numF_len 10 _
  have HN1 := Lib.hid (fun (fr al : Nat → Prop) (w : World) (p : Nat) (st : Own fr al w [penI p []] w) => by
    have h := penNumber_c st (8 * m) (by omega) (by simp)
    rwa [show ((8 * m : Nat) : Int) = 8 * (m : Int) by omega] at h)
  have HN2 := Lib.hid (fun (fr al : Nat → Prop) (w : World) (p : Nat) (xs : List UInt8) (st : Own fr al w [penI p xs] w) => penNumber_c st k (by omega))
  obtain ⟨u1, hu1⟩ : ∃ u, numB (8 * m) = u := ⟨_, rfl⟩
  obtain ⟨u2, hu2⟩ : ∃ u, numB k = u := ⟨_, rfl⟩
  have HU : Hid (svB m k bs = u1 ++ u2 ++ bs) := Lib.hid (by unfold svB; rw [hu1, hu2])
  rw [hu1] at hb1 HN1
  rw [hu2] at hb2 HN2
  obtain ⟨r, hr⟩ : ∃ r, svB m k bs = r := ⟨_, rfl⟩
  rw [hr] at HU ⊢
  clear hbl hu1 hu2 hr
  (try simp only [nsl, Value.cells, unB] at st)
  (try clear hc); have hc := st.facts; (try simp only [nfl, nft, Nat.reduceAdd] at hc)
  go_enter Try.func11, Try.ntmps11
  go_wp2_with ((((with_reducible refine wl_box ?_ (fun K hK => ?_)); rfl; refine owp_box (o := ⟨some 7, _, _, _, _, _⟩) rfl st ?_; apply Exists.intro; refine ⟨?_, ?_⟩; (focus (go_simp; try rfl)); (clear st; intro b7 w hb st; clear hb))); (try simp only [nsl, Value.cells, unB] at st); (try clear hc); have hc := st.facts; (try simp only [nfl, nft, Nat.reduceAdd] at hc))
  replace st := st.newPen (i := 2) get2
  (try simp only [nsl, Value.cells, unB] at st)
  (try clear hc); have hc := st.facts; (try simp only [nfl, nft, Nat.reduceAdd] at hc)
  go_wp2_with ((((with_reducible refine wl_box ?_ (fun K hK => ?_)); rfl; refine owp_box (o := ⟨some 7, _, _, _, _, _⟩) rfl st ?_; apply Exists.intro; refine ⟨?_, ?_⟩; (focus (go_simp; try rfl)); (clear st; intro b7 w hb st; clear hb))); (try simp only [nsl, Value.cells, unB] at st); (try clear hc); have hc := st.facts; (try simp only [nfl, nft, Nat.reduceAdd] at hc))
  obtain ⟨fr', al', st', back⟩ := st.sub [2] (by decide) (by simp)
  (try simp only [nsl, Value.cells, unB] at st')
  refine (HN1.out _ _ _ _ st').mono ?_
  clear st'
  rintro en w ⟨rfl, st'⟩
  replace st := back _ _ (by simp) st'
  clear back st'
  (try simp only [nsl, Value.cells, unB] at st)
  (try clear hc); have hc := st.facts; (try simp only [nfl, nft, Nat.reduceAdd] at hc)
  (try simp only [List.nil_append] at st)
  go_wp2_with ((((with_reducible refine wl_box ?_ (fun K hK => ?_)); rfl; refine owp_box (o := ⟨some 7, _, _, _, _, _⟩) rfl st ?_; apply Exists.intro; refine ⟨?_, ?_⟩; (focus (go_simp; try rfl)); (clear st; intro b7 w hb st; clear hb))); (try simp only [nsl, Value.cells, unB] at st); (try clear hc); have hc := st.facts; (try simp only [nfl, nft, Nat.reduceAdd] at hc))
  obtain ⟨fr', al', st', back⟩ := st.sub [2] (by decide) (by simp)
  (try simp only [nsl, Value.cells, unB] at st')
  refine (HN2.out _ _ _ _ _ st' (by omega)).mono ?_
  clear st'
  rintro en w ⟨rfl, st'⟩
  replace st := back _ _ (by simp) st'
  clear back st'
  (try simp only [nsl, Value.cells, unB] at st)
  (try clear hc); have hc := st.facts; (try simp only [nfl, nft, Nat.reduceAdd] at hc)
  go_wp2_with ((((with_reducible refine wl_box ?_ (fun K hK => ?_)); rfl; refine owp_box (o := ⟨some 7, _, _, _, _, _⟩) rfl st ?_; apply Exists.intro; refine ⟨?_, ?_⟩; (focus (go_simp; try rfl)); (clear st; intro b7 w hb st; clear hb))); (try simp only [nsl, Value.cells, unB] at st); (try clear hc); have hc := st.facts; (try simp only [nfl, nft, Nat.reduceAdd] at hc))
  have hby := st.by (i := 1) get1
  obtain ⟨gp, hp⟩ := st.pen (i := 2) get2
  refine (penRaw_any _ gp _ _ m sc bs _ hp hby (by have := HBL.out; simp; omega)).mono ?_
  rintro en w' ⟨rfl, g', h2, h3⟩
  replace st := st.penStep (i := 2) get2 hp h2 h3
  clear h2 h3 hp hby
  simp only [List.set] at st
  rw [← HU.out] at st
  have hrl : r.length ≤ 1000 := by rw [HU.out]; have := HBL.out; simp; omega
  (try simp only [nsl, Value.cells, unB] at st)
  (try clear hc); have hc := st.facts; (try simp only [nfl, nft, Nat.reduceAdd] at hc)
  go_wp2_with ((((with_reducible refine wl_box ?_ (fun K hK => ?_)); rfl; refine owp_box (o := ⟨some 7, _, _, _, _, _⟩) rfl st ?_; apply Exists.intro; refine ⟨?_, ?_⟩; (focus (go_simp; try rfl)); (clear st; intro b7 w hb st; clear hb))); (try simp only [nsl, Value.cells, unB] at st); (try clear hc); have hc := st.facts; (try simp only [nfl, nft, Nat.reduceAdd] at hc))
  obtain ⟨fr', al', st', back⟩ := st.sub [2] (by decide) (by simp)
  (try simp only [nsl, Value.cells, unB] at st')
  refine (penBytesRow_c st' (by omega)).mono ?_
  clear st'
  rintro en w ⟨pa, pc, rfl, hpc, st'⟩
  replace st := back _ _ (by simp) st'
  clear back st'
  (try simp only [nsl, Value.cells, unB] at st)
  (try clear hc); have hc := st.facts; (try simp only [nfl, nft, Nat.reduceAdd] at hc)
  go_wp2_with ((((with_reducible refine wl_box ?_ (fun K hK => ?_)); rfl; refine owp_box (o := ⟨some 7, _, _, _, _, _⟩) rfl st ?_; apply Exists.intro; refine ⟨?_, ?_⟩; (focus (go_simp; try rfl)); (clear st; intro b7 w hb st; clear hb))); (try simp only [nsl, Value.cells, unB] at st); (try clear hc); have hc := st.facts; (try simp only [nfl, nft, Nat.reduceAdd] at hc))
  go_ret
  have st' := st.keep [0, 1, 3] (by decide) (by simp)
  exact ⟨_, _, rfl, hpc, by simpa [pick] using st'⟩
set_option maxRecDepth 100000 in
set_option maxHeartbeats 2000000 in
theorem refSvBytes_any (a : Option Addr) (n c m k : Nat) (bs : List UInt8) (W : World) (h : Fl W a n (bitsOf bs)) (hbl : bs.length = m) (hm : m ≤ 512) (hk : k ≤ 8) :
    Calls Try.prog 19 #[.agg #[.slice a n c, .int .i64 (k : Int)]] W fun e w' => e = .returned (S (svB m k bs)) ∧ Ext W w' := by
  have hcv := fun (w : World) (x : Int) => conv_one (P := Try.prog) (src := 33) (dst := 9) (e := 5) Try.underlying33 Try.underlying5 Try.underlying9 5 w x
  have happ := ba_append
  have hn : n = 8 * m := by have := h.1; rw [bitsOf_len] at this; omega
  have H := Lib.hid h
  have HBL := Lib.hid hbl
  have HN1 := Lib.hid (fun W => refNumber_any n W (by omega))
  have HN2 := Lib.hid (fun W => refNumber_any k W (by omega))
  have hb1 : (numB n).length ≤ 10 := numF_len 10 _
  have hb2 : (numB k).length ≤ 10 := numF_len 10 _
  obtain ⟨u1, hu1⟩ : ∃ u, numB n = u := ⟨_, rfl⟩
  obtain ⟨u2, hu2⟩ : ∃ u, numB k = u := ⟨_, rfl⟩
  have HU : Hid (svB m k bs = u1 ++ u2 ++ bs) := Lib.hid (by unfold svB; rw [← hn, hu1, hu2])
  rw [hu1] at hb1 HN1
  rw [hu2] at hb2 HN2
  obtain ⟨r, hr⟩ : ∃ r, svB m k bs = r := ⟨_, rfl⟩
  rw [hr] at HU ⊢
  have HNM := Lib.hid hn
  have hn5 : n ≤ 4096 := by omega
  clear hbl hu1 hu2 hr h hn
  have st := Own.startOld W
  unfold S at HN1 HN2 ⊢
  (try simp only [nsl, Value.cells, unB] at st)
  (try clear hc); have hc := st.facts; (try simp only [nfl, nft, Nat.reduceAdd] at hc)
  go_enter Try.func19, Try.ntmps19
  go_wp2_with ((first
        | ((with_reducible refine wl_box ?_ (fun K hK => ?_)); rfl; refine owp_box (o := ⟨some 1, _, _, _, _, _⟩) rfl st ?_; apply Exists.intro; refine ⟨?_, ?_⟩; (focus (go_simp; try rfl)); (clear st; intro b1 w hb st; clear hb))
        | ((with_reducible refine wl_buildSlice ?_ (fun K hK => ?_)); rfl; refine owp_buildSlice (o := ⟨some 40, _, _, _, _, _⟩) rfl st ?_; apply Exists.intro; apply Exists.intro; apply Exists.intro; apply Exists.intro; refine ⟨?_, ?_⟩; (focus (go_simp; (first | done | exact ⟨⟨rfl, rfl⟩, rfl⟩ | rfl))); (clear st; intro b40 w hb st; clear hb))
        | ((with_reducible refine wl_convert ?_ (fun K hK => ?_)); rfl; (first | (refine owp_bs (o := ⟨some 41, _, _, _, _, _⟩) rfl st 0 get0 rfl Try.underlying33 Try.underlying5 Try.underlying9 ?_) | (refine owp_bs (o := ⟨some 41, _, _, _, _, _⟩) rfl st 1 get1 rfl Try.underlying33 Try.underlying5 Try.underlying9 ?_) | (refine owp_bs (o := ⟨some 41, _, _, _, _, _⟩) rfl st 2 get2 rfl Try.underlying33 Try.underlying5 Try.underlying9 ?_) | (refine owp_bs (o := ⟨some 41, _, _, _, _, _⟩) rfl st 3 get3 rfl Try.underlying33 Try.underlying5 Try.underlying9 ?_) | (refine owp_bs (o := ⟨some 41, _, _, _, _, _⟩) rfl st 4 get4 rfl Try.underlying33 Try.underlying5 Try.underlying9 ?_) | (refine owp_bs (o := ⟨some 41, _, _, _, _, _⟩) rfl st 5 get5 rfl Try.underlying33 Try.underlying5 Try.underlying9 ?_)))); (try simp only [nsl, Value.cells, unB] at st); (try clear hc); have hc := st.facts; (try simp only [nfl, nft, Nat.reduceAdd] at hc))
  refine Rg4.wp_region4 (Rel := Ext) #[0, 1, 3, 7, 0, 16, 63, 127, 255]
    [(3, .val (.string ⟨u1.toArray⟩)), (6, .val (.string ⟨u2.toArray⟩))] [] [1, 5] (fun _ => True) [0, 1, 2, 3, 4, 5, 6, 7, 8] (by kernel_rfl) (by kernel_rfl) (by kernel_rfl) (by kernel_rfl) Ext.refl (fun _ _ _ => Ext.trans) (show Rg4.PB _ by repeat (first | with_reducible exact Rg4.pb_body | with_reducible exact Rg4.pb_bodyD rfl | with_reducible refine Rg4.pb_then ?_ | with_reducible refine Rg4.pb_inBlock ?_ | with_reducible refine Rg4.pb_noGoto ?_)) (trivial) ?_
  replace st := st.drew
  change Rg4.wp4 _ _ _ _ _ _ _ _ _ (World.drew _) _ _
  generalize World.drew _ = w at st ⊢
  (try clear hc); have hc := st.facts; (try simp only [nfl, nft, Nat.reduceAdd] at hc)
  (refine Rg4.w4_any (Rg4.want_none rfl) rfl ?_; apply Exists.intro; refine ⟨fun w' => ?_, ?_⟩; (focus (first | (go_simp; done) | (go_simp; first | rfl | (rw [if_neg] <;> first | rfl | omega) | (rw [if_pos] <;> first | rfl | omega)))); (try simp only [Rg4.nrm]))
  (refine Rg4.w4_read (Rg4.want_none rfl) rfl rfl ?_; apply Exists.intro; refine ⟨fun w' hw' hcl' => ?_, ?_⟩; focus (have st' := st.ext hw'; have hc' := st'.facts; (try simp only [nfl, nft, Nat.reduceAdd] at hc'); (focus (first | (go_simp; done) | (go_simp; first | rfl | (rw [if_neg] <;> first | rfl | omega) | (rw [if_pos] <;> first | rfl | omega))))); (try simp only [Rg4.nrm]))
  (refine Rg4.w4_any (Rg4.want_none rfl) rfl ?_; apply Exists.intro; refine ⟨fun w' => ?_, ?_⟩; (focus (first | (go_simp; done) | (go_simp; first | rfl | (rw [if_neg] <;> first | rfl | omega) | (rw [if_pos] <;> first | rfl | omega)))); (try simp only [Rg4.nrm]))
  refine Rg4.w4_some (Rg4.want_none rfl) rfl (fun w' hw' hcl' _ => ?_) ?_
  · refine Rg.relAt_call (by go_simp; exact ⟨rfl, rfl⟩) ?_
    refine (HN1.out _).mono ?_
    rintro en w'' ⟨rfl, hx⟩
    exact ⟨_, rfl, hx, trivial, rfl⟩
  rintro v ⟨_, _, _, rfl⟩
  (try simp only [Rg4.nrm])
  (refine Rg4.w4_any (Rg4.want_none rfl) rfl ?_; apply Exists.intro; refine ⟨fun w' => ?_, ?_⟩; (focus (first | (go_simp; done) | (go_simp; first | rfl | (rw [if_neg] <;> first | rfl | omega) | (rw [if_pos] <;> first | rfl | omega)))); (try simp only [Rg4.nrm]))
  (refine Rg4.w4_read (Rg4.want_none rfl) rfl rfl ?_; apply Exists.intro; refine ⟨fun w' hw' hcl' => ?_, ?_⟩; focus (have st' := st.ext hw'; have hc' := st'.facts; (try simp only [nfl, nft, Nat.reduceAdd] at hc'); (focus (first | (go_simp; done) | (go_simp; first | rfl | (rw [if_neg] <;> first | rfl | omega) | (rw [if_pos] <;> first | rfl | omega))))); (try simp only [Rg4.nrm]))
  refine Rg4.w4_some (Rg4.want_none rfl) rfl (fun w' hw' hcl' _ => ?_) ?_
  · refine Rg.relAt_call (by go_simp; exact ⟨rfl, rfl⟩) ?_
    refine (HN2.out _).mono ?_
    rintro en w'' ⟨rfl, hx⟩
    exact ⟨_, rfl, hx, trivial, rfl⟩
  rintro v ⟨_, _, _, rfl⟩
  (try simp only [Rg4.nrm])
  iterate 2 (refine Rg4.w4_any (Rg4.want_none rfl) rfl ?_; apply Exists.intro; refine ⟨fun w' => ?_, ?_⟩; (focus (first | (go_simp; done) | (go_simp; first | rfl | (rw [if_neg] <;> first | rfl | omega) | (rw [if_pos] <;> first | rfl | omega)))); (try simp only [Rg4.nrm]))
  refine Rg4.w4_nil (fun w' hw' hcl' _ => ?_); replace st := st.ext hw'; clear hw' hcl'; (try clear hc); have hc := st.facts; (try simp only [nfl, nft, Nat.reduceAdd] at hc)
  go_wp2_with ((first
        | ((with_reducible refine wl_box ?_ (fun K hK => ?_)); rfl; refine owp_box (o := ⟨some 1, _, _, _, _, _⟩) rfl st ?_; apply Exists.intro; refine ⟨?_, ?_⟩; (focus (go_simp; try rfl)); (clear st; intro b1 w hb st; clear hb))
        | ((with_reducible refine wl_buildSlice ?_ (fun K hK => ?_)); rfl; refine owp_buildSlice (o := ⟨some 40, _, _, _, _, _⟩) rfl st ?_; apply Exists.intro; apply Exists.intro; apply Exists.intro; apply Exists.intro; refine ⟨?_, ?_⟩; (focus (go_simp; (first | done | exact ⟨⟨rfl, rfl⟩, rfl⟩ | rfl))); (clear st; intro b40 w hb st; clear hb))
        | ((with_reducible refine wl_convert ?_ (fun K hK => ?_)); rfl; (first | (refine owp_bs (o := ⟨some 41, _, _, _, _, _⟩) rfl st 0 get0 rfl Try.underlying33 Try.underlying5 Try.underlying9 ?_) | (refine owp_bs (o := ⟨some 41, _, _, _, _, _⟩) rfl st 1 get1 rfl Try.underlying33 Try.underlying5 Try.underlying9 ?_) | (refine owp_bs (o := ⟨some 41, _, _, _, _, _⟩) rfl st 2 get2 rfl Try.underlying33 Try.underlying5 Try.underlying9 ?_) | (refine owp_bs (o := ⟨some 41, _, _, _, _, _⟩) rfl st 3 get3 rfl Try.underlying33 Try.underlying5 Try.underlying9 ?_) | (refine owp_bs (o := ⟨some 41, _, _, _, _, _⟩) rfl st 4 get4 rfl Try.underlying33 Try.underlying5 Try.underlying9 ?_) | (refine owp_bs (o := ⟨some 41, _, _, _, _, _⟩) rfl st 5 get5 rfl Try.underlying33 Try.underlying5 Try.underlying9 ?_)))); (try simp only [nsl, Value.cells, unB] at st); (try clear hc); have hc := st.facts; (try simp only [nfl, nft, Nat.reduceAdd] at hc))
  go_loopg [3, 4] m (fun q o i wr => ∃ (j i8 : Nat) (y : List UInt8), j ≤ m ∧ q = m - j ∧ i = .int .i64 (i8 : Int) ∧ o = .string ⟨y.toArray⟩ ∧ Hid (i8 = 8 * j) ∧ Hid (y = u1 ++ u2 ++ bs.take j) ∧ Own (fun _ => False) (fun _ => True) W [oldI W, blkI b1 [.slice a n c, .int .i64 (k : Int)]] wr)
  case atStart => exact ⟨0, 0, _, by omega, by omega, rfl, rfl, Lib.hid rfl, Lib.hid (by simp), st⟩
  case round =>
    obtain ⟨j, i8, y, hj, rfl, rfl, rfl, HI8, HY, st'⟩ := hrel
    clear st hc
    have st := st'
    clear st'
    have hyl : y.length ≤ 600 := by rw [HY.out]; have := HBL.out; simp; omega
    have h8n : i8 ≤ n := by rw [HI8.out, HNM.out]; omega
    (try simp only [nsl, Value.cells, unB] at st)
    (try clear hc); have hc := st.facts; (try simp only [nfl, nft, Nat.reduceAdd] at hc)
    by_cases hjm : j < m
    · have hjl : j < bs.length := by rw [HBL.out]; exact hjm
      have hlt : i8 < n := by rw [HI8.out, HNM.out]; omega
      have hlt8 : i8 + 8 ≤ n := by rw [HI8.out, HNM.out]; omega
      have HTJ : Hid (y ++ [bs[j]] = u1 ++ u2 ++ bs.take (j + 1)) := Lib.hid (by rw [HY.out, ← List.take_append_getElem hjl]; simp)
      have HBT : Hid (∀ q, q < 8 → (bitsOf bs)[i8 + q]? = some (bs[j].toNat.testBit q)) := Lib.hid (fun q hq => by
        rw [bitsOf_at (by rw [HI8.out, HBL.out]; omega), HI8.out]
        unfold bitAt byteOf
        rw [show (8 * j + q) / 8 = j by omega, show (8 * j + q) % 8 = q by omega, List.getElem?_eq_getElem hjl]
        rfl)
      obtain ⟨bb, hbb⟩ : ∃ b, bs[j] = b := ⟨_, rfl⟩
      rw [hbb] at HTJ HBT
      clear hbb hjl
      obtain ⟨b, off, ha, hcell⟩ := H.out.boo (by omega)
      have HCL := Lib.hid hcell
      subst ha
      clear hcell
      go_wp2_with fail
      go_loopg [5, 6] 8 (fun q v i wr => ∃ (kk vv : Nat) (iv : Int), kk ≤ 8 ∧ q = kk ∧ i = .int .i64 iv ∧ iv + 1 = kk ∧ v = .int .i64 (vv : Int) ∧ Hid (vv = bb.toNat / 2 ^ kk) ∧ Own (fun _ => False) (fun _ => True) W [oldI W, blkI b1 [.slice (some ⟨b, off, none⟩) n c, .int .i64 (k : Int)]] wr)
      case atStart => exact ⟨8, 0, _, by omega, rfl, rfl, by omega, rfl, Lib.hid (by have := bb.toNat_lt; omega), st⟩
      case round =>
        obtain ⟨q, vv, iv, hkk, hqq, rfl, hiv, rfl, HV, st'⟩ := hrel
        clear st hc
        have st := st'
        clear st'
        have hv8 : vv < 256 := by rw [HV.out]; exact Nat.lt_of_le_of_lt (Nat.div_le_self _ _) bb.toNat_lt
        (try simp only [nsl, Value.cells, unB] at st)
        (try clear hc); have hc := st.facts; (try simp only [nfl, nft, Nat.reduceAdd] at hc)
        cases q with
        | zero =>
          obtain rfl : iv = -1 := by omega
          have HVB : Hid (UInt8.ofNat vv = bb) := Lib.hid (by rw [HV.out]; simp)
          clear hiv
          go_wp2_with fail
          go_roundg (m - (j + 1))
          case measure => omega
          case rel => exact ⟨j + 1, i8 + 8, y ++ [bb], by omega, by omega, by go_num, by rw [HVB.out], Lib.hid (by rw [HI8.out]; omega), HTJ, st.ext ((Ext.refl _).alloc _)⟩
        | succ q =>
          obtain rfl : iv = (q : Int) := by omega
          have hd := popB_div bb q
          rw [← HV.out] at hd
          have r0 := st.oldCell (i := 0) get0 (HCL.out (i8 + q) _ (HBT.out q (by omega)))
          obtain ⟨bv, hbv⟩ : ∃ v, bb.toNat.testBit q = v := ⟨_, rfl⟩
          rw [hbv] at r0 hd
          have hz : ((i8 : Int) + (q : Int)).toNat = i8 + q := by omega
          have hz1 : (i8 : Int) + (q : Int) < (n : Int) := by omega
          have hz0 : (0 : Int) ≤ (i8 : Int) + (q : Int) := by omega
          have hz2 : IntKind.i64.wrap ((i8 : Int) + (q : Int)) = (i8 : Int) + (q : Int) := IntWalk.i64_in _ ⟨by omega, by omega⟩
          have HD := Lib.hid hd
          clear hiv hbv hd
          cases bv with
          | true =>
            go_wp2_with fail
            go_roundg q
            case measure => omega
            case rel => exact ⟨q, vv * 2 + 1, (q : Int) - 1, by omega, rfl, by go_num, by omega, by go_num, Lib.hid (by rw [HD.out]; rfl), st⟩
          | false =>
            go_wp2_with fail
            go_roundg q
            case measure => omega
            case rel => exact ⟨q, vv * 2, (q : Int) - 1, by omega, rfl, by go_num, by omega, by go_num, Lib.hid (by rw [HD.out]; rfl), st⟩
    · obtain rfl : j = m := by omega
      have HE : Hid (r = y) := Lib.hid (by rw [HU.out, HY.out, List.take_of_length_le (by have := HBL.out; omega)])
      have hge : ¬ i8 < n := by rw [HI8.out, HNM.out]; omega
      go_wp2_with fail
      go_ret
      exact ⟨by simp [HE.out], st.ext0⟩
end Go.Proofs.Ytinfkenbjoddlaa

namespace Go.Proofs.Ytinfkenbjoddlaa
set_option linter.unusedSimpArgs false
set_option linter.unusedVariables false
open Go Go.RowKit
end Go.Proofs.Ytinfkenbjoddlaa

namespace Go.Proofs.Ytinfkenbjoddlaa
set_option linter.unusedSimpArgs false
set_option linter.unusedVariables false
open Go Go.RowKit
section
variable {α : Type} [Inhabited α] [DecidableEq α]
def cup (xs : List α) (m : Nat) : List α := Lib.compactUpTo xs.toArray m
theorem cup_all (xs : List α) : cup xs xs.length = Lib.compact xs := rfl
theorem cup_step {xs : List α} {j q : Nat} {x y : α} (hq : j = q + 1) (hx : xs[j]? = some x) (hy : xs[q]? = some y) : cup xs (j + 1) = cup xs j ++ if x = y then [] else [x] := by
  unfold cup
  rw [Lib.compactUpTo_succ]
  have e1 : xs.toArray[j]! = x := by
    obtain ⟨h1, h2⟩ := List.getElem?_eq_some_iff.1 hx
    simp [h1, h2]
  have e2 : xs.toArray[j - 1]! = y := by
    obtain ⟨h1, h2⟩ := List.getElem?_eq_some_iff.1 hy
    subst hq; simp [h1, h2]
  by_cases h : x = y
  · rw [if_pos h, if_neg]; simp [Lib.keeps, e1, e2, h]; omega
  · rw [if_neg h, if_pos, e1]; simp [Lib.keeps, e1, e2, h]
theorem cup_one {xs : List α} (h : 0 < xs.length) : cup xs 1 = xs.take 1 := by
  cases xs with
  | nil => simp at h
  | cons x xs => simp [cup, Lib.compactUpTo, Lib.keeps, List.range_succ]
end
theorem Own.rowC {fr al : Nat → Prop} {w0 w : World} {L : List It} (st : Own fr al w0 L w) {i n size g c : Nat} {E : TypeId} {xs : List Value} (hi : L[i]? = some (rowI E size (.slice (some ⟨g, 0, none⟩) n c) n xs)) (j : Nat) (u : Value) (hj : xs[j]? = some u) : w.cell? ⟨g, j, none⟩ = some u := by
  have := (st.row hi).cells (g := g) rfl j u hj
  rwa [addr_add, Nat.zero_add] at this
end Go.Proofs.Ytinfkenbjoddlaa

namespace Go.Proofs.Ytinfkenbjoddlaa
set_option linter.unusedSimpArgs false
set_option linter.unusedVariables false
open Go Go.RowKit
def credCmp (a b : CredT) : Int := cmp2 (credBy a) (credBy b)
set_option maxRecDepth 100000 in
set_option maxHeartbeats 1000000 in
theorem refCredCompare_any (x y : CredT) (W : World) (hx : CredL 100000 x) (hy : CredL 100000 y) :
    Calls Try.prog 35 #[cV x, cV y] W fun e w' => e = .returned (.int .i64 (credCmp x y)) ∧ Ext W w' := by
  have HX := Lib.hid (fun W => refCredBy_any x W hx)
  have HY := Lib.hid (fun W => refCredBy_any y W hy)
  have HC : Hid (credCmp x y = cmp2 (credBy x) (credBy y)) := Lib.hid rfl
  clear hx hy
  generalize credBy x = p at *
  generalize credBy y = q at *
  generalize credCmp x y = r at *
  obtain ⟨k, ⟨ho, hd⟩, nw, ⟨bo, bd⟩, ⟨co, cd⟩, we⟩ := x
  obtain ⟨k', ⟨ho', hd'⟩, nw', ⟨bo', bd'⟩, ⟨co', cd'⟩, we'⟩ := y
  have st := Own.startOld W
  unfold cV S at *
  simp only at HX HY
  (try simp only [nsl, Value.cells, unB] at st)
  (try clear hc); have hc := st.facts; (try simp only [nfl, nft, Nat.reduceAdd] at hc)
  go_enter Try.func35, Try.ntmps35
  go_wp2_with ((first
        | ((with_reducible refine wl_box ?_ (fun K hK => ?_)); rfl; refine owp_box (o := ⟨some 2, _, _, _, _, _⟩) rfl st ?_; apply Exists.intro; refine ⟨?_, ?_⟩; (focus (go_simp; try rfl)); (clear st; intro b2 w hb st; clear hb))
        | ((with_reducible refine wl_box ?_ (fun K hK => ?_)); rfl; refine owp_box (o := ⟨some 3, _, _, _, _, _⟩) rfl st ?_; apply Exists.intro; refine ⟨?_, ?_⟩; (focus (go_simp; try rfl)); (clear st; intro b3 w hb st; clear hb))); (try simp only [nsl, Value.cells, unB] at st); (try clear hc); have hc := st.facts; (try simp only [nfl, nft, Nat.reduceAdd] at hc))
  refine (HX.out _).mono ?_
  rintro en w ⟨rfl, hx⟩
  replace st := st.ext hx
  clear hx
  (try clear hc); have hc := st.facts; (try simp only [nfl, nft, Nat.reduceAdd] at hc)
  go_wp2_with fail
  refine (HY.out _).mono ?_
  rintro en w ⟨rfl, hx⟩
  replace st := st.ext hx
  clear hx
  (try clear hc); have hc := st.facts; (try simp only [nfl, nft, Nat.reduceAdd] at hc)
  cases h1 : strLt p q with
  | true =>
    have H1 := Lib.hid h1
    have hb : Op.bytesLess p q = true := h1
    clear h1
    go_wp2_with fail
    go_ret
    exact ⟨by rw [HC.out]; simp [cmp2, H1.out], st.ext0⟩
  | false =>
    have H1 := Lib.hid h1
    have hb : Op.bytesLess p q = false := h1
    clear h1
    cases h2 : strLt q p with
    | true =>
      have H2 := Lib.hid h2
      have hb2 : (!(Op.bytesLess p q || p == q)) = true := by
        rw [hb, (strLt_asymm h2).2]; rfl
      have hb3 : (p == q) = false := (strLt_asymm h2).2
      have hb4 : (!(p == q)) = true := by rw [hb3]; rfl
      clear h2
      go_wp2_with fail
      go_ret
      exact ⟨by rw [HC.out]; simp [cmp2, H1.out, H2.out], st.ext0⟩
    | false =>
      have H2 := Lib.hid h2
      have hpq : p = q := by
        rcases strLt_tri p q with h | h | h
        · rw [H1.out] at h; cases h
        · exact h
        · rw [H2.out] at h; cases h
      subst hpq
      have hb2 : (!(Op.bytesLess p p || p == p)) = false := by simp
      have hb4 : (!(p == p)) = false := by simp
      clear h2
      go_wp2_with fail
      go_ret
      exact ⟨by rw [HC.out]; simp [cmp2, H1.out, H2.out], st.ext0⟩
end Go.Proofs.Ytinfkenbjoddlaa

namespace Go.Proofs.Ytinfkenbjoddlaa
set_option linter.unusedSimpArgs false
set_option linter.unusedVariables false
open Go Go.RowKit
theorem bytesOf_by {P : Program} {w : World} {a : Option Addr} {n c : Nat} {xs : List UInt8} (h : By w a n xs) : (Extern.Bytes.bytesOf (.slice a n c)).run P w = .ok ⟨xs.toArray⟩ w := by
  have hn := h.1
  rcases Nat.eq_zero_or_pos n with h0 | h0
  · have hx : xs = [] := List.eq_nil_of_length_eq_zero (by omega)
    subst hx
    subst h0
    cases a with
    | none => rfl
    | some ad => rfl
  · obtain ⟨b, off, rfl, hc, _⟩ := h.at h0
    have hl := Lib.run_loadBytesX (P := P) w (xs.map fun x => (x.toNat : Int)) ⟨b, off, none⟩ .empty (fun j x hj => by
      rw [List.getElem?_map] at hj
      cases hq : xs[j]? with
      | none => rw [hq] at hj; cases hj
      | some y => rw [hq] at hj; simp at hj; subst hj; rw [addr_add]; exact hc j y hq)
    rw [List.length_map, ← hn] at hl
    change (Extern.Bytes.loadBytes ⟨b, off, none⟩ n .empty).run P w = _
    rw [hl]
    congr 1
    apply ByteArray.ext
    simp [Lib.bytesOf]
    rw [show ((fun n : Int => UInt8.ofNat n.toNat) ∘ fun x : UInt8 => (x.toNat : Int)) = id from by funext x; simp, List.map_id]
theorem cmpExt {P : Program} {w : World} {a a' : Option Addr} {n n' c c' : Nat} {xs ys : List UInt8} (h : By w a n xs) (h' : By w a' n' ys) :
    (Extern.BytealgCompare.compare #[.slice a n c, .slice a' n' c']).run P w = .ok (.int .i64 (cmp2 xs ys)) w := by
  change Sem.run P (do pure (goInt (Extern.BytealgCompare.cmp (← Extern.Bytes.bytesOf (.slice a n c)) (← Extern.Bytes.bytesOf (.slice a' n' c'))))) w = _
  simp only [Sem.run_bind, Sem.run_pure, bytesOf_by h, bytesOf_by h', Result.andThen]
  rw [Lib.cmp_eq, cmpBytes_eq]
  rfl
set_option maxRecDepth 100000 in
set_option maxHeartbeats 1000000 in
theorem bytesCompare_any {W : World} {a a' : Option Addr} {n n' c c' : Nat} {xs ys : List UInt8} (h : By W a n xs) (h' : By W a' n' ys) :
    Calls Try.prog 74 #[.slice a n c, .slice a' n' c'] W fun e w' => e = .returned (.int .i64 (cmp2 xs ys)) ∧ Ext W w' := by
  have H := Lib.hid (cmpExt (P := Try.prog) (c := c) (c' := c') h h')
  clear h h'
  have st := Own.startOld W
  (try simp only [nsl, Value.cells, unB] at st)
  (try clear hc); have hc := st.facts; (try simp only [nfl, nft, Nat.reduceAdd] at hc)
  go_enter Try.func74, Try.ntmps74
  go_wp2_with fail
  rw [run_callFunc_extern Try.func90 (by kernel_rfl) (by kernel_rfl) (by kernel_rfl) (e := Extern.BytealgCompare.compare) (by kernel_rfl), H.out]
  simp only [Result.andThen]
  rw [Oper.upon_value]
  go_wp2_with fail
  go_ret
  exact ⟨rfl, st.ext0⟩
end Go.Proofs.Ytinfkenbjoddlaa

namespace Go.Proofs.Ytinfkenbjoddlaa
set_option linter.unusedSimpArgs false
set_option linter.unusedVariables false
open Go Go.RowKit
set_option maxRecDepth 100000 in
set_option maxHeartbeats 1000000 in
theorem credCompare_any (x y : CredT) (W : World) (hx : CredL 100000 x) (hy : CredL 100000 y) :
    Calls Try.prog 57 #[cV x, cV y] W fun e w' => e = .returned (.int .i64 (credCmp x y)) ∧ Ext W w' := by
  have HX := Lib.hid (fun W => credBytes_any x W hx)
  have HY := Lib.hid (fun W => credBytes_any y W hy)
  have HC : Hid (credCmp x y = cmp2 (credBy x) (credBy y)) := Lib.hid rfl
  clear hx hy
  generalize credBy x = p at *
  generalize credBy y = q at *
  generalize credCmp x y = r at *
  obtain ⟨k, ⟨ho, hd⟩, nw, ⟨bo, bd⟩, ⟨co, cd⟩, we⟩ := x
  obtain ⟨k', ⟨ho', hd'⟩, nw', ⟨bo', bd'⟩, ⟨co', cd'⟩, we'⟩ := y
  have st := Own.startOld W
  unfold cV S at *
  simp only at HX HY
  (try simp only [nsl, Value.cells, unB] at st)
  (try clear hc); have hc := st.facts; (try simp only [nfl, nft, Nat.reduceAdd] at hc)
  go_enter Try.func57, Try.ntmps57
  go_wp2_with ((first
        | ((with_reducible refine wl_box ?_ (fun K hK => ?_)); rfl; refine owp_box (o := ⟨some 2, _, _, _, _, _⟩) rfl st ?_; apply Exists.intro; refine ⟨?_, ?_⟩; (focus (go_simp; try rfl)); (clear st; intro b2 w hb st; clear hb))
        | ((with_reducible refine wl_box ?_ (fun K hK => ?_)); rfl; refine owp_box (o := ⟨some 3, _, _, _, _, _⟩) rfl st ?_; apply Exists.intro; refine ⟨?_, ?_⟩; (focus (go_simp; try rfl)); (clear st; intro b3 w hb st; clear hb))); (try simp only [nsl, Value.cells, unB] at st); (try clear hc); have hc := st.facts; (try simp only [nfl, nft, Nat.reduceAdd] at hc))
  refine Rg4.wp_region4_eq #[0, 1, 0, 7, 15, 31] [1, 3, 4] [0] (fun W' => Blk W' b3 [.int .i64 k', .string ⟨ho'.toArray⟩, .string ⟨hd'.toArray⟩, .string ⟨nw'.toArray⟩, .string ⟨bo'.toArray⟩, .string ⟨bd'.toArray⟩, .string ⟨co'.toArray⟩, .string ⟨cd'.toArray⟩, .string ⟨we'.toArray⟩]) [0, 2, 1, 3, 4, 5] (by kernel_rfl) (by kernel_rfl) (by kernel_rfl) (by kernel_rfl) (show Rg4.PB _ by repeat (first | with_reducible exact Rg4.pb_body | with_reducible exact Rg4.pb_bodyD rfl | with_reducible refine Rg4.pb_then ?_ | with_reducible refine Rg4.pb_inBlock ?_ | with_reducible refine Rg4.pb_noGoto ?_)) (st.drew.blk (i := 2) get2) ?_
  replace st := st.drew
  change Rg4.wp4 _ _ _ _ _ _ _ _ _ (World.drew _) _ _
  generalize World.drew _ = w at st ⊢
  (try clear hc); have hc := st.facts; (try simp only [nfl, nft, Nat.reduceAdd] at hc)
  (refine Rg4.w4_read (Rg4.want_none rfl) rfl rfl ?_; apply Exists.intro; refine ⟨fun w' hw' hcl' => ?_, ?_⟩; focus (subst hw'; (focus (first | (go_simp; done) | (go_simp; first | rfl | (rw [if_neg] <;> first | rfl | omega) | (rw [if_pos] <;> first | rfl | omega))))); (try simp only [Rg4.nrm]))
  (refine Rg4.w4_cl (Rg4.want_none rfl) rfl ?_; apply Exists.intro; refine ⟨fun w' hcl => ?_, ?_⟩; (focus (have q0 := Blk.cell hcl 0; have q1 := Blk.cell hcl 1; have q2 := Blk.cell hcl 2; have q3 := Blk.cell hcl 3; have q4 := Blk.cell hcl 4; have q5 := Blk.cell hcl 5; have q6 := Blk.cell hcl 6; have q7 := Blk.cell hcl 7; have q8 := Blk.cell hcl 8; (try simp at q0 q1 q2 q3 q4 q5 q6 q7 q8); (focus (first | (go_simp; done) | (go_simp; first | rfl | (rw [if_neg] <;> first | rfl | omega) | (rw [if_pos] <;> first | rfl | omega)))))); (try simp only [Rg4.nrm]))
  refine Rg4.w4_bar (Rg4.want_none rfl) rfl (fun w' hw' hcl _ K hK => ?_)
  subst hw'
  go_wp2_with fail
  refine (HX.out _).mono ?_
  rintro en w ⟨pa, pn, pc, rfl, hpc, hby, hx⟩
  replace st := st.ext hx
  clear hx
  (try simp only [nsl, Value.cells, unB] at st)
  (try clear hc); have hc := st.facts; (try simp only [nfl, nft, Nat.reduceAdd] at hc)
  refine hK _ _ ⟨st.blk (i := 2) get2, ?_⟩
  clear hK
  (try simp only [Rg4.nrm])

  refine Rg4.w4_bar (Rg4.want_none rfl) rfl (fun w' hw' hcl _ K hK => ?_)
  subst hw'
  go_wp2_with fail
  refine (HY.out _).mono ?_
  rintro en w ⟨qa, qn, qc, rfl, hqc, hqy, hx⟩
  have hby2 := hby.ext hx
  replace st := st.ext hx
  clear hx
  (try simp only [nsl, Value.cells, unB] at st)
  (try clear hc); have hc := st.facts; (try simp only [nfl, nft, Nat.reduceAdd] at hc)
  refine hK _ _ ⟨st.blk (i := 2) get2, ?_⟩
  clear hK
  (try simp only [Rg4.nrm])

  refine Rg4.w4_bar (Rg4.want_none rfl) rfl (fun w' hw' hcl _ K hK => ?_)
  subst hw'
  go_wp2_with fail
  refine (bytesCompare_any hby2 hqy).mono ?_
  rintro en w ⟨rfl, hx⟩
  replace st := st.ext hx
  clear hx
  (try simp only [nsl, Value.cells, unB] at st)
  (try clear hc); have hc := st.facts; (try simp only [nfl, nft, Nat.reduceAdd] at hc)
  refine hK _ _ ⟨st.blk (i := 2) get2, ?_⟩
  clear hK
  (try simp only [Rg4.nrm])
  (refine Rg4.w4_any (Rg4.want_none rfl) rfl ?_; apply Exists.intro; refine ⟨fun w' => ?_, ?_⟩; (focus (first | (go_simp; done) | (go_simp; first | rfl | (rw [if_neg] <;> first | rfl | omega) | (rw [if_pos] <;> first | rfl | omega)))); (try simp only [Rg4.nrm]))
  refine Rg4.w4_nil (fun w' hw' hcl' _ => ?_); subst hw'; clear hcl'
  go_wp2_with fail
  go_ret
  exact ⟨by rw [HC.out]; rfl, st.ext0⟩
end Go.Proofs.Ytinfkenbjoddlaa

namespace Go.Proofs.Ytinfkenbjoddlaa
set_option linter.unusedSimpArgs false
set_option linter.unusedVariables false
open Go Go.RowKit
def zC : CredT := ⟨0, ([], []), [], ([], []), ([], []), []⟩
theorem cred_cells (x : CredT) : Flt.cells x = [.int .i64 x.k, .string ⟨x.h.1.toArray⟩, .string ⟨x.h.2.toArray⟩, .string ⟨x.w.toArray⟩, .string ⟨x.b.1.toArray⟩, .string ⟨x.b.2.toArray⟩, .string ⟨x.c.1.toArray⟩, .string ⟨x.c.2.toArray⟩, .string ⟨x.e.toArray⟩] := rfl
theorem credInfo : ∃ i, Try.prog.info? 45 = some i ∧ i.zero = some (cV zC) ∧ i.size = 9 ∧ i.bytes = 136 := info_parts (by kernel_rfl)
theorem credLen {w : World} {n : Nat} {v : Value} {E : TypeId} {xs : List CredT} (h : w.ownsRow 0 E 9 v n (cellsL xs)) : n = xs.length := by
  have := h.1
  rw [cellsL_len, fltCred_k] at this
  omega
theorem cred_get {xs : List CredT} {j : Nat} {x : CredT} (h : xs[j]? = some x) : (cellsL xs)[j * 9]? = some (.int .i64 x.k) ∧ (cellsL xs)[j * 9 + 1]? = some (S x.h.1) ∧ (cellsL xs)[j * 9 + 2]? = some (S x.h.2) ∧ (cellsL xs)[j * 9 + 3]? = some (S x.w) ∧ (cellsL xs)[j * 9 + 4]? = some (S x.b.1) ∧ (cellsL xs)[j * 9 + 5]? = some (S x.b.2) ∧ (cellsL xs)[j * 9 + 6]? = some (S x.c.1) ∧ (cellsL xs)[j * 9 + 7]? = some (S x.c.2) ∧ (cellsL xs)[j * 9 + 8]? = some (S x.e) :=
  ⟨cellsL_get (i := j) (j := 0) h (by decide), cellsL_get (i := j) (j := 1) h (by decide), cellsL_get (i := j) (j := 2) h (by decide), cellsL_get (i := j) (j := 3) h (by decide), cellsL_get (i := j) (j := 4) h (by decide), cellsL_get (i := j) (j := 5) h (by decide), cellsL_get (i := j) (j := 6) h (by decide), cellsL_get (i := j) (j := 7) h (by decide), cellsL_get (i := j) (j := 8) h (by decide)⟩
set_option maxRecDepth 100000 in
set_option maxHeartbeats 1000000 in
theorem indexFuncCred_c {fr al : Nat → Prop} {w0 w : World} {n c : Nat} {a : Option Addr} {xs : List CredT} (st : Own fr al w0 [rowI 45 9 (.slice a n c) n (cellsL xs)] w) (hn : n ≤ 2000000) (F : FuncId) (cap : Array Value) (p : CredT → Bool)
    (hi : ∀ w x, (callFunc F (#[x] ++ cap)).run Try.prog w = .ok (.enter F (#[x] ++ cap)) w)
    (hp : ∀ x ∈ xs, ∀ w, Calls Try.prog F (#[cV x] ++ cap) w fun e w' => e = .returned (.bool (p x)) ∧ Ext w w') :
    Calls Try.prog 53 #[.slice a n c, .func (.func F) #[] cap] w fun e w' => ∃ v, e = .returned (.int .i64 v) ∧ IxIs p xs v ∧ Own fr al w0 [rowI 45 9 (.slice a n c) n (cellsL xs)] w' := by
  have HP := Lib.hid hp
  have HN : Hid (n = xs.length) := Lib.hid (credLen (st.row (i := 0) get0))
  clear hp
  (try simp only [nsl, Value.cells, unB] at st)
  (try clear hc); have hc := st.facts; (try simp only [nfl, nft, Nat.reduceAdd] at hc)
  go_enter Try.func53, Try.ntmps53
  go_wp2_with fail
  go_loopg [8] n (fun k i wr => ∃ (j : Nat), j ≤ n ∧ k = n - j ∧ i = .int .i64 (j : Int) ∧ Hid (∀ x ∈ xs.take j, p x = false) ∧ Own fr al w0 [rowI 45 9 (.slice a n c) n (cellsL xs)] wr)
  case atStart => exact ⟨0, by omega, by omega, rfl, Lib.hid (by simp), st⟩
  case round =>
    obtain ⟨j, hj, rfl, rfl, HT, st'⟩ := hrel
    clear st hc
    have st := st'
    clear st'
    (try simp only [nsl, Value.cells, unB] at st)
    (try clear hc); have hc := st.facts; (try simp only [nfl, nft, Nat.reduceAdd] at hc)
    by_cases hjn : j < n
    · obtain ⟨g, cap', hv, hcap, hrow⟩ := st.rowAt (i := 0) get0 (by omega)
      injection hv with hv1 hv2 hv3
      subst hv1 hv3
      have hjl : j < xs.length := by have := HN.out; omega
      have r0 := hrow (j * 9) (.int .i64 xs[j].k) (cred_get (List.getElem?_eq_getElem hjl)).1
      have r1 := hrow (j * 9 + 1) (S xs[j].h.1) (cred_get (List.getElem?_eq_getElem hjl)).2.1
      have r2 := hrow (j * 9 + 2) (S xs[j].h.2) (cred_get (List.getElem?_eq_getElem hjl)).2.2.1
      have r3 := hrow (j * 9 + 3) (S xs[j].w) (cred_get (List.getElem?_eq_getElem hjl)).2.2.2.1
      have r4 := hrow (j * 9 + 4) (S xs[j].b.1) (cred_get (List.getElem?_eq_getElem hjl)).2.2.2.2.1
      have r5 := hrow (j * 9 + 5) (S xs[j].b.2) (cred_get (List.getElem?_eq_getElem hjl)).2.2.2.2.2.1
      have r6 := hrow (j * 9 + 6) (S xs[j].c.1) (cred_get (List.getElem?_eq_getElem hjl)).2.2.2.2.2.2.1
      have r7 := hrow (j * 9 + 7) (S xs[j].c.2) (cred_get (List.getElem?_eq_getElem hjl)).2.2.2.2.2.2.2.1
      have r8 := hrow (j * 9 + 8) (S xs[j].e) (cred_get (List.getElem?_eq_getElem hjl)).2.2.2.2.2.2.2.2
      have hts : xs.take (j + 1) = xs.take j ++ [xs[j]] := (List.take_append_getElem hjl).symm
      have hx := HP.out xs[j] (List.getElem_mem hjl)
      have hge := List.getElem?_eq_getElem hjl
      clear hrow
      generalize xs[j] = x at *
      obtain ⟨kk, ⟨ho, hd⟩, nw, ⟨bo, bd⟩, ⟨co, cd⟩, we⟩ := x
      have HX := Lib.hid (And.intro hts (And.intro hjl hge))
      clear hts hge hjl
      simp only at r0 r1 r2 r3 r4 r5 r6 r7 r8
      unfold S at r1 r2 r3 r4 r5 r6 r7 r8
      unfold cV S at hx
      have HQ := Lib.hid hx
      clear hx
      go_wp2_with fail
      refine (HQ.out _).mono ?_
      rintro en w ⟨rfl, hx⟩
      replace st := st.ext hx
      clear hx r0 r1 r2 r3 r4 r5 r6 r7 r8
      by_cases hpx : p (⟨kk, (ho, hd), nw, (bo, bd), (co, cd), we⟩ : CredT) = true
      · rw [hpx]
        have HF : Hid (IxIs p xs (j : Int)) := Lib.hid (.inr ⟨j, (⟨kk, (ho, hd), nw, (bo, bd), (co, cd), we⟩ : CredT), rfl, HX.out.2.1, HX.out.2.2, hpx, HT.out⟩)
        clear hpx
        go_wp2_with fail
        go_ret
        exact ⟨_, rfl, HF.out, st⟩
      · have hpx' : p (⟨kk, (ho, hd), nw, (bo, bd), (co, cd), we⟩ : CredT) = false := by simpa using hpx
        rw [hpx']
        have HF : Hid (∀ y ∈ xs.take (j + 1), p y = false) := Lib.hid (fun y hy => by
          rw [HX.out.1] at hy
          rcases List.mem_append.1 hy with q | q
          · exact HT.out y q
          · rw [List.mem_singleton.1 q]; exact hpx')
        clear hpx hpx'
        go_wp2_with fail
        go_roundg (n - (j + 1))
        case measure => omega
        case rel => exact ⟨j + 1, by omega, rfl, by go_num, HF, st⟩
    · obtain rfl : j = n := by omega
      have HF : Hid (IxIs p xs (-1)) := Lib.hid (.inl ⟨rfl, by have := HT.out; rwa [List.take_of_length_le (by have := HN.out; omega)] at this⟩)
      go_wp2_with fail
      go_ret
      exact ⟨_, rfl, HF.out, st⟩
set_option maxRecDepth 100000 in
set_option maxHeartbeats 2000000 in
theorem deleteFuncCred_c {fr al : Nat → Prop} {w0 w : World} {n c : Nat} {a : Option Addr} {xs : List CredT} (st : Own fr al w0 [rowI 45 9 (.slice a n c) n (cellsL xs)] w) (hn : n ≤ 2000000) (F : FuncId) (cap : Array Value) (p : CredT → Bool)
    (hi : ∀ w x, (callFunc F (#[x] ++ cap)).run Try.prog w = .ok (.enter F (#[x] ++ cap)) w)
    (hp : ∀ x ∈ xs, ∀ w, Calls Try.prog F (#[cV x] ++ cap) w fun e w' => e = .returned (.bool (p x)) ∧ Ext w w') :
    Calls Try.prog 31 #[.slice a n c, .func (.func F) #[] cap] w fun e w' => ∃ m, e = .returned (.slice a m c) ∧ Own fr al w0 [rowI 45 9 (.slice a m c) m (cellsL (xs.filter fun x => !p x))] w' := by
  have HP := Lib.hid hp
  have HN : Hid (n = xs.length) := Lib.hid (credLen (st.row (i := 0) get0))
  clear hp
  (try simp only [nsl, Value.cells, unB] at st)
  (try clear hc); have hc := st.facts; (try simp only [nfl, nft, Nat.reduceAdd] at hc)
  go_enter Try.func31, Try.ntmps31
  go_wp2_with fail
  refine (indexFuncCred_c st hn F cap p hi HP.out).mono ?_
  clear st
  rintro en w ⟨v, rfl, hix, st⟩
  rcases hix with ⟨rfl, hall⟩ | ⟨i0, y, rfl, hil, hiy, hpy, hpre⟩
  · have HF : Hid (xs.filter (fun x => !p x) = xs) := Lib.hid (List.filter_eq_self.2 fun x hx => by simp [hall x hx])
    clear hall
    go_wp2_with fail
    go_ret
    exact ⟨n, rfl, by rw [HF.out]; exact st⟩
  · obtain ⟨g, cap', hv, hcap, hrow⟩ := st.rowAt (i := 0) get0 (by have := HN.out; omega)
    injection hv with hv1 hv2 hv3
    subst hv1 hv3
    clear hrow
    have hi0 : i0 < n := by have := HN.out; omega
    have HS : Hid (xs.take i0 = (xs.take (i0 + 1)).filter (fun x => !p x)) := Lib.hid (by
      have e1 : xs[i0] = y := by rw [List.getElem?_eq_getElem hil] at hiy; injection hiy
      rw [← List.take_append_getElem hil, List.filter_append, e1]
      simp only [List.filter_cons, hpy]
      simp
      exact (List.filter_eq_self.2 fun x hx => by simp [hpre x hx]).symm)
    have hcap2 : c ≤ 9223372036854775807 := by have := hcap.2; simpa [maxLen] using this
    have hcap1 := hcap.1
    clear hil hiy hpy hpre hcap
    have hb1 : ((i0 : Int) == -1) = false := by simp
    go_wp2_with fail
    go_loopg [5, 6] (n - (i0 + 1)) (fun k vi vj wr => ∃ (i j : Nat) (zs : List CredT), j ≤ n ∧ k = n - j ∧ i < j ∧ vi = .int .i64 (i : Int) ∧ vj = .int .i64 (j : Int) ∧ Hid (zs.length = n ∧ zs.take i = (xs.take j).filter (fun x => !p x) ∧ zs.drop j = xs.drop j) ∧ Own fr al w0 [rowI 45 9 (.slice (some ⟨g, 0, none⟩) n c) n (cellsL zs)] wr)
    case atStart => exact ⟨i0, i0 + 1, xs, by omega, by omega, by omega, rfl, by go_num, Lib.hid ⟨HN.out.symm, HS.out, rfl⟩, st⟩
    case round =>
      obtain ⟨i, j, zs, hj, rfl, hij, rfl, rfl, HZ, st'⟩ := hrel
      clear st
      have st := st'
      clear st'
      (try simp only [nsl, Value.cells, unB] at st)
      (try clear hc); have hc := st.facts; (try simp only [nfl, nft, Nat.reduceAdd] at hc)
      by_cases hjn : j < n
      · obtain ⟨g', cap', hv, hcap, hrow⟩ := st.rowAt (i := 0) get0 (by omega)
        injection hv with hv1 hv2 hv3
        injection hv1 with hv1
        injection hv1 with hv1 _ _
        subst hv1 hv3
        have hjz : j < zs.length := by have := HZ.out.1; omega
        have hjx : j < xs.length := by have := HN.out; omega
        have hzx : zs[j] = xs[j] := by
          have e1 := congrArg (fun l => l[0]?) HZ.out.2.2
          simp only [List.getElem?_drop, Nat.add_zero, List.getElem?_eq_getElem hjz, List.getElem?_eq_getElem hjx] at e1
          injection e1
        have r0 := hrow (j * 9) (.int .i64 xs[j].k) (by rw [← hzx]; exact (cred_get (List.getElem?_eq_getElem hjz)).1)
        have r1 := hrow (j * 9 + 1) (S xs[j].h.1) (by rw [← hzx]; exact (cred_get (List.getElem?_eq_getElem hjz)).2.1)
        have r2 := hrow (j * 9 + 2) (S xs[j].h.2) (by rw [← hzx]; exact (cred_get (List.getElem?_eq_getElem hjz)).2.2.1)
        have r3 := hrow (j * 9 + 3) (S xs[j].w) (by rw [← hzx]; exact (cred_get (List.getElem?_eq_getElem hjz)).2.2.2.1)
        have r4 := hrow (j * 9 + 4) (S xs[j].b.1) (by rw [← hzx]; exact (cred_get (List.getElem?_eq_getElem hjz)).2.2.2.2.1)
        have r5 := hrow (j * 9 + 5) (S xs[j].b.2) (by rw [← hzx]; exact (cred_get (List.getElem?_eq_getElem hjz)).2.2.2.2.2.1)
        have r6 := hrow (j * 9 + 6) (S xs[j].c.1) (by rw [← hzx]; exact (cred_get (List.getElem?_eq_getElem hjz)).2.2.2.2.2.2.1)
        have r7 := hrow (j * 9 + 7) (S xs[j].c.2) (by rw [← hzx]; exact (cred_get (List.getElem?_eq_getElem hjz)).2.2.2.2.2.2.2.1)
        have r8 := hrow (j * 9 + 8) (S xs[j].e) (by rw [← hzx]; exact (cred_get (List.getElem?_eq_getElem hjz)).2.2.2.2.2.2.2.2)
        have hts : xs.take (j + 1) = xs.take j ++ [xs[j]] := (List.take_append_getElem hjx).symm
        have hx := HP.out xs[j] (List.getElem_mem hjx)
        clear hrow hzx
        generalize xs[j] = x at *
        obtain ⟨kk, ⟨ho, hd⟩, nw, ⟨bo, bd⟩, ⟨co, cd⟩, we⟩ := x
        have HX := Lib.hid hts
        clear hts hjz hjx
        simp only at r0 r1 r2 r3 r4 r5 r6 r7 r8
        unfold S at r1 r2 r3 r4 r5 r6 r7 r8
        unfold cV S at hx
        have HQ := Lib.hid hx
        clear hx
        go_wp2_with ((first
              | ((with_reducible refine wl_alloc ?_ (fun K hK => ?_)); rfl; refine owp_alloc (o := ⟨some 7, _, _, _, _, _⟩) rfl st ?_; apply Exists.intro; apply Exists.intro; refine ⟨?_, ?_⟩; (focus (first | (go_simp; done) | (go_simp; rfl))); (clear st; intro b7 w hb st; clear hb))
              | ((with_reducible refine wl_store ?_ (fun K hK => ?_)); rfl; refine owp_store rfl st ?_; apply Exists.intro; apply Exists.intro; refine ⟨?_, ?_, ?_⟩; (focus (go_simp; try rfl)); (focus (go_simp; try rfl)); (with_reducible refine ⟨1, _, _, _, _, get1, rfl, rfl, ?_, ?_, ?_, ?_⟩); (kernel_rfl); (simp [Value.cells]); (rfl); (clear st; intro w st))); (try simp only [nsl, Value.cells, unB] at st); (try clear hc); have hc := st.facts; (try simp only [nfl, nft, Nat.reduceAdd] at hc))
        clear r0 r1 r2 r3 r4 r5 r6 r7 r8
        refine (HQ.out _).mono ?_
        rintro en w ⟨rfl, hx⟩
        replace st := st.ext hx
        clear hx
        (try clear hc); have hc := st.facts; (try simp only [nfl, nft, Nat.reduceAdd] at hc)
        by_cases hpx : p (⟨kk, (ho, hd), nw, (bo, bd), (co, cd), we⟩ : CredT) = true
        · rw [hpx]
          have HF : Hid ((xs.take (j + 1)).filter (fun x => !p x) = (xs.take j).filter (fun x => !p x) ∧ zs.drop (j + 1) = xs.drop (j + 1)) := Lib.hid ⟨by rw [HX.out, List.filter_append]; simp [hpx], by
            have := congrArg (List.drop 1) HZ.out.2.2; simpa [List.drop_drop] using this⟩
          clear hpx
          go_wp2_with fail
          have st' := st.keep [0] (by decide) (by simp)
          go_roundg (n - (j + 1))
          case measure => omega
          case rel => exact ⟨i, j + 1, zs, by omega, rfl, by omega, rfl, by go_num, Lib.hid ⟨HZ.out.1, by rw [HF.out.1]; exact HZ.out.2.1, HF.out.2⟩, by simpa [pick] using st'⟩
        · have hpx' : p (⟨kk, (ho, hd), nw, (bo, bd), (co, cd), we⟩ : CredT) = false := by simpa using hpx
          rw [hpx']
          have hiz : i < zs.length := by have := HZ.out.1; omega
          have hset := cellsL_set zs i (⟨kk, (ho, hd), nw, (bo, bd), (co, cd), we⟩ : CredT) hiz
          rw [fltCred_k, cred_cells] at hset
          have HF : Hid ((zs.set i (⟨kk, (ho, hd), nw, (bo, bd), (co, cd), we⟩ : CredT)).length = n ∧ (zs.set i (⟨kk, (ho, hd), nw, (bo, bd), (co, cd), we⟩ : CredT)).take (i + 1) = (xs.take (j + 1)).filter (fun x => !p x) ∧ (zs.set i (⟨kk, (ho, hd), nw, (bo, bd), (co, cd), we⟩ : CredT)).drop (j + 1) = xs.drop (j + 1)) := Lib.hid ⟨by simp [HZ.out.1], by
              rw [HX.out, List.filter_append, ← HZ.out.2.1]
              have : (zs.set i (⟨kk, (ho, hd), nw, (bo, bd), (co, cd), we⟩ : CredT))[i]'(by simpa using hiz) = (⟨kk, (ho, hd), nw, (bo, bd), (co, cd), we⟩ : CredT) := by simp
              rw [← List.take_append_getElem (l := zs.set i (⟨kk, (ho, hd), nw, (bo, bd), (co, cd), we⟩ : CredT)) (by simpa using hiz), this]
              rw [List.take_set, List.set_eq_of_length_le (by rw [List.length_take]; omega)]; simp [hpx'], by
              rw [List.drop_set_of_lt (by omega)]
              have := congrArg (List.drop 1) HZ.out.2.2; simpa [List.drop_drop] using this⟩
          have HSET := Lib.hid hset
          clear hpx hpx' hset hiz
          go_wp2_with ((with_reducible refine wl_store ?_ (fun K hK => ?_)); (rfl); (refine owp_storeRow' rfl st ?_; apply Exists.intro; apply Exists.intro; refine ⟨?_, ?_, ?_⟩; (focus (go_simp; try rfl)); (focus (go_simp; try rfl)); refine ⟨0, _, _, _, _, _, _, _, _, get0, rfl, rfl, ?_, ?_, ?_, ?_⟩; (kernel_rfl); (simp [Value.cells]; omega); (rfl); (clear st; intro w st)))
          simp only [List.set_cons_zero] at st
          have st' := st.keep [0] (by decide) (by simp)
          go_roundg (n - (j + 1))
          case measure => omega
          case rel => exact ⟨i + 1, j + 1, zs.set i (⟨kk, (ho, hd), nw, (bo, bd), (co, cd), we⟩ : CredT), by omega, rfl, by omega, by go_num, by go_num, HF, by rw [← HSET.out]; simpa [pick, Value.cells] using st'⟩
      · obtain rfl : j = n := by omega
        obtain ⟨inf, hinf, hz0, hz1, hz2⟩ := credInfo
        have HF : Hid (zs.take i = xs.filter (fun x => !p x)) := Lib.hid (by rw [HZ.out.2.1, List.take_of_length_le (by have := HN.out; omega)])
        go_wp2_with ((with_reducible refine wl_clear ?_ (fun K hK => ?_)); (rfl); (refine owp_clearRow' rfl st Try.underlying23 ?_; apply Exists.intro; apply Exists.intro; apply Exists.intro; refine ⟨?_, ?_⟩; (focus (go_simp; exact ⟨rfl, rfl, rfl⟩)); refine ⟨0, _, _, _, _, i, _, inf, cV zC, get0, hinf, hz0, by decide, rfl, rfl, by omega, by simp, rfl, ?_⟩; (clear st; intro w ys hy1 hy2 st)))
        simp only [List.set_cons_zero] at st
        have st2 := st.rowCut (i := 0) (k := 9) (n := j) (c := c) (g := g) (E := 45) (xs := ys) get0 i (by omega)
        have hct := cellsL_take zs i
        rw [fltCred_k] at hct
        rw [hy1, hct, HF.out, List.set_cons_zero] at st2
        go_ret
        exact ⟨i, rfl, st2⟩
end Go.Proofs.Ytinfkenbjoddlaa

namespace Go.Proofs.Ytinfkenbjoddlaa
set_option linter.unusedSimpArgs false
set_option linter.unusedVariables false
open Go Go.RowKit
set_option maxRecDepth 100000 in
set_option maxHeartbeats 1000000 in
theorem indexFuncCredM_c {fr al : Nat → Prop} {w0 w : World} {n c : Nat} {a : Option Addr} {xs : List CredT} {q1 q2 n3 : Nat} {v1 v2 : List Value} {a3 : Option Addr} {x3 : List UInt8} (st : Own fr al w0 [rowI 45 9 (.slice a n c) n (cellsL xs), blkI q1 v1, blkI q2 v2, byI a3 n3 x3] w) (hn : n ≤ 2000000) (F : FuncId) (cap : Array Value) (p : CredT → Bool)
    (hi : ∀ w x, (callFunc F (#[x] ++ cap)).run Try.prog w = .ok (.enter F (#[x] ++ cap)) w)
    (hp : ∀ x ∈ xs, ∀ (fr al : Nat → Prop) (w : World), Own fr al w [blkI q1 v1, blkI q2 v2, byI a3 n3 x3] w → Calls Try.prog F (#[cV x] ++ cap) w fun e w' => e = .returned (.bool (p x)) ∧ Own fr al w [blkI q1 v1, blkI q2 v2, byI a3 n3 x3] w') :
    Calls Try.prog 53 #[.slice a n c, .func (.func F) #[] cap] w fun e w' => ∃ v, e = .returned (.int .i64 v) ∧ IxIs p xs v ∧ Own fr al w0 [rowI 45 9 (.slice a n c) n (cellsL xs), blkI q1 v1, blkI q2 v2, byI a3 n3 x3] w' := by
  have HP := Lib.hid hp
  have HN : Hid (n = xs.length) := Lib.hid (credLen (st.row (i := 0) get0))
  clear hp
  (try simp only [nsl, Value.cells, unB] at st)
  (try clear hc); have hc := st.facts; (try simp only [nfl, nft, Nat.reduceAdd] at hc)
  go_enter Try.func53, Try.ntmps53
  go_wp2_with fail
  go_loopg [8] n (fun k i wr => ∃ (j : Nat), j ≤ n ∧ k = n - j ∧ i = .int .i64 (j : Int) ∧ Hid (∀ x ∈ xs.take j, p x = false) ∧ Own fr al w0 [rowI 45 9 (.slice a n c) n (cellsL xs), blkI q1 v1, blkI q2 v2, byI a3 n3 x3] wr)
  case atStart => exact ⟨0, by omega, by omega, rfl, Lib.hid (by simp), st⟩
  case round =>
    obtain ⟨j, hj, rfl, rfl, HT, st'⟩ := hrel
    clear st hc
    have st := st'
    clear st'
    (try simp only [nsl, Value.cells, unB] at st)
    (try clear hc); have hc := st.facts; (try simp only [nfl, nft, Nat.reduceAdd] at hc)
    by_cases hjn : j < n
    · obtain ⟨g, cap', hv, hcap, hrow⟩ := st.rowAt (i := 0) get0 (by omega)
      injection hv with hv1 hv2 hv3
      subst hv1 hv3
      have hjl : j < xs.length := by have := HN.out; omega
      have r0 := hrow (j * 9) (.int .i64 xs[j].k) (cred_get (List.getElem?_eq_getElem hjl)).1
      have r1 := hrow (j * 9 + 1) (S xs[j].h.1) (cred_get (List.getElem?_eq_getElem hjl)).2.1
      have r2 := hrow (j * 9 + 2) (S xs[j].h.2) (cred_get (List.getElem?_eq_getElem hjl)).2.2.1
      have r3 := hrow (j * 9 + 3) (S xs[j].w) (cred_get (List.getElem?_eq_getElem hjl)).2.2.2.1
      have r4 := hrow (j * 9 + 4) (S xs[j].b.1) (cred_get (List.getElem?_eq_getElem hjl)).2.2.2.2.1
      have r5 := hrow (j * 9 + 5) (S xs[j].b.2) (cred_get (List.getElem?_eq_getElem hjl)).2.2.2.2.2.1
      have r6 := hrow (j * 9 + 6) (S xs[j].c.1) (cred_get (List.getElem?_eq_getElem hjl)).2.2.2.2.2.2.1
      have r7 := hrow (j * 9 + 7) (S xs[j].c.2) (cred_get (List.getElem?_eq_getElem hjl)).2.2.2.2.2.2.2.1
      have r8 := hrow (j * 9 + 8) (S xs[j].e) (cred_get (List.getElem?_eq_getElem hjl)).2.2.2.2.2.2.2.2
      have hts : xs.take (j + 1) = xs.take j ++ [xs[j]] := (List.take_append_getElem hjl).symm
      have hx := HP.out xs[j] (List.getElem_mem hjl)
      have hge := List.getElem?_eq_getElem hjl
      clear hrow
      generalize xs[j] = x at *
      obtain ⟨kk, ⟨ho, hd⟩, nw, ⟨bo, bd⟩, ⟨co, cd⟩, we⟩ := x
      have HX := Lib.hid (And.intro hts (And.intro hjl hge))
      clear hts hge hjl
      simp only at r0 r1 r2 r3 r4 r5 r6 r7 r8
      unfold S at r1 r2 r3 r4 r5 r6 r7 r8
      unfold cV S at hx
      have HQ := Lib.hid hx
      clear hx
      go_wp2_with fail
      obtain ⟨fr', al', st', back⟩ := st.sub [1, 2, 3] (by decide) (by simp)
      (try simp only [nsl, Value.cells, unB] at st')
      refine (HQ.out _ _ _ st').mono ?_
      clear st'
      rintro en w ⟨rfl, st'⟩
      replace st := back _ _ (by simp) st'
      clear back st'
      (try simp only [nsl, Value.cells, unB] at st)
      (try clear hc); have hc := st.facts; (try simp only [nfl, nft, Nat.reduceAdd] at hc)
      clear r0 r1 r2 r3 r4 r5 r6 r7 r8
      by_cases hpx : p (⟨kk, (ho, hd), nw, (bo, bd), (co, cd), we⟩ : CredT) = true
      · rw [hpx]
        have HF : Hid (IxIs p xs (j : Int)) := Lib.hid (.inr ⟨j, (⟨kk, (ho, hd), nw, (bo, bd), (co, cd), we⟩ : CredT), rfl, HX.out.2.1, HX.out.2.2, hpx, HT.out⟩)
        clear hpx
        go_wp2_with fail
        go_ret
        exact ⟨_, rfl, HF.out, st⟩
      · have hpx' : p (⟨kk, (ho, hd), nw, (bo, bd), (co, cd), we⟩ : CredT) = false := by simpa using hpx
        rw [hpx']
        have HF : Hid (∀ y ∈ xs.take (j + 1), p y = false) := Lib.hid (fun y hy => by
          rw [HX.out.1] at hy
          rcases List.mem_append.1 hy with q | q
          · exact HT.out y q
          · rw [List.mem_singleton.1 q]; exact hpx')
        clear hpx hpx'
        go_wp2_with fail
        go_roundg (n - (j + 1))
        case measure => omega
        case rel => exact ⟨j + 1, by omega, rfl, by go_num, HF, st⟩
    · obtain rfl : j = n := by omega
      have HF : Hid (IxIs p xs (-1)) := Lib.hid (.inl ⟨rfl, by have := HT.out; rwa [List.take_of_length_le (by have := HN.out; omega)] at this⟩)
      go_wp2_with fail
      go_ret
      exact ⟨_, rfl, HF.out, st⟩
set_option maxRecDepth 100000 in
set_option maxHeartbeats 2000000 in
theorem deleteFuncCredM_c {fr al : Nat → Prop} {w0 w : World} {n c : Nat} {a : Option Addr} {xs : List CredT} {q1 q2 n3 : Nat} {v1 v2 : List Value} {a3 : Option Addr} {x3 : List UInt8} (st : Own fr al w0 [rowI 45 9 (.slice a n c) n (cellsL xs), blkI q1 v1, blkI q2 v2, byI a3 n3 x3] w) (hn : n ≤ 2000000) (F : FuncId) (cap : Array Value) (p : CredT → Bool)
    (hi : ∀ w x, (callFunc F (#[x] ++ cap)).run Try.prog w = .ok (.enter F (#[x] ++ cap)) w)
    (hp : ∀ x ∈ xs, ∀ (fr al : Nat → Prop) (w : World), Own fr al w [blkI q1 v1, blkI q2 v2, byI a3 n3 x3] w → Calls Try.prog F (#[cV x] ++ cap) w fun e w' => e = .returned (.bool (p x)) ∧ Own fr al w [blkI q1 v1, blkI q2 v2, byI a3 n3 x3] w') :
    Calls Try.prog 31 #[.slice a n c, .func (.func F) #[] cap] w fun e w' => ∃ m, e = .returned (.slice a m c) ∧ Own fr al w0 [rowI 45 9 (.slice a m c) m (cellsL (xs.filter fun x => !p x)), blkI q1 v1, blkI q2 v2, byI a3 n3 x3] w' := by
  have HP := Lib.hid hp
  have HN : Hid (n = xs.length) := Lib.hid (credLen (st.row (i := 0) get0))
  clear hp
  (try simp only [nsl, Value.cells, unB] at st)
  (try clear hc); have hc := st.facts; (try simp only [nfl, nft, Nat.reduceAdd] at hc)
  go_enter Try.func31, Try.ntmps31
  go_wp2_with fail
  refine (indexFuncCredM_c st hn F cap p hi HP.out).mono ?_
  clear st
  rintro en w ⟨v, rfl, hix, st⟩
  rcases hix with ⟨rfl, hall⟩ | ⟨i0, y, rfl, hil, hiy, hpy, hpre⟩
  · have HF : Hid (xs.filter (fun x => !p x) = xs) := Lib.hid (List.filter_eq_self.2 fun x hx => by simp [hall x hx])
    clear hall
    go_wp2_with fail
    go_ret
    exact ⟨n, rfl, by rw [HF.out]; exact st⟩
  · obtain ⟨g, cap', hv, hcap, hrow⟩ := st.rowAt (i := 0) get0 (by have := HN.out; omega)
    injection hv with hv1 hv2 hv3
    subst hv1 hv3
    clear hrow
    have hi0 : i0 < n := by have := HN.out; omega
    have HS : Hid (xs.take i0 = (xs.take (i0 + 1)).filter (fun x => !p x)) := Lib.hid (by
      have e1 : xs[i0] = y := by rw [List.getElem?_eq_getElem hil] at hiy; injection hiy
      rw [← List.take_append_getElem hil, List.filter_append, e1]
      simp only [List.filter_cons, hpy]
      simp
      exact (List.filter_eq_self.2 fun x hx => by simp [hpre x hx]).symm)
    have hcap2 : c ≤ 9223372036854775807 := by have := hcap.2; simpa [maxLen] using this
    have hcap1 := hcap.1
    clear hil hiy hpy hpre hcap
    have hb1 : ((i0 : Int) == -1) = false := by simp
    go_wp2_with fail
    go_loopg [5, 6] (n - (i0 + 1)) (fun k vi vj wr => ∃ (i j : Nat) (zs : List CredT), j ≤ n ∧ k = n - j ∧ i < j ∧ vi = .int .i64 (i : Int) ∧ vj = .int .i64 (j : Int) ∧ Hid (zs.length = n ∧ zs.take i = (xs.take j).filter (fun x => !p x) ∧ zs.drop j = xs.drop j) ∧ Own fr al w0 [rowI 45 9 (.slice (some ⟨g, 0, none⟩) n c) n (cellsL zs), blkI q1 v1, blkI q2 v2, byI a3 n3 x3] wr)
    case atStart => exact ⟨i0, i0 + 1, xs, by omega, by omega, by omega, rfl, by go_num, Lib.hid ⟨HN.out.symm, HS.out, rfl⟩, st⟩
    case round =>
      obtain ⟨i, j, zs, hj, rfl, hij, rfl, rfl, HZ, st'⟩ := hrel
      clear st
      have st := st'
      clear st'
      (try simp only [nsl, Value.cells, unB] at st)
      (try clear hc); have hc := st.facts; (try simp only [nfl, nft, Nat.reduceAdd] at hc)
      by_cases hjn : j < n
      · obtain ⟨g', cap', hv, hcap, hrow⟩ := st.rowAt (i := 0) get0 (by omega)
        injection hv with hv1 hv2 hv3
        injection hv1 with hv1
        injection hv1 with hv1 _ _
        subst hv1 hv3
        have hjz : j < zs.length := by have := HZ.out.1; omega
        have hjx : j < xs.length := by have := HN.out; omega
        have hzx : zs[j] = xs[j] := by
          have e1 := congrArg (fun l => l[0]?) HZ.out.2.2
          simp only [List.getElem?_drop, Nat.add_zero, List.getElem?_eq_getElem hjz, List.getElem?_eq_getElem hjx] at e1
          injection e1
        have r0 := hrow (j * 9) (.int .i64 xs[j].k) (by rw [← hzx]; exact (cred_get (List.getElem?_eq_getElem hjz)).1)
        have r1 := hrow (j * 9 + 1) (S xs[j].h.1) (by rw [← hzx]; exact (cred_get (List.getElem?_eq_getElem hjz)).2.1)
        have r2 := hrow (j * 9 + 2) (S xs[j].h.2) (by rw [← hzx]; exact (cred_get (List.getElem?_eq_getElem hjz)).2.2.1)
        have r3 := hrow (j * 9 + 3) (S xs[j].w) (by rw [← hzx]; exact (cred_get (List.getElem?_eq_getElem hjz)).2.2.2.1)
        have r4 := hrow (j * 9 + 4) (S xs[j].b.1) (by rw [← hzx]; exact (cred_get (List.getElem?_eq_getElem hjz)).2.2.2.2.1)
        have r5 := hrow (j * 9 + 5) (S xs[j].b.2) (by rw [← hzx]; exact (cred_get (List.getElem?_eq_getElem hjz)).2.2.2.2.2.1)
        have r6 := hrow (j * 9 + 6) (S xs[j].c.1) (by rw [← hzx]; exact (cred_get (List.getElem?_eq_getElem hjz)).2.2.2.2.2.2.1)
        have r7 := hrow (j * 9 + 7) (S xs[j].c.2) (by rw [← hzx]; exact (cred_get (List.getElem?_eq_getElem hjz)).2.2.2.2.2.2.2.1)
        have r8 := hrow (j * 9 + 8) (S xs[j].e) (by rw [← hzx]; exact (cred_get (List.getElem?_eq_getElem hjz)).2.2.2.2.2.2.2.2)
        have hts : xs.take (j + 1) = xs.take j ++ [xs[j]] := (List.take_append_getElem hjx).symm
        have hx := HP.out xs[j] (List.getElem_mem hjx)
        clear hrow hzx
        generalize xs[j] = x at *
        obtain ⟨kk, ⟨ho, hd⟩, nw, ⟨bo, bd⟩, ⟨co, cd⟩, we⟩ := x
        have HX := Lib.hid hts
        clear hts hjz hjx
        simp only at r0 r1 r2 r3 r4 r5 r6 r7 r8
        unfold S at r1 r2 r3 r4 r5 r6 r7 r8
        unfold cV S at hx
        have HQ := Lib.hid hx
        clear hx
        go_wp2_with ((first
              | ((with_reducible refine wl_alloc ?_ (fun K hK => ?_)); rfl; refine owp_alloc (o := ⟨some 7, _, _, _, _, _⟩) rfl st ?_; apply Exists.intro; apply Exists.intro; refine ⟨?_, ?_⟩; (focus (first | (go_simp; done) | (go_simp; rfl))); (clear st; intro b7 w hb st; clear hb))
              | ((with_reducible refine wl_store ?_ (fun K hK => ?_)); rfl; refine owp_store rfl st ?_; apply Exists.intro; apply Exists.intro; refine ⟨?_, ?_, ?_⟩; (focus (go_simp; try rfl)); (focus (go_simp; try rfl)); (first | (with_reducible refine ⟨0, _, _, _, _, get0, rfl, rfl, ?_, ?_, ?_, ?_⟩) | (with_reducible refine ⟨1, _, _, _, _, get1, rfl, rfl, ?_, ?_, ?_, ?_⟩) | (with_reducible refine ⟨2, _, _, _, _, get2, rfl, rfl, ?_, ?_, ?_, ?_⟩) | (with_reducible refine ⟨3, _, _, _, _, get3, rfl, rfl, ?_, ?_, ?_, ?_⟩) | (with_reducible refine ⟨4, _, _, _, _, get4, rfl, rfl, ?_, ?_, ?_, ?_⟩) | (with_reducible refine ⟨5, _, _, _, _, get5, rfl, rfl, ?_, ?_, ?_, ?_⟩)); (kernel_rfl); (simp [Value.cells]); (rfl); (clear st; intro w st))); (try simp only [nsl, Value.cells, unB] at st); (try clear hc); have hc := st.facts; (try simp only [nfl, nft, Nat.reduceAdd] at hc))
        clear r0 r1 r2 r3 r4 r5 r6 r7 r8
        obtain ⟨fr', al', st', back⟩ := st.sub [1, 2, 3] (by decide) (by simp)
        (try simp only [nsl, Value.cells, unB] at st')
        refine (HQ.out _ _ _ st').mono ?_
        clear st'
        rintro en w ⟨rfl, st'⟩
        replace st := back _ _ (by simp) st'
        clear back st'
        (try simp only [nsl, Value.cells, unB] at st)
        (try clear hc); have hc := st.facts; (try simp only [nfl, nft, Nat.reduceAdd] at hc)
        by_cases hpx : p (⟨kk, (ho, hd), nw, (bo, bd), (co, cd), we⟩ : CredT) = true
        · rw [hpx]
          have HF : Hid ((xs.take (j + 1)).filter (fun x => !p x) = (xs.take j).filter (fun x => !p x) ∧ zs.drop (j + 1) = xs.drop (j + 1)) := Lib.hid ⟨by rw [HX.out, List.filter_append]; simp [hpx], by
            have := congrArg (List.drop 1) HZ.out.2.2; simpa [List.drop_drop] using this⟩
          clear hpx
          go_wp2_with ((first
                | ((with_reducible refine wl_alloc ?_ (fun K hK => ?_)); rfl; refine owp_alloc (o := ⟨some 7, _, _, _, _, _⟩) rfl st ?_; apply Exists.intro; apply Exists.intro; refine ⟨?_, ?_⟩; (focus (first | (go_simp; done) | (go_simp; rfl))); (clear st; intro b7 w hb st; clear hb))
                | ((with_reducible refine wl_store ?_ (fun K hK => ?_)); rfl; refine owp_store rfl st ?_; apply Exists.intro; apply Exists.intro; refine ⟨?_, ?_, ?_⟩; (focus (go_simp; try rfl)); (focus (go_simp; try rfl)); (first | (with_reducible refine ⟨0, _, _, _, _, get0, rfl, rfl, ?_, ?_, ?_, ?_⟩) | (with_reducible refine ⟨1, _, _, _, _, get1, rfl, rfl, ?_, ?_, ?_, ?_⟩) | (with_reducible refine ⟨2, _, _, _, _, get2, rfl, rfl, ?_, ?_, ?_, ?_⟩) | (with_reducible refine ⟨3, _, _, _, _, get3, rfl, rfl, ?_, ?_, ?_, ?_⟩) | (with_reducible refine ⟨4, _, _, _, _, get4, rfl, rfl, ?_, ?_, ?_, ?_⟩) | (with_reducible refine ⟨5, _, _, _, _, get5, rfl, rfl, ?_, ?_, ?_, ?_⟩)); (kernel_rfl); (simp [Value.cells]); (rfl); (clear st; intro w st))); (try simp only [nsl, Value.cells, unB] at st); (try clear hc); have hc := st.facts; (try simp only [nfl, nft, Nat.reduceAdd] at hc))
          have st' := st.keep [0, 1, 2, 3] (by decide) (by simp)
          go_roundg (n - (j + 1))
          case measure => omega
          case rel => exact ⟨i, j + 1, zs, by omega, rfl, by omega, rfl, by go_num, Lib.hid ⟨HZ.out.1, by rw [HF.out.1]; exact HZ.out.2.1, HF.out.2⟩, by simpa [pick] using st'⟩
        · have hpx' : p (⟨kk, (ho, hd), nw, (bo, bd), (co, cd), we⟩ : CredT) = false := by simpa using hpx
          rw [hpx']
          have hiz : i < zs.length := by have := HZ.out.1; omega
          have hset := cellsL_set zs i (⟨kk, (ho, hd), nw, (bo, bd), (co, cd), we⟩ : CredT) hiz
          rw [fltCred_k, cred_cells] at hset
          have HF : Hid ((zs.set i (⟨kk, (ho, hd), nw, (bo, bd), (co, cd), we⟩ : CredT)).length = n ∧ (zs.set i (⟨kk, (ho, hd), nw, (bo, bd), (co, cd), we⟩ : CredT)).take (i + 1) = (xs.take (j + 1)).filter (fun x => !p x) ∧ (zs.set i (⟨kk, (ho, hd), nw, (bo, bd), (co, cd), we⟩ : CredT)).drop (j + 1) = xs.drop (j + 1)) := Lib.hid ⟨by simp [HZ.out.1], by
              rw [HX.out, List.filter_append, ← HZ.out.2.1]
              have : (zs.set i (⟨kk, (ho, hd), nw, (bo, bd), (co, cd), we⟩ : CredT))[i]'(by simpa using hiz) = (⟨kk, (ho, hd), nw, (bo, bd), (co, cd), we⟩ : CredT) := by simp
              rw [← List.take_append_getElem (l := zs.set i (⟨kk, (ho, hd), nw, (bo, bd), (co, cd), we⟩ : CredT)) (by simpa using hiz), this]
              rw [List.take_set, List.set_eq_of_length_le (by rw [List.length_take]; omega)]; simp [hpx'], by
              rw [List.drop_set_of_lt (by omega)]
              have := congrArg (List.drop 1) HZ.out.2.2; simpa [List.drop_drop] using this⟩
          have HSET := Lib.hid hset
          clear hpx hpx' hset hiz
          go_wp2_with ((with_reducible refine wl_store ?_ (fun K hK => ?_)); (rfl); (refine owp_storeRow' rfl st ?_; apply Exists.intro; apply Exists.intro; refine ⟨?_, ?_, ?_⟩; (focus (go_simp; try rfl)); (focus (go_simp; try rfl)); refine ⟨0, _, _, _, _, _, _, _, _, get0, rfl, rfl, ?_, ?_, ?_, ?_⟩; (kernel_rfl); (simp [Value.cells]; omega); (rfl); (clear st; intro w st)))
          simp only [List.set_cons_zero] at st
          have st' := st.keep [0, 1, 2, 3] (by decide) (by simp)
          go_roundg (n - (j + 1))
          case measure => omega
          case rel => exact ⟨i + 1, j + 1, zs.set i (⟨kk, (ho, hd), nw, (bo, bd), (co, cd), we⟩ : CredT), by omega, rfl, by omega, by go_num, by go_num, HF, by rw [← HSET.out]; simpa [pick, Value.cells] using st'⟩
      · obtain rfl : j = n := by omega
        obtain ⟨inf, hinf, hz0, hz1, hz2⟩ := credInfo
        have HF : Hid (zs.take i = xs.filter (fun x => !p x)) := Lib.hid (by rw [HZ.out.2.1, List.take_of_length_le (by have := HN.out; omega)])
        go_wp2_with ((with_reducible refine wl_clear ?_ (fun K hK => ?_)); (rfl); (refine owp_clearRow' rfl st Try.underlying23 ?_; apply Exists.intro; apply Exists.intro; apply Exists.intro; refine ⟨?_, ?_⟩; (focus (go_simp; exact ⟨rfl, rfl, rfl⟩)); refine ⟨0, _, _, _, _, i, _, inf, cV zC, get0, hinf, hz0, by decide, rfl, rfl, by omega, by simp, rfl, ?_⟩; (clear st; intro w ys hy1 hy2 st)))
        simp only [List.set_cons_zero] at st
        have st2 := st.rowCut (i := 0) (k := 9) (n := j) (c := c) (g := g) (E := 45) (xs := ys) get0 i (by omega)
        have hct := cellsL_take zs i
        rw [fltCred_k] at hct
        rw [hy1, hct, HF.out, List.set_cons_zero] at st2
        go_ret
        exact ⟨i, rfl, st2⟩
set_option maxRecDepth 100000 in
set_option maxHeartbeats 1000000 in
theorem indexFuncCredB_c {fr al : Nat → Prop} {w0 w : World} {n c : Nat} {a : Option Addr} {xs : List CredT} {q1 : Nat} {v1 : List Value} (st : Own fr al w0 [rowI 45 9 (.slice a n c) n (cellsL xs), blkI q1 v1] w) (hn : n ≤ 2000000) (F : FuncId) (cap : Array Value) (p : CredT → Bool)
    (hi : ∀ w x, (callFunc F (#[x] ++ cap)).run Try.prog w = .ok (.enter F (#[x] ++ cap)) w)
    (hp : ∀ x ∈ xs, ∀ (fr al : Nat → Prop) (w : World), Own fr al w [blkI q1 v1] w → Calls Try.prog F (#[cV x] ++ cap) w fun e w' => e = .returned (.bool (p x)) ∧ Own fr al w [blkI q1 v1] w') :
    Calls Try.prog 53 #[.slice a n c, .func (.func F) #[] cap] w fun e w' => ∃ v, e = .returned (.int .i64 v) ∧ IxIs p xs v ∧ Own fr al w0 [rowI 45 9 (.slice a n c) n (cellsL xs), blkI q1 v1] w' := by
  have HP := Lib.hid hp
  have HN : Hid (n = xs.length) := Lib.hid (credLen (st.row (i := 0) get0))
  clear hp
  (try simp only [nsl, Value.cells, unB] at st)
  (try clear hc); have hc := st.facts; (try simp only [nfl, nft, Nat.reduceAdd] at hc)
  go_enter Try.func53, Try.ntmps53
  go_wp2_with fail
  go_loopg [8] n (fun k i wr => ∃ (j : Nat), j ≤ n ∧ k = n - j ∧ i = .int .i64 (j : Int) ∧ Hid (∀ x ∈ xs.take j, p x = false) ∧ Own fr al w0 [rowI 45 9 (.slice a n c) n (cellsL xs), blkI q1 v1] wr)
  case atStart => exact ⟨0, by omega, by omega, rfl, Lib.hid (by simp), st⟩
  case round =>
    obtain ⟨j, hj, rfl, rfl, HT, st'⟩ := hrel
    clear st hc
    have st := st'
    clear st'
    (try simp only [nsl, Value.cells, unB] at st)
    (try clear hc); have hc := st.facts; (try simp only [nfl, nft, Nat.reduceAdd] at hc)
    by_cases hjn : j < n
    · obtain ⟨g, cap', hv, hcap, hrow⟩ := st.rowAt (i := 0) get0 (by omega)
      injection hv with hv1 hv2 hv3
      subst hv1 hv3
      have hjl : j < xs.length := by have := HN.out; omega
      have r0 := hrow (j * 9) (.int .i64 xs[j].k) (cred_get (List.getElem?_eq_getElem hjl)).1
      have r1 := hrow (j * 9 + 1) (S xs[j].h.1) (cred_get (List.getElem?_eq_getElem hjl)).2.1
      have r2 := hrow (j * 9 + 2) (S xs[j].h.2) (cred_get (List.getElem?_eq_getElem hjl)).2.2.1
      have r3 := hrow (j * 9 + 3) (S xs[j].w) (cred_get (List.getElem?_eq_getElem hjl)).2.2.2.1
      have r4 := hrow (j * 9 + 4) (S xs[j].b.1) (cred_get (List.getElem?_eq_getElem hjl)).2.2.2.2.1
      have r5 := hrow (j * 9 + 5) (S xs[j].b.2) (cred_get (List.getElem?_eq_getElem hjl)).2.2.2.2.2.1
      have r6 := hrow (j * 9 + 6) (S xs[j].c.1) (cred_get (List.getElem?_eq_getElem hjl)).2.2.2.2.2.2.1
      have r7 := hrow (j * 9 + 7) (S xs[j].c.2) (cred_get (List.getElem?_eq_getElem hjl)).2.2.2.2.2.2.2.1
      have r8 := hrow (j * 9 + 8) (S xs[j].e) (cred_get (List.getElem?_eq_getElem hjl)).2.2.2.2.2.2.2.2
      have hts : xs.take (j + 1) = xs.take j ++ [xs[j]] := (List.take_append_getElem hjl).symm
      have hx := HP.out xs[j] (List.getElem_mem hjl)
      have hge := List.getElem?_eq_getElem hjl
      clear hrow
      generalize xs[j] = x at *
      obtain ⟨kk, ⟨ho, hd⟩, nw, ⟨bo, bd⟩, ⟨co, cd⟩, we⟩ := x
      have HX := Lib.hid (And.intro hts (And.intro hjl hge))
      clear hts hge hjl
      simp only at r0 r1 r2 r3 r4 r5 r6 r7 r8
      unfold S at r1 r2 r3 r4 r5 r6 r7 r8
      unfold cV S at hx
      have HQ := Lib.hid hx
      clear hx
      go_wp2_with fail
      obtain ⟨fr', al', st', back⟩ := st.sub [1] (by decide) (by simp)
      (try simp only [nsl, Value.cells, unB] at st')
      refine (HQ.out _ _ _ st').mono ?_
      clear st'
      rintro en w ⟨rfl, st'⟩
      replace st := back _ _ (by simp) st'
      clear back st'
      (try simp only [nsl, Value.cells, unB] at st)
      (try clear hc); have hc := st.facts; (try simp only [nfl, nft, Nat.reduceAdd] at hc)
      clear r0 r1 r2 r3 r4 r5 r6 r7 r8
      by_cases hpx : p (⟨kk, (ho, hd), nw, (bo, bd), (co, cd), we⟩ : CredT) = true
      · rw [hpx]
        have HF : Hid (IxIs p xs (j : Int)) := Lib.hid (.inr ⟨j, (⟨kk, (ho, hd), nw, (bo, bd), (co, cd), we⟩ : CredT), rfl, HX.out.2.1, HX.out.2.2, hpx, HT.out⟩)
        clear hpx
        go_wp2_with fail
        go_ret
        exact ⟨_, rfl, HF.out, st⟩
      · have hpx' : p (⟨kk, (ho, hd), nw, (bo, bd), (co, cd), we⟩ : CredT) = false := by simpa using hpx
        rw [hpx']
        have HF : Hid (∀ y ∈ xs.take (j + 1), p y = false) := Lib.hid (fun y hy => by
          rw [HX.out.1] at hy
          rcases List.mem_append.1 hy with q | q
          · exact HT.out y q
          · rw [List.mem_singleton.1 q]; exact hpx')
        clear hpx hpx'
        go_wp2_with fail
        go_roundg (n - (j + 1))
        case measure => omega
        case rel => exact ⟨j + 1, by omega, rfl, by go_num, HF, st⟩
    · obtain rfl : j = n := by omega
      have HF : Hid (IxIs p xs (-1)) := Lib.hid (.inl ⟨rfl, by have := HT.out; rwa [List.take_of_length_le (by have := HN.out; omega)] at this⟩)
      go_wp2_with fail
      go_ret
      exact ⟨_, rfl, HF.out, st⟩
set_option maxRecDepth 100000 in
set_option maxHeartbeats 2000000 in
theorem deleteFuncCredB_c {fr al : Nat → Prop} {w0 w : World} {n c : Nat} {a : Option Addr} {xs : List CredT} {q1 : Nat} {v1 : List Value} (st : Own fr al w0 [rowI 45 9 (.slice a n c) n (cellsL xs), blkI q1 v1] w) (hn : n ≤ 2000000) (F : FuncId) (cap : Array Value) (p : CredT → Bool)
    (hi : ∀ w x, (callFunc F (#[x] ++ cap)).run Try.prog w = .ok (.enter F (#[x] ++ cap)) w)
    (hp : ∀ x ∈ xs, ∀ (fr al : Nat → Prop) (w : World), Own fr al w [blkI q1 v1] w → Calls Try.prog F (#[cV x] ++ cap) w fun e w' => e = .returned (.bool (p x)) ∧ Own fr al w [blkI q1 v1] w') :
    Calls Try.prog 31 #[.slice a n c, .func (.func F) #[] cap] w fun e w' => ∃ m, e = .returned (.slice a m c) ∧ Own fr al w0 [rowI 45 9 (.slice a m c) m (cellsL (xs.filter fun x => !p x)), blkI q1 v1] w' := by
  have HP := Lib.hid hp
  have HN : Hid (n = xs.length) := Lib.hid (credLen (st.row (i := 0) get0))
  clear hp
  (try simp only [nsl, Value.cells, unB] at st)
  (try clear hc); have hc := st.facts; (try simp only [nfl, nft, Nat.reduceAdd] at hc)
  go_enter Try.func31, Try.ntmps31
  go_wp2_with fail
  refine (indexFuncCredB_c st hn F cap p hi HP.out).mono ?_
  clear st
  rintro en w ⟨v, rfl, hix, st⟩
  rcases hix with ⟨rfl, hall⟩ | ⟨i0, y, rfl, hil, hiy, hpy, hpre⟩
  · have HF : Hid (xs.filter (fun x => !p x) = xs) := Lib.hid (List.filter_eq_self.2 fun x hx => by simp [hall x hx])
    clear hall
    go_wp2_with fail
    go_ret
    exact ⟨n, rfl, by rw [HF.out]; exact st⟩
  · obtain ⟨g, cap', hv, hcap, hrow⟩ := st.rowAt (i := 0) get0 (by have := HN.out; omega)
    injection hv with hv1 hv2 hv3
    subst hv1 hv3
    clear hrow
    have hi0 : i0 < n := by have := HN.out; omega
    have HS : Hid (xs.take i0 = (xs.take (i0 + 1)).filter (fun x => !p x)) := Lib.hid (by
      have e1 : xs[i0] = y := by rw [List.getElem?_eq_getElem hil] at hiy; injection hiy
      rw [← List.take_append_getElem hil, List.filter_append, e1]
      simp only [List.filter_cons, hpy]
      simp
      exact (List.filter_eq_self.2 fun x hx => by simp [hpre x hx]).symm)
    have hcap2 : c ≤ 9223372036854775807 := by have := hcap.2; simpa [maxLen] using this
    have hcap1 := hcap.1
    clear hil hiy hpy hpre hcap
    have hb1 : ((i0 : Int) == -1) = false := by simp
    go_wp2_with fail
    go_loopg [5, 6] (n - (i0 + 1)) (fun k vi vj wr => ∃ (i j : Nat) (zs : List CredT), j ≤ n ∧ k = n - j ∧ i < j ∧ vi = .int .i64 (i : Int) ∧ vj = .int .i64 (j : Int) ∧ Hid (zs.length = n ∧ zs.take i = (xs.take j).filter (fun x => !p x) ∧ zs.drop j = xs.drop j) ∧ Own fr al w0 [rowI 45 9 (.slice (some ⟨g, 0, none⟩) n c) n (cellsL zs), blkI q1 v1] wr)
    case atStart => exact ⟨i0, i0 + 1, xs, by omega, by omega, by omega, rfl, by go_num, Lib.hid ⟨HN.out.symm, HS.out, rfl⟩, st⟩
    case round =>
      obtain ⟨i, j, zs, hj, rfl, hij, rfl, rfl, HZ, st'⟩ := hrel
      clear st
      have st := st'
      clear st'
      (try simp only [nsl, Value.cells, unB] at st)
      (try clear hc); have hc := st.facts; (try simp only [nfl, nft, Nat.reduceAdd] at hc)
      by_cases hjn : j < n
      · obtain ⟨g', cap', hv, hcap, hrow⟩ := st.rowAt (i := 0) get0 (by omega)
        injection hv with hv1 hv2 hv3
        injection hv1 with hv1
        injection hv1 with hv1 _ _
        subst hv1 hv3
        have hjz : j < zs.length := by have := HZ.out.1; omega
        have hjx : j < xs.length := by have := HN.out; omega
        have hzx : zs[j] = xs[j] := by
          have e1 := congrArg (fun l => l[0]?) HZ.out.2.2
          simp only [List.getElem?_drop, Nat.add_zero, List.getElem?_eq_getElem hjz, List.getElem?_eq_getElem hjx] at e1
          injection e1
        have r0 := hrow (j * 9) (.int .i64 xs[j].k) (by rw [← hzx]; exact (cred_get (List.getElem?_eq_getElem hjz)).1)
        have r1 := hrow (j * 9 + 1) (S xs[j].h.1) (by rw [← hzx]; exact (cred_get (List.getElem?_eq_getElem hjz)).2.1)
        have r2 := hrow (j * 9 + 2) (S xs[j].h.2) (by rw [← hzx]; exact (cred_get (List.getElem?_eq_getElem hjz)).2.2.1)
        have r3 := hrow (j * 9 + 3) (S xs[j].w) (by rw [← hzx]; exact (cred_get (List.getElem?_eq_getElem hjz)).2.2.2.1)
        have r4 := hrow (j * 9 + 4) (S xs[j].b.1) (by rw [← hzx]; exact (cred_get (List.getElem?_eq_getElem hjz)).2.2.2.2.1)
        have r5 := hrow (j * 9 + 5) (S xs[j].b.2) (by rw [← hzx]; exact (cred_get (List.getElem?_eq_getElem hjz)).2.2.2.2.2.1)
        have r6 := hrow (j * 9 + 6) (S xs[j].c.1) (by rw [← hzx]; exact (cred_get (List.getElem?_eq_getElem hjz)).2.2.2.2.2.2.1)
        have r7 := hrow (j * 9 + 7) (S xs[j].c.2) (by rw [← hzx]; exact (cred_get (List.getElem?_eq_getElem hjz)).2.2.2.2.2.2.2.1)
        have r8 := hrow (j * 9 + 8) (S xs[j].e) (by rw [← hzx]; exact (cred_get (List.getElem?_eq_getElem hjz)).2.2.2.2.2.2.2.2)
        have hts : xs.take (j + 1) = xs.take j ++ [xs[j]] := (List.take_append_getElem hjx).symm
        have hx := HP.out xs[j] (List.getElem_mem hjx)
        clear hrow hzx
        generalize xs[j] = x at *
        obtain ⟨kk, ⟨ho, hd⟩, nw, ⟨bo, bd⟩, ⟨co, cd⟩, we⟩ := x
        have HX := Lib.hid hts
        clear hts hjz hjx
        simp only at r0 r1 r2 r3 r4 r5 r6 r7 r8
        unfold S at r1 r2 r3 r4 r5 r6 r7 r8
        unfold cV S at hx
        have HQ := Lib.hid hx
        clear hx
        go_wp2_with ((first
              | ((with_reducible refine wl_alloc ?_ (fun K hK => ?_)); rfl; refine owp_alloc (o := ⟨some 7, _, _, _, _, _⟩) rfl st ?_; apply Exists.intro; apply Exists.intro; refine ⟨?_, ?_⟩; (focus (first | (go_simp; done) | (go_simp; rfl))); (clear st; intro b7 w hb st; clear hb))
              | ((with_reducible refine wl_store ?_ (fun K hK => ?_)); rfl; refine owp_store rfl st ?_; apply Exists.intro; apply Exists.intro; refine ⟨?_, ?_, ?_⟩; (focus (go_simp; try rfl)); (focus (go_simp; try rfl)); (first | (with_reducible refine ⟨0, _, _, _, _, get0, rfl, rfl, ?_, ?_, ?_, ?_⟩) | (with_reducible refine ⟨1, _, _, _, _, get1, rfl, rfl, ?_, ?_, ?_, ?_⟩) | (with_reducible refine ⟨2, _, _, _, _, get2, rfl, rfl, ?_, ?_, ?_, ?_⟩) | (with_reducible refine ⟨3, _, _, _, _, get3, rfl, rfl, ?_, ?_, ?_, ?_⟩) | (with_reducible refine ⟨4, _, _, _, _, get4, rfl, rfl, ?_, ?_, ?_, ?_⟩) | (with_reducible refine ⟨5, _, _, _, _, get5, rfl, rfl, ?_, ?_, ?_, ?_⟩)); (kernel_rfl); (simp [Value.cells]); (rfl); (clear st; intro w st))); (try simp only [nsl, Value.cells, unB] at st); (try clear hc); have hc := st.facts; (try simp only [nfl, nft, Nat.reduceAdd] at hc))
        clear r0 r1 r2 r3 r4 r5 r6 r7 r8
        obtain ⟨fr', al', st', back⟩ := st.sub [1] (by decide) (by simp)
        (try simp only [nsl, Value.cells, unB] at st')
        refine (HQ.out _ _ _ st').mono ?_
        clear st'
        rintro en w ⟨rfl, st'⟩
        replace st := back _ _ (by simp) st'
        clear back st'
        (try simp only [nsl, Value.cells, unB] at st)
        (try clear hc); have hc := st.facts; (try simp only [nfl, nft, Nat.reduceAdd] at hc)
        by_cases hpx : p (⟨kk, (ho, hd), nw, (bo, bd), (co, cd), we⟩ : CredT) = true
        · rw [hpx]
          have HF : Hid ((xs.take (j + 1)).filter (fun x => !p x) = (xs.take j).filter (fun x => !p x) ∧ zs.drop (j + 1) = xs.drop (j + 1)) := Lib.hid ⟨by rw [HX.out, List.filter_append]; simp [hpx], by
            have := congrArg (List.drop 1) HZ.out.2.2; simpa [List.drop_drop] using this⟩
          clear hpx
          go_wp2_with ((first
                | ((with_reducible refine wl_alloc ?_ (fun K hK => ?_)); rfl; refine owp_alloc (o := ⟨some 7, _, _, _, _, _⟩) rfl st ?_; apply Exists.intro; apply Exists.intro; refine ⟨?_, ?_⟩; (focus (first | (go_simp; done) | (go_simp; rfl))); (clear st; intro b7 w hb st; clear hb))
                | ((with_reducible refine wl_store ?_ (fun K hK => ?_)); rfl; refine owp_store rfl st ?_; apply Exists.intro; apply Exists.intro; refine ⟨?_, ?_, ?_⟩; (focus (go_simp; try rfl)); (focus (go_simp; try rfl)); (first | (with_reducible refine ⟨0, _, _, _, _, get0, rfl, rfl, ?_, ?_, ?_, ?_⟩) | (with_reducible refine ⟨1, _, _, _, _, get1, rfl, rfl, ?_, ?_, ?_, ?_⟩) | (with_reducible refine ⟨2, _, _, _, _, get2, rfl, rfl, ?_, ?_, ?_, ?_⟩) | (with_reducible refine ⟨3, _, _, _, _, get3, rfl, rfl, ?_, ?_, ?_, ?_⟩) | (with_reducible refine ⟨4, _, _, _, _, get4, rfl, rfl, ?_, ?_, ?_, ?_⟩) | (with_reducible refine ⟨5, _, _, _, _, get5, rfl, rfl, ?_, ?_, ?_, ?_⟩)); (kernel_rfl); (simp [Value.cells]); (rfl); (clear st; intro w st))); (try simp only [nsl, Value.cells, unB] at st); (try clear hc); have hc := st.facts; (try simp only [nfl, nft, Nat.reduceAdd] at hc))
          have st' := st.keep [0, 1] (by decide) (by simp)
          go_roundg (n - (j + 1))
          case measure => omega
          case rel => exact ⟨i, j + 1, zs, by omega, rfl, by omega, rfl, by go_num, Lib.hid ⟨HZ.out.1, by rw [HF.out.1]; exact HZ.out.2.1, HF.out.2⟩, by simpa [pick] using st'⟩
        · have hpx' : p (⟨kk, (ho, hd), nw, (bo, bd), (co, cd), we⟩ : CredT) = false := by simpa using hpx
          rw [hpx']
          have hiz : i < zs.length := by have := HZ.out.1; omega
          have hset := cellsL_set zs i (⟨kk, (ho, hd), nw, (bo, bd), (co, cd), we⟩ : CredT) hiz
          rw [fltCred_k, cred_cells] at hset
          have HF : Hid ((zs.set i (⟨kk, (ho, hd), nw, (bo, bd), (co, cd), we⟩ : CredT)).length = n ∧ (zs.set i (⟨kk, (ho, hd), nw, (bo, bd), (co, cd), we⟩ : CredT)).take (i + 1) = (xs.take (j + 1)).filter (fun x => !p x) ∧ (zs.set i (⟨kk, (ho, hd), nw, (bo, bd), (co, cd), we⟩ : CredT)).drop (j + 1) = xs.drop (j + 1)) := Lib.hid ⟨by simp [HZ.out.1], by
              rw [HX.out, List.filter_append, ← HZ.out.2.1]
              have : (zs.set i (⟨kk, (ho, hd), nw, (bo, bd), (co, cd), we⟩ : CredT))[i]'(by simpa using hiz) = (⟨kk, (ho, hd), nw, (bo, bd), (co, cd), we⟩ : CredT) := by simp
              rw [← List.take_append_getElem (l := zs.set i (⟨kk, (ho, hd), nw, (bo, bd), (co, cd), we⟩ : CredT)) (by simpa using hiz), this]
              rw [List.take_set, List.set_eq_of_length_le (by rw [List.length_take]; omega)]; simp [hpx'], by
              rw [List.drop_set_of_lt (by omega)]
              have := congrArg (List.drop 1) HZ.out.2.2; simpa [List.drop_drop] using this⟩
          have HSET := Lib.hid hset
          clear hpx hpx' hset hiz
          go_wp2_with ((with_reducible refine wl_store ?_ (fun K hK => ?_)); (rfl); (refine owp_storeRow' rfl st ?_; apply Exists.intro; apply Exists.intro; refine ⟨?_, ?_, ?_⟩; (focus (go_simp; try rfl)); (focus (go_simp; try rfl)); refine ⟨0, _, _, _, _, _, _, _, _, get0, rfl, rfl, ?_, ?_, ?_, ?_⟩; (kernel_rfl); (simp [Value.cells]; omega); (rfl); (clear st; intro w st)))
          simp only [List.set_cons_zero] at st
          have st' := st.keep [0, 1] (by decide) (by simp)
          go_roundg (n - (j + 1))
          case measure => omega
          case rel => exact ⟨i + 1, j + 1, zs.set i (⟨kk, (ho, hd), nw, (bo, bd), (co, cd), we⟩ : CredT), by omega, rfl, by omega, by go_num, by go_num, HF, by rw [← HSET.out]; simpa [pick, Value.cells] using st'⟩
      · obtain rfl : j = n := by omega
        obtain ⟨inf, hinf, hz0, hz1, hz2⟩ := credInfo
        have HF : Hid (zs.take i = xs.filter (fun x => !p x)) := Lib.hid (by rw [HZ.out.2.1, List.take_of_length_le (by have := HN.out; omega)])
        go_wp2_with ((with_reducible refine wl_clear ?_ (fun K hK => ?_)); (rfl); (refine owp_clearRow' rfl st Try.underlying23 ?_; apply Exists.intro; apply Exists.intro; apply Exists.intro; refine ⟨?_, ?_⟩; (focus (go_simp; exact ⟨rfl, rfl, rfl⟩)); refine ⟨0, _, _, _, _, i, _, inf, cV zC, get0, hinf, hz0, by decide, rfl, rfl, by omega, by simp, rfl, ?_⟩; (clear st; intro w ys hy1 hy2 st)))
        simp only [List.set_cons_zero] at st
        have st2 := st.rowCut (i := 0) (k := 9) (n := j) (c := c) (g := g) (E := 45) (xs := ys) get0 i (by omega)
        have hct := cellsL_take zs i
        rw [fltCred_k] at hct
        rw [hy1, hct, HF.out, List.set_cons_zero] at st2
        go_ret
        exact ⟨i, rfl, st2⟩
end Go.Proofs.Ytinfkenbjoddlaa

namespace Go.Proofs.Ytinfkenbjoddlaa
set_option linter.unusedSimpArgs false
set_option linter.unusedVariables false
open Go Go.RowKit
set_option maxRecDepth 100000 in
set_option maxHeartbeats 2000000 in
theorem compactCred_c {fr al : Nat → Prop} {w0 w : World} {n c : Nat} {a : Option Addr} {xs : List CredT} (st : Own fr al w0 [rowI 45 9 (.slice a n c) n (cellsL xs)] w) (hn : n ≤ 2000000) :
    Calls Try.prog 58 #[.slice a n c] w fun e w' => ∃ m, e = .returned (.slice a m c) ∧ Own fr al w0 [rowI 45 9 (.slice a m c) m (cellsL (Lib.compact xs))] w' := by
  have HN : Hid (n = xs.length) := Lib.hid (credLen (st.row (i := 0) get0))
  (try simp only [nsl, Value.cells, unB] at st)
  (try clear hc); have hc := st.facts; (try simp only [nfl, nft, Nat.reduceAdd] at hc)
  by_cases hn2 : n < 2
  · have HC : Hid (Lib.compact xs = xs) := Lib.hid (by
      rw [← cup_all, ← HN.out]
      match n, hn2, HN.out with
      | 0, _, h => rw [List.eq_nil_of_length_eq_zero h.symm]; rfl
      | 1, _, h => rw [cup_one (by omega), List.take_of_length_le (by omega)])
    go_enter Try.func58, Try.ntmps58
    go_wp2_with fail
    go_ret
    exact ⟨n, rfl, by rw [HC.out]; exact st⟩
  obtain ⟨g, cap', hv, hcap, hrow⟩ := st.rowAt (i := 0) get0 (by omega)
  injection hv with hv1 hv2 hv3
  subst hv1 hv3
  clear hrow
  have hcap2 : c ≤ 9223372036854775807 := by have := hcap.2; simpa [maxLen] using this
  have hcap1 := hcap.1
  clear hcap
  go_enter Try.func58, Try.ntmps58
  go_wp2_with fail
  go_loopg [3] (n - 1) (fun k vi wr => ∃ (j : Nat), 1 ≤ j ∧ j ≤ n ∧ k = n - j ∧ vi = .int .i64 (j : Int) ∧ Hid (cup xs j = xs.take j) ∧ Own fr al w0 [rowI 45 9 (.slice (some ⟨g, 0, none⟩) n c) n (cellsL xs)] wr)
  case atStart => exact ⟨1, by omega, by omega, by omega, rfl, Lib.hid (cup_one (by have := HN.out; omega)), st⟩
  case round =>
    obtain ⟨j, hj1, hj, rfl, rfl, HT, st'⟩ := hrel
    clear st hc
    have st := st'
    clear st'
    (try simp only [nsl, Value.cells, unB] at st)
    (try clear hc); have hc := st.facts; (try simp only [nfl, nft, Nat.reduceAdd] at hc)
    by_cases hjn : j < n
    · obtain ⟨q, hq⟩ : ∃ q, j = q + 1 := ⟨j - 1, by omega⟩
      have hw : IntKind.i64.wrap ((j : Int) - 1) = (q : Int) := by rw [IntWalk.i64_in _ ⟨by omega, by omega⟩]; omega
      have hjl : j < xs.length := by have := HN.out; omega
      have hql : q < xs.length := by omega
      obtain ⟨x, hx⟩ : ∃ x, xs[j]? = some x := ⟨_, List.getElem?_eq_getElem hjl⟩
      obtain ⟨y, hy⟩ : ∃ y, xs[q]? = some y := ⟨_, List.getElem?_eq_getElem hql⟩
      have HR := Lib.hid (And.intro (cred_get hx) (cred_get hy))
      have HST := Lib.hid (cup_step hq hx hy)
      have HTK : Hid (xs.take (j + 1) = xs.take j ++ [x]) := Lib.hid (by rw [List.take_add_one, hx]; rfl)
      clear hx hy hjl
      obtain ⟨kk, ⟨ho, hd⟩, nw, ⟨bo, bd⟩, ⟨co, cd⟩, we⟩ := x
      obtain ⟨kk', ⟨ho', hd'⟩, nw', ⟨bo', bd'⟩, ⟨co', cd'⟩, we'⟩ := y
      simp only at HR
      unfold S at HR
      have hql2 : q < n := by omega
      have HQ := Lib.hid hq
      clear hq hql
      go_wp2_with fail
      refine Rg4.wp_region4_eq #[0, 0, 3, 7, 0, 0, 32, 112, 240, 511] [] [3, 8] (fun _ => True) [0, 1, 2, 3, 4, 5, 6, 7, 8, 9] (by kernel_rfl) (by kernel_rfl) (by kernel_rfl) (by kernel_rfl) (show Rg4.PB _ by repeat (first | with_reducible exact Rg4.pb_body | with_reducible exact Rg4.pb_bodyD rfl | with_reducible refine Rg4.pb_then ?_ | with_reducible refine Rg4.pb_inBlock ?_ | with_reducible refine Rg4.pb_noGoto ?_)) (trivial) ?_
      replace st := st.drew
      change Rg4.wp4 _ _ _ _ _ _ _ _ _ (World.drew _) _ _
      generalize World.drew _ = w at st ⊢
      (try clear hc); have hc := st.facts; (try simp only [nfl, nft, Nat.reduceAdd] at hc)
      iterate 3 (refine Rg4.w4_any (Rg4.want_none rfl) rfl ?_; apply Exists.intro; refine ⟨fun w' => ?_, ?_⟩; (focus (first | (go_simp; done) | (go_simp; first | rfl | (rw [if_neg] <;> first | rfl | omega) | (rw [if_pos] <;> first | rfl | omega)))); (try simp only [Rg4.nrm]))
      (refine Rg4.w4_read (Rg4.want_none rfl) rfl rfl ?_; apply Exists.intro; refine ⟨fun w' hw' hcl' => ?_, ?_⟩; focus (subst hw'; have r0 := st.rowC (i := 0) get0 _ _ HR.out.1.1; have r1 := st.rowC (i := 0) get0 _ _ HR.out.1.2.1; have r2 := st.rowC (i := 0) get0 _ _ HR.out.1.2.2.1; have r3 := st.rowC (i := 0) get0 _ _ HR.out.1.2.2.2.1; have r4 := st.rowC (i := 0) get0 _ _ HR.out.1.2.2.2.2.1; have r5 := st.rowC (i := 0) get0 _ _ HR.out.1.2.2.2.2.2.1; have r6 := st.rowC (i := 0) get0 _ _ HR.out.1.2.2.2.2.2.2.1; have r7 := st.rowC (i := 0) get0 _ _ HR.out.1.2.2.2.2.2.2.2.1; have r8 := st.rowC (i := 0) get0 _ _ HR.out.1.2.2.2.2.2.2.2.2; have s0 := st.rowC (i := 0) get0 _ _ HR.out.2.1; have s1 := st.rowC (i := 0) get0 _ _ HR.out.2.2.1; have s2 := st.rowC (i := 0) get0 _ _ HR.out.2.2.2.1; have s3 := st.rowC (i := 0) get0 _ _ HR.out.2.2.2.2.1; have s4 := st.rowC (i := 0) get0 _ _ HR.out.2.2.2.2.2.1; have s5 := st.rowC (i := 0) get0 _ _ HR.out.2.2.2.2.2.2.1; have s6 := st.rowC (i := 0) get0 _ _ HR.out.2.2.2.2.2.2.2.1; have s7 := st.rowC (i := 0) get0 _ _ HR.out.2.2.2.2.2.2.2.2.1; have s8 := st.rowC (i := 0) get0 _ _ HR.out.2.2.2.2.2.2.2.2.2; (focus (first | (go_simp; done) | (go_simp; first | rfl | (rw [if_neg] <;> first | rfl | omega) | (rw [if_pos] <;> first | rfl | omega))))); (try simp only [Rg4.nrm]))
      iterate 4 (refine Rg4.w4_any (Rg4.want_none rfl) rfl ?_; apply Exists.intro; refine ⟨fun w' => ?_, ?_⟩; (focus (first | (go_simp; done) | (go_simp; first | rfl | (rw [if_neg] <;> first | rfl | omega) | (rw [if_pos] <;> first | rfl | omega)))); (try simp only [Rg4.nrm]))
      (refine Rg4.w4_read (Rg4.want_none rfl) rfl rfl ?_; apply Exists.intro; refine ⟨fun w' hw' hcl' => ?_, ?_⟩; focus (subst hw'; have r0 := st.rowC (i := 0) get0 _ _ HR.out.1.1; have r1 := st.rowC (i := 0) get0 _ _ HR.out.1.2.1; have r2 := st.rowC (i := 0) get0 _ _ HR.out.1.2.2.1; have r3 := st.rowC (i := 0) get0 _ _ HR.out.1.2.2.2.1; have r4 := st.rowC (i := 0) get0 _ _ HR.out.1.2.2.2.2.1; have r5 := st.rowC (i := 0) get0 _ _ HR.out.1.2.2.2.2.2.1; have r6 := st.rowC (i := 0) get0 _ _ HR.out.1.2.2.2.2.2.2.1; have r7 := st.rowC (i := 0) get0 _ _ HR.out.1.2.2.2.2.2.2.2.1; have r8 := st.rowC (i := 0) get0 _ _ HR.out.1.2.2.2.2.2.2.2.2; have s0 := st.rowC (i := 0) get0 _ _ HR.out.2.1; have s1 := st.rowC (i := 0) get0 _ _ HR.out.2.2.1; have s2 := st.rowC (i := 0) get0 _ _ HR.out.2.2.2.1; have s3 := st.rowC (i := 0) get0 _ _ HR.out.2.2.2.2.1; have s4 := st.rowC (i := 0) get0 _ _ HR.out.2.2.2.2.2.1; have s5 := st.rowC (i := 0) get0 _ _ HR.out.2.2.2.2.2.2.1; have s6 := st.rowC (i := 0) get0 _ _ HR.out.2.2.2.2.2.2.2.1; have s7 := st.rowC (i := 0) get0 _ _ HR.out.2.2.2.2.2.2.2.2.1; have s8 := st.rowC (i := 0) get0 _ _ HR.out.2.2.2.2.2.2.2.2.2; (focus (first | (go_simp; done) | (go_simp; first | rfl | (rw [if_neg] <;> first | rfl | omega) | (rw [if_pos] <;> first | rfl | omega))))); (try simp only [Rg4.nrm]))
      (refine Rg4.w4_any (Rg4.want_none rfl) rfl ?_; apply Exists.intro; refine ⟨fun w' => ?_, ?_⟩; (focus (first | (go_simp; done) | (go_simp; first | rfl | (rw [if_neg] <;> first | rfl | omega) | (rw [if_pos] <;> first | rfl | omega)))); (try simp only [Rg4.nrm]))
      refine Rg4.w4_nil (fun w' hw' hcl' _ => ?_); subst hw'; clear hcl'
      cases hxy : credEq (⟨kk, (ho, hd), nw, (bo, bd), (co, cd), we⟩ : CredT) (⟨kk', (ho', hd'), nw', (bo', bd'), (co', cd'), we'⟩ : CredT) with
      | false =>
        have HF : Hid (cup xs (j + 1) = xs.take (j + 1)) := Lib.hid (by rw [credEq_eq, decide_eq_false_iff_not] at hxy; rw [HST.out, if_neg hxy, HT.out, HTK.out])
        clear hxy
        go_wp2_with fail
        go_roundg (n - (j + 1))
        case measure => omega
        case rel => exact ⟨j + 1, by omega, by omega, by omega, by go_num, HF, st⟩
      | true =>
        have HF : Hid (cup xs (j + 1) = xs.take j) := Lib.hid (by rw [credEq_eq, decide_eq_true_eq] at hxy; rw [HST.out, if_pos hxy, HT.out, List.append_nil])
        clear hxy hw
        go_wp2_with fail
        go_loopg [3, 5] (n - j - 1) (fun k vi vr wr => ∃ (i r : Nat) (zs : List CredT), 1 ≤ r ∧ j + r ≤ n ∧ k = n - j - r ∧ i < j + r ∧ vi = .int .i64 (i : Int) ∧ vr = .int .i64 (r : Int) ∧ Hid (zs.length = n ∧ zs.take i = cup xs (j + r) ∧ ∀ q, j + r ≤ q + 1 → zs[q]? = xs[q]?) ∧ Own fr al w0 [rowI 45 9 (.slice (some ⟨g, 0, none⟩) n c) n (cellsL zs)] wr)
        case atStart => exact ⟨j, 1, xs, by omega, by omega, by omega, by omega, rfl, rfl, Lib.hid ⟨HN.out.symm, HF.out.symm, fun _ _ => rfl⟩, st⟩
        case round =>
          obtain ⟨i, r, zs, hr1, hrj, rfl, hir, rfl, rfl, HZ, st'⟩ := hrel
          clear st hc HR HST HTK HF
          have st := st'
          clear st'
          (try simp only [nsl, Value.cells, unB] at st)
          (try clear hc); have hc := st.facts; (try simp only [nfl, nft, Nat.reduceAdd] at hc)
          by_cases hrn : r < n - j
          · obtain ⟨s, hs⟩ : ∃ s, r = s + 1 := ⟨r - 1, by omega⟩
            have hw : IntKind.i64.wrap ((r : Int) - 1) = (s : Int) := by rw [IntWalk.i64_in _ ⟨by omega, by omega⟩]; omega
            have hjl : j + r < xs.length := by have := HN.out; omega
            have hql : j + s < xs.length := by omega
            obtain ⟨x, hx⟩ : ∃ x, xs[j + r]? = some x := ⟨_, List.getElem?_eq_getElem hjl⟩
            obtain ⟨y, hy⟩ : ∃ y, xs[j + s]? = some y := ⟨_, List.getElem?_eq_getElem hql⟩
            have hzx := (HZ.out.2.2 (j + r) (by omega)).trans hx
            have hzy := (HZ.out.2.2 (j + s) (by omega)).trans hy
            have HR := Lib.hid (And.intro (cred_get hzx) (cred_get hzy))
            have HST := Lib.hid (cup_step (by omega : j + r = j + s + 1) hx hy)
            clear hx hy hzx hzy hjl
            obtain ⟨kk, ⟨ho, hd⟩, nw, ⟨bo, bd⟩, ⟨co, cd⟩, we⟩ := x
            obtain ⟨kk', ⟨ho', hd'⟩, nw', ⟨bo', bd'⟩, ⟨co', cd'⟩, we'⟩ := y
            simp only [Nat.add_mul] at HR
            unfold S at HR
            have hql2 : s < n - j := by omega
            have HS := Lib.hid hs
            clear hs hql
            go_wp2_with fail
            refine Rg4.wp_region4_eq #[0, 0, 3, 7, 0, 0, 32, 112, 240, 511] [] [3, 8] (fun _ => True) [0, 1, 2, 3, 4, 5, 6, 7, 8, 9] (by kernel_rfl) (by kernel_rfl) (by kernel_rfl) (by kernel_rfl) (show Rg4.PB _ by repeat (first | with_reducible exact Rg4.pb_body | with_reducible exact Rg4.pb_bodyD rfl | with_reducible refine Rg4.pb_then ?_ | with_reducible refine Rg4.pb_inBlock ?_ | with_reducible refine Rg4.pb_noGoto ?_)) (trivial) ?_
            replace st := st.drew
            change Rg4.wp4 _ _ _ _ _ _ _ _ _ (World.drew _) _ _
            generalize World.drew _ = w at st ⊢
            (try clear hc); have hc := st.facts; (try simp only [nfl, nft, Nat.reduceAdd] at hc)
            iterate 3 (refine Rg4.w4_any (Rg4.want_none rfl) rfl ?_; apply Exists.intro; refine ⟨fun w' => ?_, ?_⟩; (focus (first | (go_simp; done) | (go_simp; first | rfl | (rw [if_neg] <;> first | rfl | omega) | (rw [if_pos] <;> first | rfl | omega)))); (try simp only [Rg4.nrm]))
            (refine Rg4.w4_read (Rg4.want_none rfl) rfl rfl ?_; apply Exists.intro; refine ⟨fun w' hw' hcl' => ?_, ?_⟩; focus (subst hw'; have r0 := st.rowC (i := 0) get0 _ _ HR.out.1.1; have r1 := st.rowC (i := 0) get0 _ _ HR.out.1.2.1; have r2 := st.rowC (i := 0) get0 _ _ HR.out.1.2.2.1; have r3 := st.rowC (i := 0) get0 _ _ HR.out.1.2.2.2.1; have r4 := st.rowC (i := 0) get0 _ _ HR.out.1.2.2.2.2.1; have r5 := st.rowC (i := 0) get0 _ _ HR.out.1.2.2.2.2.2.1; have r6 := st.rowC (i := 0) get0 _ _ HR.out.1.2.2.2.2.2.2.1; have r7 := st.rowC (i := 0) get0 _ _ HR.out.1.2.2.2.2.2.2.2.1; have r8 := st.rowC (i := 0) get0 _ _ HR.out.1.2.2.2.2.2.2.2.2; have s0 := st.rowC (i := 0) get0 _ _ HR.out.2.1; have s1 := st.rowC (i := 0) get0 _ _ HR.out.2.2.1; have s2 := st.rowC (i := 0) get0 _ _ HR.out.2.2.2.1; have s3 := st.rowC (i := 0) get0 _ _ HR.out.2.2.2.2.1; have s4 := st.rowC (i := 0) get0 _ _ HR.out.2.2.2.2.2.1; have s5 := st.rowC (i := 0) get0 _ _ HR.out.2.2.2.2.2.2.1; have s6 := st.rowC (i := 0) get0 _ _ HR.out.2.2.2.2.2.2.2.1; have s7 := st.rowC (i := 0) get0 _ _ HR.out.2.2.2.2.2.2.2.2.1; have s8 := st.rowC (i := 0) get0 _ _ HR.out.2.2.2.2.2.2.2.2.2; (focus (first | (go_simp; done) | (go_simp; first | rfl | (rw [if_neg] <;> first | rfl | omega) | (rw [if_pos] <;> first | rfl | omega))))); (try simp only [Rg4.nrm]))
            iterate 4 (refine Rg4.w4_any (Rg4.want_none rfl) rfl ?_; apply Exists.intro; refine ⟨fun w' => ?_, ?_⟩; (focus (first | (go_simp; done) | (go_simp; first | rfl | (rw [if_neg] <;> first | rfl | omega) | (rw [if_pos] <;> first | rfl | omega)))); (try simp only [Rg4.nrm]))
            (refine Rg4.w4_read (Rg4.want_none rfl) rfl rfl ?_; apply Exists.intro; refine ⟨fun w' hw' hcl' => ?_, ?_⟩; focus (subst hw'; have r0 := st.rowC (i := 0) get0 _ _ HR.out.1.1; have r1 := st.rowC (i := 0) get0 _ _ HR.out.1.2.1; have r2 := st.rowC (i := 0) get0 _ _ HR.out.1.2.2.1; have r3 := st.rowC (i := 0) get0 _ _ HR.out.1.2.2.2.1; have r4 := st.rowC (i := 0) get0 _ _ HR.out.1.2.2.2.2.1; have r5 := st.rowC (i := 0) get0 _ _ HR.out.1.2.2.2.2.2.1; have r6 := st.rowC (i := 0) get0 _ _ HR.out.1.2.2.2.2.2.2.1; have r7 := st.rowC (i := 0) get0 _ _ HR.out.1.2.2.2.2.2.2.2.1; have r8 := st.rowC (i := 0) get0 _ _ HR.out.1.2.2.2.2.2.2.2.2; have s0 := st.rowC (i := 0) get0 _ _ HR.out.2.1; have s1 := st.rowC (i := 0) get0 _ _ HR.out.2.2.1; have s2 := st.rowC (i := 0) get0 _ _ HR.out.2.2.2.1; have s3 := st.rowC (i := 0) get0 _ _ HR.out.2.2.2.2.1; have s4 := st.rowC (i := 0) get0 _ _ HR.out.2.2.2.2.2.1; have s5 := st.rowC (i := 0) get0 _ _ HR.out.2.2.2.2.2.2.1; have s6 := st.rowC (i := 0) get0 _ _ HR.out.2.2.2.2.2.2.2.1; have s7 := st.rowC (i := 0) get0 _ _ HR.out.2.2.2.2.2.2.2.2.1; have s8 := st.rowC (i := 0) get0 _ _ HR.out.2.2.2.2.2.2.2.2.2; (focus (first | (go_simp; done) | (go_simp; first | rfl | (rw [if_neg] <;> first | rfl | omega) | (rw [if_pos] <;> first | rfl | omega))))); (try simp only [Rg4.nrm]))
            (refine Rg4.w4_any (Rg4.want_none rfl) rfl ?_; apply Exists.intro; refine ⟨fun w' => ?_, ?_⟩; (focus (first | (go_simp; done) | (go_simp; first | rfl | (rw [if_neg] <;> first | rfl | omega) | (rw [if_pos] <;> first | rfl | omega)))); (try simp only [Rg4.nrm]))
            refine Rg4.w4_nil (fun w' hw' hcl' _ => ?_); subst hw'; clear hcl'
            cases hxy : credEq (⟨kk, (ho, hd), nw, (bo, bd), (co, cd), we⟩ : CredT) (⟨kk', (ho', hd'), nw', (bo', bd'), (co', cd'), we'⟩ : CredT) with
            | true =>
              have hb : (!true) = false := rfl
              have HF : Hid (cup xs (j + (r + 1)) = cup xs (j + r)) := Lib.hid (by rw [credEq_eq, decide_eq_true_eq] at hxy; rw [← Nat.add_assoc, HST.out, if_pos hxy, List.append_nil])
              clear hxy
              simp only [hb]
              go_wp2_with fail
              go_roundg (n - j - (r + 1))
              case measure => omega
              case rel => exact ⟨i, r + 1, zs, by omega, by omega, rfl, by omega, rfl, by go_num, Lib.hid ⟨HZ.out.1, by rw [HF.out]; exact HZ.out.2.1, fun q hq => HZ.out.2.2 q (by omega)⟩, st⟩
            | false =>
              have hb : (!false) = true := rfl
              have HF : Hid (cup xs (j + (r + 1)) = cup xs (j + r) ++ [(⟨kk, (ho, hd), nw, (bo, bd), (co, cd), we⟩ : CredT)]) := Lib.hid (by rw [credEq_eq, decide_eq_false_iff_not] at hxy; rw [← Nat.add_assoc, HST.out, if_neg hxy])
              clear hxy
              simp only [hb]
              have r0 := st.rowC (i := 0) get0 _ _ HR.out.1.1
              have r1 := st.rowC (i := 0) get0 _ _ HR.out.1.2.1
              have r2 := st.rowC (i := 0) get0 _ _ HR.out.1.2.2.1
              have r3 := st.rowC (i := 0) get0 _ _ HR.out.1.2.2.2.1
              have r4 := st.rowC (i := 0) get0 _ _ HR.out.1.2.2.2.2.1
              have r5 := st.rowC (i := 0) get0 _ _ HR.out.1.2.2.2.2.2.1
              have r6 := st.rowC (i := 0) get0 _ _ HR.out.1.2.2.2.2.2.2.1
              have r7 := st.rowC (i := 0) get0 _ _ HR.out.1.2.2.2.2.2.2.2.1
              have r8 := st.rowC (i := 0) get0 _ _ HR.out.1.2.2.2.2.2.2.2.2
              have hiz : i < zs.length := by have := HZ.out.1; omega
              have hset := cellsL_set zs i (⟨kk, (ho, hd), nw, (bo, bd), (co, cd), we⟩ : CredT) hiz
              rw [fltCred_k, cred_cells] at hset
              have HZ2 : Hid ((zs.set i (⟨kk, (ho, hd), nw, (bo, bd), (co, cd), we⟩ : CredT)).length = n ∧ (zs.set i (⟨kk, (ho, hd), nw, (bo, bd), (co, cd), we⟩ : CredT)).take (i + 1) = cup xs (j + (r + 1)) ∧ ∀ q, j + (r + 1) ≤ q + 1 → (zs.set i (⟨kk, (ho, hd), nw, (bo, bd), (co, cd), we⟩ : CredT))[q]? = xs[q]?) := Lib.hid ⟨by simp [HZ.out.1], by
                  rw [HF.out, ← HZ.out.2.1]
                  have : (zs.set i (⟨kk, (ho, hd), nw, (bo, bd), (co, cd), we⟩ : CredT))[i]'(by simpa using hiz) = (⟨kk, (ho, hd), nw, (bo, bd), (co, cd), we⟩ : CredT) := by simp
                  rw [← List.take_append_getElem (l := zs.set i (⟨kk, (ho, hd), nw, (bo, bd), (co, cd), we⟩ : CredT)) (by simpa using hiz), this]
                  rw [List.take_set, List.set_eq_of_length_le (by rw [List.length_take]; omega)], fun q hq => by
                  rw [List.getElem?_set_ne (by omega)]; exact HZ.out.2.2 q (by omega)⟩
              have HSET := Lib.hid hset
              clear hset hiz
              go_wp2_with ((with_reducible refine wl_store ?_ (fun K hK => ?_)); (rfl); (refine owp_storeRow' rfl st ?_; apply Exists.intro; apply Exists.intro; refine ⟨?_, ?_, ?_⟩; (focus (go_simp; try rfl)); (focus (go_simp; try rfl)); refine ⟨0, _, _, _, _, _, _, _, _, get0, rfl, rfl, ?_, ?_, ?_, ?_⟩; (kernel_rfl); (simp [Value.cells]; omega); (rfl); (clear st; intro w st)))
              simp only [List.set_cons_zero] at st
              go_roundg (n - j - (r + 1))
              case measure => omega
              case rel => exact ⟨i + 1, r + 1, zs.set i (⟨kk, (ho, hd), nw, (bo, bd), (co, cd), we⟩ : CredT), by omega, by omega, rfl, by omega, by go_num, by go_num, HZ2, by rw [← HSET.out]; simpa [Value.cells] using st⟩
          · obtain ⟨inf, hinf, hz0, hz1, hz2⟩ := credInfo
            have HF : Hid (zs.take i = Lib.compact xs) := Lib.hid (by rw [HZ.out.2.1, ← cup_all, ← HN.out]; congr 1; omega)
            have hin : i ≤ n := by omega
            go_wp2_with ((with_reducible refine wl_clear ?_ (fun K hK => ?_)); (rfl); (refine owp_clearRow' rfl st Try.underlying23 ?_; apply Exists.intro; apply Exists.intro; apply Exists.intro; refine ⟨?_, ?_⟩; (focus (go_simp; exact ⟨rfl, rfl, rfl⟩)); refine ⟨0, _, _, _, _, i, _, inf, cV zC, get0, hinf, hz0, by decide, rfl, rfl, by omega, by simp, rfl, ?_⟩; (clear st; intro w ys hy1 hy2 st)))
            simp only [List.set_cons_zero] at st
            have st2 := st.rowCut (i := 0) (k := 9) (n := n) (c := c) (g := g) (E := 45) (xs := ys) get0 i (by omega)
            have hct := cellsL_take zs i
            rw [fltCred_k] at hct
            rw [hy1, hct, HF.out, List.set_cons_zero] at st2
            go_ret
            exact ⟨i, rfl, st2⟩
    · obtain rfl : j = n := by omega
      have HF : Hid (Lib.compact xs = xs) := Lib.hid (by rw [← cup_all, ← HN.out, HT.out, List.take_of_length_le (by have := HN.out; omega)])
      go_wp2_with fail
      go_ret
      exact ⟨j, rfl, by rw [HF.out]; exact st⟩
end Go.Proofs.Ytinfkenbjoddlaa

namespace Go.Proofs.Ytinfkenbjoddlaa
set_option linter.unusedSimpArgs false
set_option linter.unusedVariables false
open Go Go.RowKit
set_option maxRecDepth 100000 in
set_option maxHeartbeats 1000000 in
theorem refCredSame_any (a : Option Addr) (n c : Nat) (l : List CredT) (a' : Option Addr) (n' c' : Nat) (l' : List CredT) (W : World) (h : Fl W a n l) (h' : Fl W a' n' l') (hn : n ≤ 9000000000000000000) (hn' : n' ≤ 9000000000000000000) :
    Calls Try.prog 20 #[.slice a n c, .slice a' n' c'] W fun e w' => e = .returned (.bool (decide (l = l'))) ∧ Ext W w' := by
  have H := Lib.hid h
  have H' := Lib.hid h'
  have HNL := Lib.hid (And.intro h.1 h'.1)
  clear h h'
  have st := Own.startOld W
  (try simp only [nsl, Value.cells, unB] at st)
  (try clear hc); have hc := st.facts; (try simp only [nfl, nft, Nat.reduceAdd] at hc)
  by_cases hnn : n = n'
  · subst hnn
    go_enter Try.func20, Try.ntmps20
    go_wp2_with fail
    go_loopw [13] (fun i wr => ∃ (j : Nat), j ≤ n ∧ i = .int .i64 (j : Int) ∧ Hid (l.take j = l'.take j) ∧ Own (fun _ => False) (fun _ => True) W [oldI W] wr) (fun i _ => n - (intOf i).toNat)
    case atStart => exact ⟨0, by omega, rfl, Lib.hid (by simp), st⟩
    case round =>
      obtain ⟨j, hj, rfl, HT, st'⟩ := hrel
      clear st hc
      have st := st'
      clear st'
      (try simp only [nsl, Value.cells, unB] at st)
      (try clear hc); have hc := st.facts; (try simp only [nfl, nft, Nat.reduceAdd] at hc)
      by_cases hjn : j < n
      · obtain ⟨b, off, ha, hcell⟩ := H.out.cred (by omega)
        obtain ⟨b', off', ha', hcell'⟩ := H'.out.cred (by omega)
        have hjl : j < l.length := by have := HNL.out; omega
        have hjl' : j < l'.length := by have := HNL.out; omega
        have HC := Lib.hid (And.intro (hcell j l[j] (List.getElem?_eq_getElem hjl)) (hcell' j l'[j] (List.getElem?_eq_getElem hjl')))
        have hts : l.take (j + 1) = l.take j ++ [l[j]] := (List.take_append_getElem hjl).symm
        have hts' : l'.take (j + 1) = l'.take j ++ [l'[j]] := (List.take_append_getElem hjl').symm
        have hne : l[j] ≠ l'[j] → l ≠ l' := fun h1 h2 => h1 (by subst h2; rfl)
        clear hcell hcell'
        generalize l[j] = x at *
        generalize l'[j] = y at *
        obtain ⟨kk, ⟨ho, hd⟩, nw, ⟨bo, bd⟩, ⟨co, cd⟩, we⟩ := x
        obtain ⟨kk', ⟨ho', hd'⟩, nw', ⟨bo', bd'⟩, ⟨co', cd'⟩, we'⟩ := y
        have HX := Lib.hid (And.intro hts (And.intro hts' hne))
        clear hts hts' hne
        subst ha
        subst ha'
        simp only at HC
        unfold S at HC
        go_wp2_with fail
        refine Rg4.wp_region4_eq #[0, 0, 3, 7, 0, 0, 48, 112, 255] [] [3, 7] (fun _ => True) [0, 1, 2, 3, 4, 5, 6, 7, 8] (by kernel_rfl) (by kernel_rfl) (by kernel_rfl) (by kernel_rfl) (show Rg4.PB _ by repeat (first | with_reducible exact Rg4.pb_body | with_reducible exact Rg4.pb_bodyD rfl | with_reducible refine Rg4.pb_then ?_ | with_reducible refine Rg4.pb_inBlock ?_ | with_reducible refine Rg4.pb_noGoto ?_)) (trivial) ?_
        replace st := st.drew
        change Rg4.wp4 _ _ _ _ _ _ _ _ _ (World.drew _) _ _
        generalize World.drew _ = w at st ⊢
        (try clear hc); have hc := st.facts; (try simp only [nfl, nft, Nat.reduceAdd] at hc)
        iterate 3 (refine Rg4.w4_any (Rg4.want_none rfl) rfl ?_; apply Exists.intro; refine ⟨fun w' => ?_, ?_⟩; (focus (first | (go_simp; done) | (go_simp; first | rfl | (rw [if_neg] <;> first | rfl | omega) | (rw [if_pos] <;> first | rfl | omega)))); (try simp only [Rg4.nrm]))
        (refine Rg4.w4_read (Rg4.want_none rfl) rfl rfl ?_; apply Exists.intro; refine ⟨fun w' hw' hcl' => ?_, ?_⟩; focus (subst hw'; have r0 := st.oldCell (i := 0) get0 HC.out.1.1; have r1 := st.oldCell (i := 0) get0 HC.out.1.2.1; have r2 := st.oldCell (i := 0) get0 HC.out.1.2.2.1; have r3 := st.oldCell (i := 0) get0 HC.out.1.2.2.2.1; have r4 := st.oldCell (i := 0) get0 HC.out.1.2.2.2.2.1; have r5 := st.oldCell (i := 0) get0 HC.out.1.2.2.2.2.2.1; have r6 := st.oldCell (i := 0) get0 HC.out.1.2.2.2.2.2.2.1; have r7 := st.oldCell (i := 0) get0 HC.out.1.2.2.2.2.2.2.2.1; have r8 := st.oldCell (i := 0) get0 HC.out.1.2.2.2.2.2.2.2.2; have s0 := st.oldCell (i := 0) get0 HC.out.2.1; have s1 := st.oldCell (i := 0) get0 HC.out.2.2.1; have s2 := st.oldCell (i := 0) get0 HC.out.2.2.2.1; have s3 := st.oldCell (i := 0) get0 HC.out.2.2.2.2.1; have s4 := st.oldCell (i := 0) get0 HC.out.2.2.2.2.2.1; have s5 := st.oldCell (i := 0) get0 HC.out.2.2.2.2.2.2.1; have s6 := st.oldCell (i := 0) get0 HC.out.2.2.2.2.2.2.2.1; have s7 := st.oldCell (i := 0) get0 HC.out.2.2.2.2.2.2.2.2.1; have s8 := st.oldCell (i := 0) get0 HC.out.2.2.2.2.2.2.2.2.2; (focus (first | (go_simp; done) | (go_simp; first | rfl | (rw [if_neg] <;> first | rfl | omega) | (rw [if_pos] <;> first | rfl | omega))))); (try simp only [Rg4.nrm]))
        iterate 3 (refine Rg4.w4_any (Rg4.want_none rfl) rfl ?_; apply Exists.intro; refine ⟨fun w' => ?_, ?_⟩; (focus (first | (go_simp; done) | (go_simp; first | rfl | (rw [if_neg] <;> first | rfl | omega) | (rw [if_pos] <;> first | rfl | omega)))); (try simp only [Rg4.nrm]))
        (refine Rg4.w4_read (Rg4.want_none rfl) rfl rfl ?_; apply Exists.intro; refine ⟨fun w' hw' hcl' => ?_, ?_⟩; focus (subst hw'; have r0 := st.oldCell (i := 0) get0 HC.out.1.1; have r1 := st.oldCell (i := 0) get0 HC.out.1.2.1; have r2 := st.oldCell (i := 0) get0 HC.out.1.2.2.1; have r3 := st.oldCell (i := 0) get0 HC.out.1.2.2.2.1; have r4 := st.oldCell (i := 0) get0 HC.out.1.2.2.2.2.1; have r5 := st.oldCell (i := 0) get0 HC.out.1.2.2.2.2.2.1; have r6 := st.oldCell (i := 0) get0 HC.out.1.2.2.2.2.2.2.1; have r7 := st.oldCell (i := 0) get0 HC.out.1.2.2.2.2.2.2.2.1; have r8 := st.oldCell (i := 0) get0 HC.out.1.2.2.2.2.2.2.2.2; have s0 := st.oldCell (i := 0) get0 HC.out.2.1; have s1 := st.oldCell (i := 0) get0 HC.out.2.2.1; have s2 := st.oldCell (i := 0) get0 HC.out.2.2.2.1; have s3 := st.oldCell (i := 0) get0 HC.out.2.2.2.2.1; have s4 := st.oldCell (i := 0) get0 HC.out.2.2.2.2.2.1; have s5 := st.oldCell (i := 0) get0 HC.out.2.2.2.2.2.2.1; have s6 := st.oldCell (i := 0) get0 HC.out.2.2.2.2.2.2.2.1; have s7 := st.oldCell (i := 0) get0 HC.out.2.2.2.2.2.2.2.2.1; have s8 := st.oldCell (i := 0) get0 HC.out.2.2.2.2.2.2.2.2.2; (focus (first | (go_simp; done) | (go_simp; first | rfl | (rw [if_neg] <;> first | rfl | omega) | (rw [if_pos] <;> first | rfl | omega))))); (try simp only [Rg4.nrm]))
        (refine Rg4.w4_any (Rg4.want_none rfl) rfl ?_; apply Exists.intro; refine ⟨fun w' => ?_, ?_⟩; (focus (first | (go_simp; done) | (go_simp; first | rfl | (rw [if_neg] <;> first | rfl | omega) | (rw [if_pos] <;> first | rfl | omega)))); (try simp only [Rg4.nrm]))
        refine Rg4.w4_nil (fun w' hw' hcl' _ => ?_); subst hw'; clear hcl'
        cases hxy : credEq (⟨kk, (ho, hd), nw, (bo, bd), (co, cd), we⟩ : CredT) (⟨kk', (ho', hd'), nw', (bo', bd'), (co', cd'), we'⟩ : CredT) with
        | true =>
          have hb : (!true) = false := rfl
          have HF : Hid (l.take (j + 1) = l'.take (j + 1)) := Lib.hid (by rw [credEq_eq, decide_eq_true_eq] at hxy; rw [HX.out.1, HX.out.2.1, HT.out, hxy])
          clear hxy
          simp only [hb]
          go_wp2_with fail
          exact ⟨⟨j + 1, by omega, by go_num, HF, st⟩, by simp [intOf]; omega⟩
        | false =>
          have hb : (!false) = true := rfl
          have HF : Hid (l ≠ l') := Lib.hid (HX.out.2.2 (by rw [credEq_eq, decide_eq_false_iff_not] at hxy; exact hxy))
          clear hxy
          simp only [hb]
          go_wp2_with fail
          go_ret
          exact ⟨by rw [decide_eq_false HF.out]; rfl, st.ext0⟩
      · obtain rfl : j = n := by omega
        have HF : Hid (l = l') := Lib.hid (by have := HT.out; rw [List.take_of_length_le (by have := HNL.out; omega), List.take_of_length_le (by have := HNL.out; omega)] at this; exact this)
        go_wp2_with fail
        go_ret
        exact ⟨by rw [decide_eq_true HF.out]; rfl, st.ext0⟩
  · have HF : Hid (l ≠ l') := Lib.hid (fun h => hnn (by rw [HNL.out.1, HNL.out.2, h]))
    go_enter Try.func20, Try.ntmps20
    go_wp2_with fail
    go_ret
    exact ⟨by rw [decide_eq_false HF.out]; rfl, st.ext0⟩
end Go.Proofs.Ytinfkenbjoddlaa

namespace Go.Proofs.Ytinfkenbjoddlaa
set_option linter.unusedSimpArgs false
set_option linter.unusedVariables false
open Go Go.RowKit
@[go_sem] theorem eqNilCred (a : Option Addr) (n c : Nat) (w : World) : (binOp .eql 23 (.slice a n c) (.slice none 0 0)).run Try.prog w = .ok (.bool a.isNone) w := by
  have h := run_equal_slice_nil w _ _ a n c Try.underlying23
  simp only [binOp]
  simp [h]
set_option maxRecDepth 100000 in
set_option maxHeartbeats 1000000 in
theorem credClone_any (a : Option Addr) (n c : Nat) (l : List CredT) (W : World) (h : Fl W a n l) (hn : n ≤ 2000000) :
    Calls Try.prog 54 #[.slice a n c] W fun e w' => ∃ va vc, e = .returned (.slice va n vc) ∧ FreshI W w' (rowI 45 9 (.slice va n vc) n (cellsL l)) := by
  have H := Lib.hid h
  clear h
  have st := Own.startOld W
  (try simp only [nsl, Value.cells, unB] at st)
  (try clear hc); have hc := st.facts; (try simp only [nfl, nft, Nat.reduceAdd] at hc)
  cases a with
  | none =>
    have h0 : n = 0 := by
      rcases Nat.eq_zero_or_pos n with q | q
      · exact q
      · obtain ⟨b, off, e, _⟩ := H.out.2 q; cases e
    subst h0
    have hl : l = [] := List.eq_nil_of_length_eq_zero H.out.1.symm
    subst hl
    go_enter Try.func54, Try.ntmps54
    go_wp2_with fail
    go_ret
    exact ⟨none, 0, rfl, FreshI.post (FreshI.pre (FreshI.nilRow W _ _) (Ext.refl _)) st.ext0⟩
  | some ad =>
    go_enter Try.func54, Try.ntmps54
    go_wp2_with (first
        | ((with_reducible refine wl_append ?_ (fun K hK => ?_)); (rfl); (obtain ⟨inf, hinf, hz0, hz1, hz2⟩ := credInfo); (refine owp_append rfl st 1 get1 Try.underlying23 hinf hz0 hz1 hz2 rfl (by decide) rfl rfl ((st.oldFl (i := 0) get0 H.out).flat) (by first | exact cellsL_all _ | simp [Value.oneCell']) (by simp only [maxLen]; omega) (by omega) ?_); (clear hinf hz0 hz1 hz2 inf); (clear st; intro v' w st); (obtain ⟨va', vc', rfl⟩ := own_slice (st.row (i := 1) get1)); (try simp only [nsl, Value.cells, unB] at st); (try simp only [Nat.zero_add] at st); (try clear hc); have hc := st.facts; (try simp only [nfl, nft, Nat.reduceAdd] at hc))
        | ((with_reducible refine wl_buildSlice ?_ (fun K hK => ?_)); (rfl); (refine owp_buildRow (o := ⟨some 5, _, _, _, _, _⟩) rfl st 45 9 ?_; refine ⟨0, #[], ?_, by simp, by simp [maxLen], ?_⟩; (focus (go_simp; (first | done | rfl))); (clear st; intro b5 w hb st; clear hb)); (try simp only [nsl, Value.cells, unB] at st); (try clear hc); have hc := st.facts; (try simp only [nfl, nft, Nat.reduceAdd] at hc)))
    go_ret
    have hf := st.toFresh (i := 1) get1
    exact ⟨_, _, rfl, hf⟩
set_option maxRecDepth 100000 in
set_option maxHeartbeats 1000000 in
theorem credSet1_any (x : CredT) (W : World) (hl : CredL 100000 x) : Calls Try.prog 55 #[cV x] W fun e w' => e = .returned (.bool (!credR x)) ∧ Ext W w' := by
  have HR := Lib.hid (credRight_any x)
  obtain ⟨kk, ⟨ho, hd⟩, nw, ⟨bo, bd⟩, ⟨co, cd⟩, we⟩ := x
  have st := Own.startOld W
  unfold cV S at *
  (try simp only [nsl, Value.cells, unB] at st)
  (try clear hc); have hc := st.facts; (try simp only [nfl, nft, Nat.reduceAdd] at hc)
  go_enter Try.func55, Try.ntmps55
  go_wp2_with ((((with_reducible refine wl_box ?_ (fun K hK => ?_)); rfl; refine owp_box (o := ⟨some 1, _, _, _, _, _⟩) rfl st ?_; apply Exists.intro; refine ⟨?_, ?_⟩; (focus (go_simp; try rfl)); (clear st; intro b1 w hb st; clear hb))); (try simp only [nsl, Value.cells, unB] at st); (try clear hc); have hc := st.facts; (try simp only [nfl, nft, Nat.reduceAdd] at hc))
  refine (HR.out _ hl).mono ?_
  rintro en w ⟨rfl, hx⟩
  replace st := st.ext hx
  clear hx
  (try clear hc); have hc := st.facts; (try simp only [nfl, nft, Nat.reduceAdd] at hc)
  go_wp2_with fail
  go_ret
  exact ⟨rfl, st.ext0⟩
end Go.Proofs.Ytinfkenbjoddlaa

namespace Go.Proofs.Ytinfkenbjoddlaa
set_option linter.unusedSimpArgs false
set_option linter.unusedVariables false
open Go Go.RowKit
theorem rdName_put (s ys : List UInt8) (h : nameR s = true) : rdName (numB s.length ++ s ++ ys) = .ok (s, ys) := by
  unfold rdName
  rw [show (16 : Int) = ((16 : Nat) : Int) from rfl, rdText_put 16 s ys (nameR_len h).2 (by decide)]
  simp [h]
theorem rdRole_puts (x : Role) (ys : List UInt8) (h : roleR x = true) : rdRole (roleB x ++ ys) = .ok (x, ys) := by
  obtain ⟨o, d⟩ := x
  have hr : nameR o = true ∧ nameR d = true := by simpa [roleR] using h
  unfold rdRole roleB
  simp only
  rw [show numB o.length ++ o ++ (numB d.length ++ d) ++ ys = numB o.length ++ o ++ (numB d.length ++ d ++ ys) by simp, rdName_put o _ hr.1]
  simp only
  rw [rdName_put d ys hr.2]
end Go.Proofs.Ytinfkenbjoddlaa

namespace Go.Proofs.Ytinfkenbjoddlaa
set_option linter.unusedSimpArgs false
set_option linter.unusedVariables false
open Go Go.RowKit
/-- A name behind which ys lies is read. -/
theorem roleB_inj {x y : Role} {p q : List UInt8} (hx : roleR x = true) (hy : roleR y = true) (h : roleB x ++ p = roleB y ++ q) : x = y ∧ p = q := by
  have h1 := rdRole_puts x p hx
  rw [h, rdRole_puts y q hy] at h1
  injection h1 with h1
  injection h1 with h2 h3
  exact ⟨h2.symm, h3.symm⟩
theorem textB_inj {s t p q : List UInt8} (hs : nameR s = true) (ht : nameR t = true) (h : numB s.length ++ s ++ p = numB t.length ++ t ++ q) : s = t ∧ p = q := by
  have h1 := rdName_put s p hs
  rw [h, rdName_put t q ht] at h1
  injection h1 with h1
  injection h1 with h2 h3
  exact ⟨h2.symm, h3.symm⟩
theorem numB_k (k : Int) (h : k = 1 ∨ k = 2 ∨ k = 3 ∨ k = 4) : numB k.toNat = [k.toNat.toUInt8] := by
  rcases h with rfl | rfl | rfl | rfl <;> decide +kernel
theorem k_inj (k k' : Int) (h : k = 1 ∨ k = 2 ∨ k = 3 ∨ k = 4) (h' : k' = 1 ∨ k' = 2 ∨ k' = 3 ∨ k' = 4) (e : k.toNat.toUInt8 = k'.toNat.toUInt8) : k = k' := by
  rcases h with rfl | rfl | rfl | rfl <;> rcases h' with rfl | rfl | rfl | rfl <;> first | rfl | (exact absurd e (by decide))
theorem credB_inj {x y : CredT} (hx : credR x = true) (hy : credR y = true) (h : credB x = credB y) : x = y := by
  obtain ⟨h1, hc⟩ := credR_cases hx
  obtain ⟨h2, hd⟩ := credR_cases hy
  obtain ⟨k, hh, w, b, c, e⟩ := x
  obtain ⟨k', hh', w', b', c', e'⟩ := y
  simp only at h1 h2 hc hd
  have hk : k = 1 ∨ k = 2 ∨ k = 3 ∨ k = 4 := by rcases hc with q | ⟨_, _, q | q | q⟩ <;> simp [q.1]
  have hk' : k' = 1 ∨ k' = 2 ∨ k' = 3 ∨ k' = 4 := by rcases hd with q | ⟨_, _, q | q | q⟩ <;> simp [q.1]
  unfold credB at h
  simp only at h
  rw [numB_k k hk, numB_k k' hk'] at h
  simp only [List.append_assoc, List.cons_append, List.nil_append, List.cons.injEq] at h
  obtain ⟨he, h⟩ := h
  have ek := k_inj k k' hk hk' he
  subst ek
  have tA := roleB_inj h1 h2 h
  clear h
  obtain ⟨e1, h⟩ := tA
  subst e1
  rcases hc with ⟨rfl, q1, q2, q3, q4⟩ | ⟨q1, q2, q3⟩
  · rcases hd with ⟨_, p1, p2, p3, p4⟩ | ⟨_, _, p | p | p⟩
    · simp only [if_true] at h
      have hw := textB_inj (p := []) (q := []) q1 p1 (by simpa using h)
      rw [hw.1, q2, q3, q4, p2, p3, p4]
    · exact absurd p.1 (by decide)
    · exact absurd p.1 (by decide)
    · exact absurd p.1 (by decide)
  · have hk1 : k ≠ 1 := by rcases q3 with q | q | q <;> rw [q.1] <;> decide
    rcases hd with ⟨rfl, _⟩ | ⟨p1, p2, p3⟩
    · exact absurd rfl hk1
    · rw [if_neg hk1, if_neg hk1] at h
      have tB := roleB_inj q2 p2 h
      clear h
      obtain ⟨e2, h⟩ := tB
      subst e2
      rw [q1, p1]
      rcases q3 with ⟨rfl, q4, q5⟩ | ⟨rfl, q4, _, q5⟩ | ⟨rfl, q4, q5, _⟩
      · rcases p3 with ⟨_, p4, p5⟩ | ⟨p, _⟩ | ⟨p, _⟩
        · rw [q4, q5, p4, p5]
        · exact absurd p (by decide)
        · exact absurd p (by decide)
      · rcases p3 with ⟨p, _⟩ | ⟨_, p4, _, p5⟩ | ⟨p, _⟩
        · exact absurd p (by decide)
        · simp only [if_true] at h
          have hw := textB_inj (p := []) (q := []) q5 p5 (by simpa using h)
          rw [hw.1, q4, p4]
        · exact absurd p (by decide)
      · rcases p3 with ⟨p, _⟩ | ⟨p, _⟩ | ⟨_, p4, p5, _⟩
        · exact absurd p (by decide)
        · exact absurd p (by decide)
        · simp only [if_true, show ((4 : Int) = 3) = False from by simp, if_false] at h
          have hw := roleB_inj (p := []) (q := []) q5 p5 (by simpa using h)
          rw [hw.1, q4, p4]
end Go.Proofs.Ytinfkenbjoddlaa

namespace Go.Proofs.Ytinfkenbjoddlaa
set_option linter.unusedSimpArgs false
set_option linter.unusedVariables false
open Go Go.RowKit Go.Sort Go.Lib Go.Shelf
theorem Ext.grow {w w' : World} (h : Ext w w') : ∃ q os, w' = grow (w.drewN q) os := by
  refine ⟨w'.drawn - w.drawn, w'.heap.extract w.heap.size w'.heap.size, ?_⟩
  have hh : w'.heap = w.heap ++ w'.heap.extract w.heap.size w'.heap.size := by
    apply Array.ext_getElem?
    intro k
    rw [Array.getElem?_append]
    split
    · exact h.bel.block k (by assumption)
    · rw [Array.getElem?_extract]
      split
      · congr 1; omega
      · rw [Array.getElem?_eq_none]; have := h.le; omega
  have hd := h.drawn
  cases w' with
  | mk a b c d e =>
    have h1 := h.bel.os; have h2 := h.bel.tape; have h3 := h.bel.output
    simp only at h1 h2 h3 hd hh
    unfold Go.Sort.grow World.drewN
    simp only [World.mk.injEq]
    exact ⟨hh, h2, by omega, h1, h3⟩
section
variable {α : Type} [Flt α] [Inhabited α]
theorem flat_eq (xs : List α) : (flatK Flt.cells (Flt.k α) xs.toArray).toList = cellsL xs := by
  have hk := Flt.pos (α := α)
  apply List.ext_getElem?
  intro t
  by_cases ht : t < xs.length * Flt.k α
  · have hi : t / Flt.k α < xs.length := (Nat.div_lt_iff_lt_mul hk).2 ht
    have hr : t % Flt.k α < Flt.k α := Nat.mod_lt _ hk
    have e : t / Flt.k α * Flt.k α + t % Flt.k α = t := by rw [Nat.mul_comm]; exact Nat.div_add_mod _ _
    have h1 := cellsL_get (List.getElem?_eq_getElem hi) hr
    rw [e] at h1
    rw [h1, Array.getElem?_toList]
    have hrl : t % Flt.k α < (Flt.cells xs[t / Flt.k α]).length := by rw [Flt.len]; exact hr
    simp [flatK, ht, hi, hrl]
  · rw [List.getElem?_eq_none (by simp; omega), List.getElem?_eq_none (by rw [cellsL_len]; omega)]
theorem flat_eq' (xs : List α) : flatK Flt.cells (Flt.k α) xs.toArray = (cellsL xs).toArray := by
  rw [← flat_eq]
theorem heap_sortedK {w : World} {g n : Nat} {os : Array Obj} {cur : Array Value} {e : TypeId} {f : Nat × Nat} (d : Array Value) (hb : w.heap[g]? = some (.cells cur e f)) :
    (grow (putRow id (Sort.ahead w n) g 0 d) os).heap[g]? = some (.cells (putCells id 0 d cur) e f) := by
  have hg : g < w.heap.size := (Array.getElem?_eq_some_iff.1 hb).1
  rw [heap_grow_old _ _ (by simpa using hg)]
  simp [putRow, mapBlock, Sort.ahead, Array.getElem?_modify, hb, onCells]
theorem grownBy_sortedK {w : World} {g n : Nat} {os : Array Obj} (d : Array Value) : w.grownBy (grow (putRow id (Sort.ahead w n) g 0 d) os) (some g) := by
  refine ⟨rfl, rfl, rfl, by simp, fun k hk hne => ?_⟩
  rw [heap_grow_old _ _ (by simpa using hk)]
  have : g ≠ k := fun e => hne (by rw [e])
  simp [putRow, mapBlock, Sort.ahead, Array.getElem?_modify, this]
theorem take_putCellsK (cur : Array Value) (ts : List Value) (h : ts.length ≤ cur.size) : (putCells id 0 ts.toArray cur).toList.take ts.length = ts := by
  apply List.ext_getElem?
  intro j
  by_cases hj : j < ts.length
  · rw [List.getElem?_take_of_lt hj, Array.getElem?_toList]
    simp [putCells, hj, show j < cur.size by omega]
  · rw [List.getElem?_take_eq_none (by omega), List.getElem?_eq_none (by omega)]
variable {fr al : Nat → Prop} {w0 w : World} {L : List It}
theorem Own.holdsK (st : Own fr al w0 L w) {i n c g : Nat} {E : TypeId} {xs : List α} (hi : L[i]? = some (rowI E (Flt.k α) (.slice (some ⟨g, 0, none⟩) n c) n (cellsL xs))) : HoldsK Flt.cells (Flt.k α) w g 0 xs.toArray ∧ g < w.heap.size := by
  have hrow := st.row hi
  rcases hrow.2 with ⟨h1, h2⟩ | ⟨g', cap, cur, h1, hb, hg, hcap, hm, hs, ht⟩
  · cases h1
  · cases h1
    refine ⟨?_, (Array.getElem?_eq_some_iff.1 hg).1⟩
    unfold HoldsK
    rw [flat_eq']
    intro j hj
    have hj' : j < (cellsL xs).length := by simpa using hj
    refine ⟨?_, by simp [World.frozen?, hg]⟩
    have hn : n * Flt.k α = (cellsL xs).length := hrow.1.symm
    have h1 : (cur.toList.take (n * Flt.k α))[j]? = (cellsL xs)[j]? := by rw [ht]
    rw [List.getElem?_take_of_lt (by omega)] at h1
    simp only [World.cell?, hg, Nat.zero_add]
    simp only [Option.isSome_none, Bool.false_eq_true, if_false]
    rw [← Array.getElem?_toList, h1]
    simp [hj']
theorem Own.sortedK (st : Own fr al w0 L w) {i n c g : Nat} {E : TypeId} {xs ys : List α} (hi : L[i]? = some (rowI E (Flt.k α) (.slice (some ⟨g, 0, none⟩) n c) n (cellsL xs))) (hl : ys.length = xs.length) (m : Nat) (os : Array Obj) :
    Own fr al w0 (L.set i (rowI E (Flt.k α) (.slice (some ⟨g, 0, none⟩) n c) n (cellsL ys))) (sortWorldK Flt.cells (Flt.k α) w g 0 m ys.toArray os) := by
  have hrow := st.row hi
  rcases hrow.2 with ⟨h1, h2⟩ | ⟨g', cap, cur, h1, hb, hg, hcap, hm, hs, ht⟩
  · cases h1
  · cases h1
    have hn : n * Flt.k α = (cellsL xs).length := hrow.1.symm
    have hy : (cellsL ys).length = n * Flt.k α := by rw [cellsL_len, hl, hn, cellsL_len]
    have hle : n * Flt.k α ≤ cur.size := by rw [hs]; exact Nat.mul_le_mul_right _ hcap
    have e : sortWorldK Flt.cells (Flt.k α) w g 0 m ys.toArray os = grow (putRow id (Sort.ahead w m) g 0 (cellsL ys).toArray) os := by unfold sortWorldK putRowK; rw [flat_eq']
    rw [e]
    refine st.upd hi fun e s ⟨q1, q2⟩ q3 q4 => ⟨e, s, ⟨?_, q2⟩, fun b hb => ⟨Nat.lt_of_lt_of_le (q3 b (.inl hb)) (grownBy_sortedK _).size, .inl hb⟩, fun b hb => ⟨Nat.lt_of_lt_of_le (q3 b (.inr hb)) (grownBy_sortedK _).size, .inr (.inl hb)⟩, q4, MutO.grown (MutO.refl _ _) ⟨grownBy_sortedK _, Nat.le_add_right _ _⟩ fun k hk _ => ?_⟩
    · exact ⟨hy, .inr ⟨g, c, _, rfl, hb, heap_sortedK _ hg, hcap, hm, by simp [putCells, hs], by rw [← hy]; exact take_putCellsK cur (cellsL ys) (by omega)⟩⟩
    · cases hk; exact q2 g rfl
end
end Go.Proofs.Ytinfkenbjoddlaa

namespace Go.Proofs.Ytinfkenbjoddlaa
set_option linter.unusedSimpArgs false
set_option linter.unusedVariables false
open Go Go.RowKit Go.Sort Go.Lib
/-- A right credential. -/
abbrev CredK := {x : CredT // credR x = true}
instance : Inhabited CredK := ⟨⟨⟨2, ([97], [97]), [], ([97], [97]), ([], []), []⟩, by decide +kernel⟩⟩
instance fltCredK : Flt CredK := ⟨9, fun x => cC x.1, fun x => Flt.len x.1, by decide, fun x => Flt.one x.1⟩
theorem cellsL_val (xs : List CredK) : cellsL xs = cellsL (xs.map Subtype.val) := by
  induction xs with
  | nil => rfl
  | cons x xs ih => rw [List.map_cons, cellsL_cons, cellsL_cons, ih]; rfl
def credLt (a b : CredT) : Bool := strLt (credBy a) (credBy b)
theorem credBy_r {x : CredT} (h : credR x = true) : credBy x = credB x := if_pos h
theorem credOrd : SOrd credLt credR where
  irr x := strLt_irr _
  tr x y z h1 h2 := strLt_tr h1 h2
  tri x y hx hy := by
    rcases strLt_tri (credBy x) (credBy y) with h | h | h
    · exact .inl h
    · rw [credBy_r hx, credBy_r hy] at h; exact .inr (.inl (credB_inj hx hy h))
    · exact .inr (.inr h)
def cmpK (x y : CredK) : Int := credCmp x.1 y.1
theorem cmpK_lt (x y : CredK) : ltOf cmpK x y = credLt x.1 y.1 := by
  unfold ltOf cmpK credCmp cmp2 credLt
  cases h : strLt (credBy x.1) (credBy y.1) with
  | true => simp
  | false => cases h2 : strLt (credBy y.1) (credBy x.1) <;> simp
theorem cmpKSwo : SWO (ltOf cmpK) where
  irrefl x := by rw [cmpK_lt]; exact credOrd.irr x.1
  trans x y z h1 h2 := by rw [cmpK_lt] at *; exact credOrd.tr x.1 y.1 z.1 h1 h2
  ntrans x y z h1 h2 := by
    rw [cmpK_lt] at *
    cases h : credLt x.1 z.1 with
    | false => rfl
    | true =>
      rcases credOrd.tri x.1 y.1 x.2 y.2 with q | q | q
      · rw [q] at h1; cases h1
      · rw [q] at h; rw [h] at h2; cases h2
      · have := credOrd.tr _ _ _ q h; rw [this] at h2; cases h2
theorem cmpKTot (x y : CredK) (h1 : ltOf cmpK x y = false) (h2 : ltOf cmpK y x = false) : x = y := by
  rw [cmpK_lt] at h1 h2
  rcases credOrd.tri x.1 y.1 x.2 y.2 with q | q | q
  · rw [q] at h1; cases h1
  · exact Subtype.ext q
  · rw [q] at h2; cases h2
def credSort (xs : List CredK) : List CredK := xs.mergeSort fun x y => !(ltOf cmpK) y x
theorem credSort_pw (xs : List CredK) : (credSort xs).Pairwise (fun x y => credLt y.1 x.1 = false) := by
  have h1 := List.pairwise_mergeSort (le := fun x y : CredK => !(ltOf cmpK) y x) (fun a b c h1 h2 => by
    simp only [Bool.not_eq_true'] at *; exact cmpKSwo.ntrans _ _ _ h2 h1) (fun a b => by
    cases h : ltOf cmpK b a with
    | false => rfl
    | true => cases h2 : ltOf cmpK a b with
      | false => rfl
      | true => have := cmpKSwo.trans _ _ _ h h2; rw [cmpKSwo.irrefl] at this; cases this) xs
  refine h1.imp fun {a b} h => ?_
  simpa [cmpK_lt] using h
theorem credR_len {x : CredT} (h : credR x = true) : CredL 100000 x := by
  obtain ⟨h1, h2⟩ := credR_cases h
  have a1 := roleR_len h1
  unfold CredL
  rcases h2 with ⟨_, q, e1, e2, e3⟩ | ⟨e0, q, h3⟩
  · have := (nameR_len q).2
    rw [e1, e2, e3]; simp [nR]; omega
  · have a2 := roleR_len q
    rw [e0]
    rcases h3 with ⟨_, e1, e2⟩ | ⟨_, e1, _, e2⟩ | ⟨_, e1, e2, _⟩
    · rw [e1, e2]; simp [nR]; omega
    · have := (nameR_len e2).2
      rw [e1]; simp [nR]; omega
    · have := roleR_len e2
      rw [e1]; simp; omega
theorem cred76 (args : Array Value) (w : World) : (callFunc 57 args).run Try.prog w = .ok (.enter 57 args) w := enters_of Try.func57 (by kernel_rfl) rfl args w
section
variable {fr al : Nat → Prop} {w0 w : World} {L : List It}
theorem sortCred_c (st : Own fr al w0 L w) (i : Nat) {n c : Nat} {a : Option Addr} {xs : List CredK} (hi : L[i]? = some (rowI 45 9 (.slice a n c) n (cellsL xs))) (hn : n ≤ 2000000) :
    Calls Try.prog 56 #[.slice a n c, .func (.func 57) #[] #[]] w fun e w' => e = .returned (.tuple #[]) ∧ Own fr al w0 (L.set i (rowI 45 9 (.slice a n c) n (cellsL (credSort xs)))) w' := by
  have hrow := st.row hi
  have hnx : n = xs.length := by have := hrow.1; rw [cellsL_len, show Flt.k CredK = 9 from rfl] at this; omega
  rcases Nat.eq_zero_or_pos n with h0 | h0
  · subst h0
    have hx : xs = [] := List.eq_nil_of_length_eq_zero hnx.symm
    subst hx
    refine (AnyF.slices_SortFunc_none Try.sortCred a c _ w).mono ?_
    rintro e w' ⟨rfl, rfl⟩
    refine ⟨rfl, ?_⟩
    have : L.set i (rowI 45 9 (.slice a 0 c) 0 (cellsL (credSort []))) = L := by
      apply List.ext_getElem?
      intro q
      rw [List.getElem?_set]
      split
      · rename_i h; subst h; rw [hi, if_pos (get_lt hi)]; unfold credSort; rw [List.mergeSort_nil]
      · rfl
    rw [this]; exact st
  · obtain ⟨g, cap', hv, hcap, _⟩ := st.rowAt hi h0
    injection hv with hv1 hv2 hv3
    subst hv1 hv3
    have hH := st.holdsK (α := CredK) (xs := xs) hi
    have hcon := AnyQ.slices_SortFunc_total Try.sortCred 9 Try.isAgg45 Try.sizeOf45 (Flt.cells : CredK → List Value) (fun x => Flt.len x) (fun x v hv => Flt.one x v hv) cmpK cmpKSwo 57 #[] g 0 c xs.toArray w cred76
      (fun m os dk _ x y => (credCompare_any x.1 y.1 _ (credR_len x.2) (credR_len y.2)).mono fun e w' h => ⟨h.1, h.2.grow⟩) hH.1 hH.2 (by simp; omega) cmpKTot
    change Calls Try.prog 56 _ _ _ at hcon
    rw [show xs.toArray.size = n by simp [hnx]] at hcon
    refine hcon.mono ?_
    rintro e w' ⟨rfl, m, os, rfl⟩
    exact ⟨rfl, st.sortedK (α := CredK) hi (by unfold credSort; simp) m os⟩
end
end Go.Proofs.Ytinfkenbjoddlaa

namespace Go.Proofs.Ytinfkenbjoddlaa
set_option linter.unusedSimpArgs false
set_option linter.unusedVariables false
open Go Go.RowKit
def rights (l : List CredT) : List CredK := (l.filter credR).pmap Subtype.mk fun _ hx => (List.mem_filter.1 hx).2
theorem rights_val (l : List CredT) : (rights l).map Subtype.val = l.filter credR := by
  unfold rights; rw [List.map_pmap]; simp
def credSorted (l : List CredT) : List CredT := (credSort (rights l)).map Subtype.val
theorem credSorted_mem (l : List CredT) (x : CredT) : x ∈ credSorted l ↔ x ∈ l ∧ credR x = true := by
  rw [← List.mem_filter, ← rights_val]
  unfold credSorted credSort
  simp only [List.mem_map, List.mem_mergeSort]
/-- The set of the right credentials of a list. -/
@[irreducible] def credSet (l : List CredT) : List CredT := Lib.compact (credSorted l)
theorem credSet_eq (l : List CredT) : credSet l = Lib.compact (credSorted l) := by unfold credSet; rfl
theorem credSet_set (l : List CredT) : SSet credLt credR l (credSet l) := by
  rw [credSet_eq]
  refine compact_set credOrd _ l (credSorted_mem l) ?_
  unfold credSorted
  exact List.pairwise_map.2 (credSort_pw _)
theorem credSet_len (l : List CredT) : (credSet l).length ≤ l.length := (credSet_set l).len credOrd.irr
set_option maxRecDepth 100000 in
set_option maxHeartbeats 1000000 in
theorem credSet_any (a : Option Addr) (n c : Nat) (l : List CredT) (W : World) (h : Fl W a n l) (hn : n ≤ 2000000) (hs : ∀ x ∈ l, CredL 100000 x) :
    Calls Try.prog 32 #[.slice a n c] W fun e w' => ∃ va vc, e = .returned (.slice va (credSet l).length vc) ∧ FreshI W w' (rowI 45 9 (.slice va (credSet l).length vc) (credSet l).length (cellsL (credSet l))) := by
  have H := Lib.hid (And.intro h hs)
  have st := Own.startOld W
  clear h hs
  (try simp only [nsl, Value.cells, unB] at st)
  (try clear hc); have hc := st.facts; (try simp only [nfl, nft, Nat.reduceAdd] at hc)
  go_enter Try.func32, Try.ntmps32
  go_wp2_with fail
  refine (credClone_any a n c l _ (st.oldFl (i := 0) get0 H.out.1) hn).mono ?_
  rintro en w ⟨va, vc, rfl, hnew⟩
  replace st := st.fresh hnew
  clear hnew
  (try simp only [nsl, Value.cells, unB] at st)
  (try clear hc); have hc := st.facts; (try simp only [nfl, nft, Nat.reduceAdd] at hc)
  go_wp2_with fail
  obtain ⟨fr', al', st', back⟩ := st.sub [1] (by decide) (by simp)
  (try simp only [nsl, Value.cells, unB] at st')
  refine (deleteFuncCred_c st' hn 55 #[] (fun x => !credR x) (fun _ _ => by kernel_rfl) (fun x hx w => credSet1_any x w (H.out.2 x hx))).mono ?_
  clear st'
  rintro en w ⟨m, rfl, st'⟩
  replace st := back _ _ (by simp) st'
  clear back st'
  (try simp only [nsl, Value.cells, unB] at st)
  (try clear hc); have hc := st.facts; (try simp only [nfl, nft, Nat.reduceAdd] at hc)
  simp only [Bool.not_not] at st
  have hm : m ≤ n := by
    have h1 := credLen (st.row (i := 1) get1)
    have h2 := List.length_filter_le (fun x => credR x) l
    have h3 := H.out.1.1
    omega
  rw [show List.filter (fun x => credR x) l = (rights l).map Subtype.val from (rights_val l).symm, ← cellsL_val] at st
  go_wp2_with fail
  refine (sortCred_c st 1 get1 (by omega)).mono ?_
  rintro en w ⟨rfl, st'⟩
  clear st
  have st := st'
  clear st'
  rw [cellsL_val (credSort (rights l)), show (credSort (rights l)).map Subtype.val = credSorted l from rfl] at st
  (try simp only [nsl, Value.cells, unB] at st)
  (try clear hc); have hc := st.facts; (try simp only [nfl, nft, Nat.reduceAdd] at hc)
  go_wp2_with fail
  obtain ⟨fr', al', st', back⟩ := st.sub [1] (by decide) (by simp)
  (try simp only [nsl, Value.cells, unB] at st')
  refine (compactCred_c st' (by omega)).mono ?_
  clear st'
  rintro en w ⟨m2, rfl, st'⟩
  replace st := back _ _ (by simp) st'
  clear back st'
  (try simp only [nsl, Value.cells, unB] at st)
  (try clear hc); have hc := st.facts; (try simp only [nfl, nft, Nat.reduceAdd] at hc)
  rw [← credSet_eq l] at st
  have hm2 := credLen (st.row (i := 1) get1)
  subst hm2
  have hfin := st.toFresh (i := 1) get1
  have HF := Lib.hid hfin
  clear hfin st
  go_wp2_with fail
  go_ret
  exact ⟨va, vc, rfl, HF.out⟩
end Go.Proofs.Ytinfkenbjoddlaa

namespace Go.Proofs.Ytinfkenbjoddlaa
set_option linter.unusedSimpArgs false
set_option linter.unusedVariables false
open Go Go.RowKit
set_option maxRecDepth 100000 in
set_option maxHeartbeats 1000000 in
theorem svPick1_c {fr al : Nat → Prop} {W : World} {b2 p m sc k : Nat} {sa : Option Addr} {bs : List UInt8} (x : CredT) (st : Own fr al W [blkI b2 [.pointer (some ⟨p, 0, none⟩)], blkI p [.slice sa m sc, .int .i64 (k : Int)], byI sa m bs] W) (hl : CredL 100000 x) (hbl : bs.length = m) (hm : 1 ≤ m ∧ m ≤ 512) (hk : k ≤ 8) :
    Calls Try.prog 33 #[cV x, .pointer (some ⟨b2, 0, none⟩)] W fun e w' => e = .returned (.bool (!mayB (8 * m) k bs x)) ∧ Own fr al W [blkI b2 [.pointer (some ⟨p, 0, none⟩)], blkI p [.slice sa m sc, .int .i64 (k : Int)], byI sa m bs] w' := by
  have HM := Lib.hid (fun (fr al : Nat → Prop) (W : World) (st : Own fr al W [blkI p [.slice sa m sc, .int .i64 (k : Int)], byI sa m bs] W) => svMayB_c x st hl hbl hm hk)
  obtain ⟨mv, hmv⟩ : ∃ v, mayB (8 * m) k bs x = v := ⟨_, rfl⟩
  rw [hmv] at HM ⊢
  clear hmv hl hbl
  have HXV : Hid (cV x = .agg #[.int .i64 x.k, .string ⟨x.h.1.toArray⟩, .string ⟨x.h.2.toArray⟩, .string ⟨x.w.toArray⟩, .string ⟨x.b.1.toArray⟩, .string ⟨x.b.2.toArray⟩, .string ⟨x.c.1.toArray⟩, .string ⟨x.c.2.toArray⟩, .string ⟨x.e.toArray⟩]) := Lib.hid rfl
  rw [HXV.out] at HM ⊢
  (try simp only [nsl, Value.cells, unB] at st)
  (try clear hc); have hc := st.facts; (try simp only [nfl, nft, Nat.reduceAdd] at hc)
  go_enter Try.func33, Try.ntmps33
  go_wp2_with ((((with_reducible refine wl_box ?_ (fun K hK => ?_)); rfl; refine owp_box (o := ⟨some 2, _, _, _, _, _⟩) rfl st ?_; apply Exists.intro; refine ⟨?_, ?_⟩; (focus (go_simp; try rfl)); (clear st; intro b2 w hb st; clear hb))); (try simp only [nsl, Value.cells, unB] at st); (try clear hc); have hc := st.facts; (try simp only [nfl, nft, Nat.reduceAdd] at hc))
  obtain ⟨fr', al', st', back⟩ := st.sub [1, 2] (by decide) (by simp)
  (try simp only [nsl, Value.cells, unB] at st')
  refine (HM.out _ _ _ st').mono ?_
  clear st'
  rintro en w ⟨rfl, st'⟩
  replace st := back _ _ (by simp) st'
  clear back st'
  (try simp only [nsl, Value.cells, unB] at st)
  (try clear hc); have hc := st.facts; (try simp only [nfl, nft, Nat.reduceAdd] at hc)
  go_wp2_with ((((with_reducible refine wl_box ?_ (fun K hK => ?_)); rfl; refine owp_box (o := ⟨some 2, _, _, _, _, _⟩) rfl st ?_; apply Exists.intro; refine ⟨?_, ?_⟩; (focus (go_simp; try rfl)); (clear st; intro b2 w hb st; clear hb))); (try simp only [nsl, Value.cells, unB] at st); (try clear hc); have hc := st.facts; (try simp only [nfl, nft, Nat.reduceAdd] at hc))
  go_ret
  have st' := st.keep [0, 1, 2] (by decide) (by simp)
  exact ⟨by simp, by simpa [pick] using st'⟩
set_option maxRecDepth 100000 in
set_option maxHeartbeats 1000000 in
theorem svPick_c {fr al : Nat → Prop} {W : World} {p m sc k n c : Nat} {sa : Option Addr} {bs : List UInt8} {a : Option Addr} {l : List CredT} (st : Own fr al W [blkI p [.slice sa m sc, .int .i64 (k : Int)], byI sa m bs, flI a n l] W) (hn : n ≤ 2000000) (hs : ∀ x ∈ l, CredL 100000 x) (hbl : bs.length = m) (hm : 1 ≤ m ∧ m ≤ 512) (hk : k ≤ 8) :
    Calls Try.prog 12 #[.pointer (some ⟨p, 0, none⟩), .slice a n c] W fun e w' => ∃ va q vc, e = .returned (.slice va q vc) ∧ Own fr al W [blkI p [.slice sa m sc, .int .i64 (k : Int)], byI sa m bs, flI a n l, rowI 45 9 (.slice va q vc) q (cellsL ((credSet l).filter (mayB (8 * m) k bs)))] w' := by
  have HS := Lib.hid (fun W h => credSet_any a n c l W h hn hs)
  have HP1 := Lib.hid (fun (b2 : Nat) (x : CredT) (hx : x ∈ credSet l) (fr al : Nat → Prop) (W : World) st => svPick1_c (fr := fr) (al := al) (W := W) (b2 := b2) (p := p) (sc := sc) (sa := sa) (m := m) (k := k) (bs := bs) x st (hs x ((((credSet_set l).2 x).1 hx).1)) hbl hm hk)
  have h := st.flAt (i := 2) get2
  have HLN : Hid ((credSet l).length ≤ 2000000) := Lib.hid (by have := credSet_len l; have := h.1; omega)
  generalize credSet l = cs at *
  obtain ⟨qn, hqn⟩ : ∃ q, cs.length = q := ⟨_, rfl⟩
  rw [hqn] at HS HLN
  clear hbl h hs hqn
  (try simp only [nsl, Value.cells, unB] at st)
  (try clear hc); have hc := st.facts; (try simp only [nfl, nft, Nat.reduceAdd] at hc)
  go_enter Try.func12, Try.ntmps12
  go_wp2_with ((((with_reducible refine wl_box ?_ (fun K hK => ?_)); rfl; refine owp_box (o := ⟨some 2, _, _, _, _, _⟩) rfl st ?_; apply Exists.intro; refine ⟨?_, ?_⟩; (focus (go_simp; try rfl)); (clear st; intro b2 w hb st; clear hb))); (try simp only [nsl, Value.cells, unB] at st); (try clear hc); have hc := st.facts; (try simp only [nfl, nft, Nat.reduceAdd] at hc))
  refine (HS.out _ (st.flAt (i := 2) get2)).mono ?_
  rintro en w ⟨va, vc, rfl, hnew⟩
  replace st := st.fresh hnew
  clear hnew
  (try simp only [nsl, Value.cells, unB] at st)
  (try clear hc); have hc := st.facts; (try simp only [nfl, nft, Nat.reduceAdd] at hc)
  go_wp2_with ((((with_reducible refine wl_box ?_ (fun K hK => ?_)); rfl; refine owp_box (o := ⟨some 2, _, _, _, _, _⟩) rfl st ?_; apply Exists.intro; refine ⟨?_, ?_⟩; (focus (go_simp; try rfl)); (clear st; intro b2 w hb st; clear hb))); (try simp only [nsl, Value.cells, unB] at st); (try clear hc); have hc := st.facts; (try simp only [nfl, nft, Nat.reduceAdd] at hc))
  obtain ⟨fr', al', st', back⟩ := st.sub [4, 3, 0, 1] (by decide) (by simp)
  (try simp only [nsl, Value.cells, unB] at st')
  refine (deleteFuncCredM_c st' HLN.out 33 #[.pointer (some ⟨b2, 0, none⟩)] (fun x => !mayB (8 * m) k bs x) (fun _ _ => by kernel_rfl) (fun x hx fr al w s => HP1.out _ x hx fr al w s)).mono ?_
  clear st'
  rintro en w ⟨m2, rfl, st'⟩
  replace st := back _ _ (by simp) st'
  clear back st'
  (try simp only [nsl, Value.cells, unB] at st)
  (try clear hc); have hc := st.facts; (try simp only [nfl, nft, Nat.reduceAdd] at hc)
  simp only [Bool.not_not] at st
  go_wp2_with ((((with_reducible refine wl_box ?_ (fun K hK => ?_)); rfl; refine owp_box (o := ⟨some 2, _, _, _, _, _⟩) rfl st ?_; apply Exists.intro; refine ⟨?_, ?_⟩; (focus (go_simp; try rfl)); (clear st; intro b2 w hb st; clear hb))); (try simp only [nsl, Value.cells, unB] at st); (try clear hc); have hc := st.facts; (try simp only [nfl, nft, Nat.reduceAdd] at hc))
  go_ret
  have st' := st.keep [0, 1, 2, 4] (by decide) (by simp)
  exact ⟨_, _, _, rfl, by simpa [pick] using st'⟩
end Go.Proofs.Ytinfkenbjoddlaa

namespace Go.Proofs.Ytinfkenbjoddlaa
set_option linter.unusedSimpArgs false
set_option linter.unusedVariables false
open Go Go.RowKit
theorem ownsRow_base {w : World} {b0 b1 : Nat} {E : TypeId} {k n : Nat} {v : Value} {xs : List Value} (h : w.ownsRow b1 E k v n xs) (hb : b0 ≤ b1) : w.ownsRow b0 E k v n xs := by
  refine ⟨h.1, h.2.imp id ?_⟩
  rintro ⟨g, cap, cur, hv, hg, r⟩
  exact ⟨g, cap, cur, hv, by omega, r⟩
section
variable {fr al : Nat → Prop} {w0 w w' : World} {L : List It}
theorem Own.newRow (st : Own fr al w0 L w) (hx : Ext w w') {E : TypeId} {k n : Nat} {v : Value} {xs : List Value} (h : w'.ownsRow w.heap.size E k v n xs) : Own fr al w0 (L ++ [rowI E k v n xs]) w' :=
  st.new hx (e' := fun q => v.ownBlock = some q) (s' := fun _ => False) ⟨ownsRow_base h (Nat.zero_le _), fun q hq => hq⟩ (fun q hq => ⟨(h.lt q hq).2, (h.lt q hq).1⟩) (fun _ q => q.elim) (fun _ _ q => q)
end
end Go.Proofs.Ytinfkenbjoddlaa

namespace Go.Proofs.Ytinfkenbjoddlaa
set_option linter.unusedSimpArgs false
set_option linter.unusedVariables false
open Go Go.RowKit
/-- Bytes, or'd one by one. -/
def orL (xs ys : List UInt8) : List UInt8 := List.zipWith (fun a b => a ||| b) xs ys
theorem orL_len (xs ys : List UInt8) (h : ys.length = xs.length) : (orL xs ys).length = xs.length := by unfold orL; rw [List.length_zipWith, h]; omega
theorem set_step {α : Type} (A X : List α) (j : Nat) (h : j < A.length) (hx : j < X.length) : (A.take j ++ X.drop j).set j A[j] = A.take (j + 1) ++ X.drop (j + 1) := by
  rw [List.set_append, if_neg (by rw [List.length_take]; omega), List.length_take, show j - min j A.length = 0 by omega, List.drop_eq_getElem_cons hx, List.set_cons_zero, show A.take (j + 1) = A.take j ++ [A[j]] from (List.take_append_getElem h).symm, List.append_assoc]
  rfl
theorem or_bytes (a b : UInt8) : bits .or .u8 (a.toNat : Int) (b.toNat : Int) = ((a ||| b).toNat : Int) := by
  rw [u8_or_nat _ _ a.toNat_lt b.toNat_lt, UInt8.toNat_or]
set_option maxRecDepth 100000 in
set_option maxHeartbeats 1000000 in
theorem svJoin_nil (a : Option Addr) (W : World) : Calls Try.prog 21 #[.pointer a, .pointer none] W fun e w' => e = .returned (.tuple #[.pointer none, .int .i64 1]) ∧ Ext W w' := by
  cases a with
  | none =>
    go_enter Try.func21, Try.ntmps21
    go_wp2_with fail
    go_ret2
    exact ⟨rfl, Ext.refl _⟩
  | some a =>
    go_enter Try.func21, Try.ntmps21
    go_wp2_with fail
    go_ret2
    exact ⟨rfl, Ext.refl _⟩
set_option maxRecDepth 100000 in
set_option maxHeartbeats 2000000 in
theorem svJoin_c {fr al : Nat → Prop} {W : World} {p q m c1 c2 k : Nat} {a1 a2 : Option Addr} {xs ys : List UInt8} (st : Own fr al W [blkI p [.slice a1 m c1, .int .i64 (k : Int)], byI a1 m xs, blkI q [.slice a2 m c2, .int .i64 (k : Int)], byI a2 m ys] W) (hc : m ≤ c1 ∧ c1 ≤ maxLen) (hm : 1 ≤ m ∧ m ≤ 512) :
    Calls Try.prog 21 #[.pointer (some ⟨p, 0, none⟩), .pointer (some ⟨q, 0, none⟩)] W fun e w' => ∃ r a3 c3, e = .returned (.tuple #[.pointer (some ⟨r, 0, none⟩), .int .i64 0]) ∧ (m ≤ c3 ∧ c3 ≤ maxLen) ∧ Own fr al W [blkI p [.slice a1 m c1, .int .i64 (k : Int)], byI a1 m xs, blkI q [.slice a2 m c2, .int .i64 (k : Int)], byI a2 m ys, blkI r [.slice a3 m c3, .int .i64 (k : Int)], byI a3 m (orL xs ys)] w' := by
  have HXL : Hid (xs.length = m) := Lib.hid (st.by (i := 1) get1).1.symm
  have HYL : Hid (ys.length = m) := Lib.hid (st.by (i := 3) get3).1.symm
  have HC := Lib.hid hc
  have HZL : Hid ((orL xs ys).length = m) := Lib.hid (by rw [orL_len _ _ (by rw [HXL.out, HYL.out]), HXL.out])
  clear hc
  (try simp only [nsl, Value.cells, unB] at st)
  (try clear hc); have hc := st.facts; (try simp only [nfl, nft, Nat.reduceAdd] at hc)
  go_enter Try.func21, Try.ntmps21
  go_wp2_with fail
  refine Rg4.wp_region4_eq #[0, 1, 3, 7, 15, 0, 32, 96, 224, 480, 1023, 2047, 4095, 8191, 16383, 32767, 4095, 69631, 200703, 462847, 1048575, 2097151] [] [3, 8, 15, 19] (fun _ => True) [0, 1, 2, 3, 4, 5, 6, 7, 8, 9, 10, 11, 12, 13, 14, 15, 16, 17, 18, 19, 20, 21] (by kernel_rfl) (by kernel_rfl) (by kernel_rfl) (by kernel_rfl) (show Rg4.PB _ by repeat (first | with_reducible exact Rg4.pb_body | with_reducible exact Rg4.pb_bodyD rfl | with_reducible refine Rg4.pb_then ?_ | with_reducible refine Rg4.pb_inBlock ?_ | with_reducible refine Rg4.pb_noGoto ?_)) (trivial) ?_
  replace st := st.drew
  change Rg4.wp4 _ _ _ _ _ _ _ _ _ (World.drew _) _ _
  generalize World.drew _ = w at st ⊢
  (try clear hc); have hc := st.facts; (try simp only [nfl, nft, Nat.reduceAdd] at hc)
  iterate 3 (refine Rg4.w4_any (Rg4.want_none rfl) rfl ?_; apply Exists.intro; refine ⟨fun w' => ?_, ?_⟩; (focus (first | (go_simp; done) | (go_simp; first | rfl | (rw [if_neg] <;> first | rfl | omega) | (rw [if_pos] <;> first | rfl | omega)))); (try simp only [Rg4.nrm]))
  (refine Rg4.w4_read (Rg4.want_none rfl) rfl rfl ?_; apply Exists.intro; refine ⟨fun w' hw' hcl' => ?_, ?_⟩; focus (subst hw'; (focus (first | (go_simp; done) | (go_simp; first | rfl | (rw [if_neg] <;> first | rfl | omega) | (rw [if_pos] <;> first | rfl | omega))))); (try simp only [Rg4.nrm]))
  iterate 4 (refine Rg4.w4_any (Rg4.want_none rfl) rfl ?_; apply Exists.intro; refine ⟨fun w' => ?_, ?_⟩; (focus (first | (go_simp; done) | (go_simp; first | rfl | (rw [if_neg] <;> first | rfl | omega) | (rw [if_pos] <;> first | rfl | omega)))); (try simp only [Rg4.nrm]))
  (refine Rg4.w4_read (Rg4.want_none rfl) rfl rfl ?_; apply Exists.intro; refine ⟨fun w' hw' hcl' => ?_, ?_⟩; focus (subst hw'; (focus (first | (go_simp; done) | (go_simp; first | rfl | (rw [if_neg] <;> first | rfl | omega) | (rw [if_pos] <;> first | rfl | omega))))); (try simp only [Rg4.nrm]))
  iterate 3 (refine Rg4.w4_any (Rg4.want_none rfl) rfl ?_; apply Exists.intro; refine ⟨fun w' => ?_, ?_⟩; (focus (first | (go_simp; done) | (go_simp; first | rfl | (rw [if_neg] <;> first | rfl | omega) | (rw [if_pos] <;> first | rfl | omega)))); (try simp only [Rg4.nrm]))
  iterate 3 (first | (refine Rg4.w4_any (Rg4.wt rfl rfl rfl) rfl ?_; apply Exists.intro; refine ⟨fun w' => ?_, ?_⟩; (focus (first | (go_simp; done) | (go_simp; first | rfl | (rw [if_neg] <;> first | rfl | omega) | (rw [if_pos] <;> first | rfl | omega)))); (try simp only [Rg4.nrm])) | (refine Rg4.w4_skip (Rg4.uw rfl rfl rfl) ?_; (try simp only [Rg4.nrm])) | (refine Rg4.w4_skip (Rg4.un rfl rfl rfl) ?_; (try simp only [Rg4.nrm])))
  (first | (refine Rg4.w4_read (Rg4.wt rfl rfl rfl) rfl rfl ?_; apply Exists.intro; refine ⟨fun w' hw' hcl' => ?_, ?_⟩; focus (subst hw'; (focus (first | (go_simp; done) | (go_simp; first | rfl | (rw [if_neg] <;> first | rfl | omega) | (rw [if_pos] <;> first | rfl | omega))))); (try simp only [Rg4.nrm])) | (refine Rg4.w4_skip (Rg4.uw rfl rfl rfl) ?_; (try simp only [Rg4.nrm])) | (refine Rg4.w4_skip (Rg4.un rfl rfl rfl) ?_; (try simp only [Rg4.nrm])))
  iterate 3 (first | (refine Rg4.w4_any (Rg4.wt rfl rfl rfl) rfl ?_; apply Exists.intro; refine ⟨fun w' => ?_, ?_⟩; (focus (first | (go_simp; done) | (go_simp; first | rfl | (rw [if_neg] <;> first | rfl | omega) | (rw [if_pos] <;> first | rfl | omega)))); (try simp only [Rg4.nrm])) | (refine Rg4.w4_skip (Rg4.uw rfl rfl rfl) ?_; (try simp only [Rg4.nrm])) | (refine Rg4.w4_skip (Rg4.un rfl rfl rfl) ?_; (try simp only [Rg4.nrm])))
  (first | (refine Rg4.w4_read (Rg4.wt rfl rfl rfl) rfl rfl ?_; apply Exists.intro; refine ⟨fun w' hw' hcl' => ?_, ?_⟩; focus (subst hw'; (focus (first | (go_simp; done) | (go_simp; first | rfl | (rw [if_neg] <;> first | rfl | omega) | (rw [if_pos] <;> first | rfl | omega))))); (try simp only [Rg4.nrm])) | (refine Rg4.w4_skip (Rg4.uw rfl rfl rfl) ?_; (try simp only [Rg4.nrm])) | (refine Rg4.w4_skip (Rg4.un rfl rfl rfl) ?_; (try simp only [Rg4.nrm])))
  (first | (refine Rg4.w4_any (Rg4.wt rfl rfl rfl) rfl ?_; apply Exists.intro; refine ⟨fun w' => ?_, ?_⟩; (focus (first | (go_simp; done) | (go_simp; first | rfl | (rw [if_neg] <;> first | rfl | omega) | (rw [if_pos] <;> first | rfl | omega)))); (try simp only [Rg4.nrm])) | (refine Rg4.w4_skip (Rg4.uw rfl rfl rfl) ?_; (try simp only [Rg4.nrm])) | (refine Rg4.w4_skip (Rg4.un rfl rfl rfl) ?_; (try simp only [Rg4.nrm])))
  (refine Rg4.w4_any (Rg4.want_none rfl) rfl ?_; apply Exists.intro; refine ⟨fun w' => ?_, ?_⟩; (focus (first | (go_simp; done) | (go_simp; first | rfl | (rw [if_neg] <;> first | rfl | omega) | (rw [if_pos] <;> first | rfl | omega)))); (try simp only [Rg4.nrm]))
  refine Rg4.w4_nil (fun w' hw' hcl' _ => ?_); subst hw'; clear hcl'
  go_wp2_with fail
  obtain ⟨B0, hB0⟩ : ∃ B0, w.heap.size = B0 := ⟨_, rfl⟩
  have hB : (World.drew w).heap.size = B0 := hB0
  clear hB0
  refine Rg4.wp_region4 (Rel := Ext) #[0, 1, 3, 7, 15, 0, 32, 96, 224, 511, 1023, 2047]
    [(4, ⟨fun v w => ∃ va vc, v = .slice va m vc ∧ (m ≤ vc ∧ vc ≤ maxLen) ∧ w.ownsRow B0 5 1 (.slice va m vc) m (xs.map B) , fun _ _ _ hx ⟨va, vc, h1, h2, h3⟩ => ⟨va, vc, h1, h2, own_ext h3 hx⟩⟩)] [10] [3, 8] (fun _ => True) [0, 1, 2, 3, 4, 5, 6, 7, 8, 9, 10, 11] (by kernel_rfl) (by kernel_rfl) (by kernel_rfl) (by kernel_rfl) Ext.refl (fun _ _ _ => Ext.trans) (show Rg4.PB _ by repeat (first | with_reducible exact Rg4.pb_body | with_reducible exact Rg4.pb_bodyD rfl | with_reducible refine Rg4.pb_then ?_ | with_reducible refine Rg4.pb_inBlock ?_ | with_reducible refine Rg4.pb_noGoto ?_)) (trivial) ?_
  replace st := st.drew
  change Rg4.wp4 _ _ _ _ _ _ _ _ _ (World.drew _) _ _
  generalize World.drew _ = w at hB st ⊢
  (try clear hc); have hc := st.facts; (try simp only [nfl, nft, Nat.reduceAdd] at hc)
  iterate 3 (refine Rg4.w4_any (Rg4.want_none rfl) rfl ?_; apply Exists.intro; refine ⟨fun w' => ?_, ?_⟩; (focus (first | (go_simp; done) | (go_simp; first | rfl | (rw [if_neg] <;> first | rfl | omega) | (rw [if_pos] <;> first | rfl | omega)))); (try simp only [Rg4.nrm]))
  (refine Rg4.w4_read (Rg4.want_none rfl) rfl rfl ?_; apply Exists.intro; refine ⟨fun w' hw' hcl' => ?_, ?_⟩; focus (have st' := st.ext hw'; have hc' := st'.facts; (try simp only [nfl, nft, Nat.reduceAdd] at hc'); (focus (first | (go_simp; done) | (go_simp; first | rfl | (rw [if_neg] <;> first | rfl | omega) | (rw [if_pos] <;> first | rfl | omega))))); (try simp only [Rg4.nrm]))
  refine Rg4.w4_some (Rg4.want_none rfl) rfl (fun w' hw' hcl' _ => ?_) ?_
  · refine Rg.relAt_call (by go_simp; exact ⟨rfl, rfl⟩) ?_
    have st' := st.ext hw'
    refine (clone_any _ m c1 xs _ (st'.by (i := 1) get1) HC.out (by omega)).mono ?_
    rintro en w'' ⟨v, rfl, hrow, hx⟩
    have hrow' := hrow
    obtain ⟨va, m2, vc, rfl, h1, h2, h3⟩ := own_by hrow'
    obtain rfl : m2 = m := by rw [h3.1]; exact HXL.out
    exact ⟨_, rfl, hx, trivial, va, vc, rfl, ⟨h1, h2⟩, ownsRow_base hrow (by rw [← hB]; exact hw'.le)⟩
  rintro v ⟨_, _, _, a9, c9, rfl, hc9, _⟩
  (try simp only [Rg4.nrm])
  iterate 3 (refine Rg4.w4_any (Rg4.want_none rfl) rfl ?_; apply Exists.intro; refine ⟨fun w' => ?_, ?_⟩; (focus (first | (go_simp; done) | (go_simp; first | rfl | (rw [if_neg] <;> first | rfl | omega) | (rw [if_pos] <;> first | rfl | omega)))); (try simp only [Rg4.nrm]))
  (refine Rg4.w4_read (Rg4.want_none rfl) rfl rfl ?_; apply Exists.intro; refine ⟨fun w' hw' hcl' => ?_, ?_⟩; focus (have st' := st.ext hw'; have hc' := st'.facts; (try simp only [nfl, nft, Nat.reduceAdd] at hc'); (focus (first | (go_simp; done) | (go_simp; first | rfl | (rw [if_neg] <;> first | rfl | omega) | (rw [if_pos] <;> first | rfl | omega))))); (try simp only [Rg4.nrm]))
  (refine Rg4.w4_any (Rg4.want_none rfl) rfl ?_; apply Exists.intro; refine ⟨fun w' => ?_, ?_⟩; (focus (first | (go_simp; done) | (go_simp; first | rfl | (rw [if_neg] <;> first | rfl | omega) | (rw [if_pos] <;> first | rfl | omega)))); (try simp only [Rg4.nrm]))
  refine Rg4.w4_bar (Rg4.want_none rfl) rfl (fun w' hw' hcl hF K hK => ?_)
  obtain ⟨va, vc, hv, hvc, hrow⟩ := (hF 4).2 rfl
  cases hv
  rw [← hB] at hrow
  replace st := st.newRow hw' hrow
  clear hF hrow hcl hw' hB hc9
  (try simp only [nsl, Value.cells, unB] at st)
  (try clear hc); have hc := st.facts; (try simp only [nfl, nft, Nat.reduceAdd] at hc)
  (refine owp_box (o := ⟨some 46, _, _, _, _, _⟩) rfl st ?_; apply Exists.intro; refine ⟨?_, ?_⟩; (focus (go_simp; try rfl)); (clear st; intro b46 w hb st; clear hb); (try simp only [nsl, Value.cells, unB] at st); (try clear hc); have hc := st.facts; (try simp only [nfl, nft, Nat.reduceAdd] at hc))
  refine hK _ _ ⟨trivial, ?_⟩
  clear hK
  (try simp only [Rg4.nrm])
  (refine Rg4.w4_any (Rg4.want_none rfl) rfl ?_; apply Exists.intro; refine ⟨fun w' => ?_, ?_⟩; (focus (first | (go_simp; done) | (go_simp; first | rfl | (rw [if_neg] <;> first | rfl | omega) | (rw [if_pos] <;> first | rfl | omega)))); (try simp only [Rg4.nrm]))
  refine Rg4.w4_nil (fun w' hw' hcl' _ => ?_); replace st := st.ext hw'; clear hw' hcl'; (try clear hc); have hc := st.facts; (try simp only [nfl, nft, Nat.reduceAdd] at hc)
  go_wp2_with ((first
        | ((with_reducible refine wl_box ?_ (fun K hK => ?_)); rfl; refine owp_box (o := ⟨some 46, _, _, _, _, _⟩) rfl st ?_; apply Exists.intro; refine ⟨?_, ?_⟩; (focus (go_simp; try rfl)); (clear st; intro b46 w hb st; clear hb))
        | ((with_reducible refine wl_store ?_ (fun K hK => ?_)); rfl; refine owp_store rfl st ?_; apply Exists.intro; apply Exists.intro; refine ⟨?_, ?_, ?_⟩; (focus (go_simp; try rfl)); (focus (go_simp; try rfl)); (first | (with_reducible refine ⟨0, _, _, _, _, get0, rfl, rfl, ?_, ?_, ?_, ?_⟩) | (with_reducible refine ⟨1, _, _, _, _, get1, rfl, rfl, ?_, ?_, ?_, ?_⟩) | (with_reducible refine ⟨2, _, _, _, _, get2, rfl, rfl, ?_, ?_, ?_, ?_⟩) | (with_reducible refine ⟨3, _, _, _, _, get3, rfl, rfl, ?_, ?_, ?_, ?_⟩) | (with_reducible refine ⟨4, _, _, _, _, get4, rfl, rfl, ?_, ?_, ?_, ?_⟩) | (with_reducible refine ⟨5, _, _, _, _, get5, rfl, rfl, ?_, ?_, ?_, ?_⟩) | (with_reducible refine ⟨6, _, _, _, _, get6, rfl, rfl, ?_, ?_, ?_, ?_⟩)); (kernel_rfl); (simp [Value.cells]); (rfl); (clear st; intro w st))); (try simp only [nsl, Value.cells, unB] at st); (try clear hc); have hc := st.facts; (try simp only [nfl, nft, Nat.reduceAdd] at hc))
  obtain ⟨gr, grc, hv, -, -⟩ := st.rowAt (i := 4) get4 (by omega)
  injection hv with v1 _ v3
  subst v1 v3
  have hvc1 := hvc.1
  go_loopg [52] m (fun qq i wr => ∃ (j : Nat) (zs : List UInt8), j ≤ m ∧ qq = m - j ∧ i = .int .i64 (j : Int) ∧ Hid (zs = (orL xs ys).take j ++ xs.drop j) ∧ Own fr al W [blkI p [.slice a1 m c1, .int .i64 (k : Int)], byI a1 m xs, blkI q [.slice a2 m c2, .int .i64 (k : Int)], byI a2 m ys, rowI 5 1 (.slice (some ⟨gr, 0, none⟩) m c9) m (zs.map B), blkI b46 [.slice (some ⟨gr, 0, none⟩) m c9, .int .i64 (k : Int)]] wr)
  case atStart => exact ⟨0, xs, by omega, by omega, rfl, Lib.hid (by simp), st⟩
  case round =>
    obtain ⟨j, zs, hj, rfl, rfl, HZ, st'⟩ := hrel
    clear st hc
    have st := st'
    clear st'
    have hzl : zs.length = m := by rw [HZ.out]; have := HZL.out; have := HXL.out; simp; omega
    (try simp only [nsl, Value.cells, unB] at st)
    (try clear hc); have hc := st.facts; (try simp only [nfl, nft, Nat.reduceAdd] at hc)
    by_cases hjm : j < m
    · have hjx : j < xs.length := by rw [HXL.out]; exact hjm
      have hjy : j < ys.length := by rw [HYL.out]; exact hjm
      have hjo : j < (orL xs ys).length := by rw [HZL.out]; exact hjm
      have hzj : zs[j]? = some xs[j] := by
        rw [HZ.out, List.getElem?_append_right (by rw [List.length_take]; omega), List.length_take, List.getElem?_drop, show j + (j - min j (orL xs ys).length) = j by omega, List.getElem?_eq_getElem hjx]
      have r0 : (zs.map B)[j]? = some (B xs[j]) := by rw [List.getElem?_map, hzj]; rfl
      obtain ⟨g2, off2, ha2, -⟩ := (st.by (i := 3) get3).at hjm
      have r1 : ∀ w, By w (some ⟨g2, off2, none⟩) m ys → w.cell? ⟨g2, off2 + j, none⟩ = some (.int .u8 (ys[j].toNat : Int)) := fun w h => by
        obtain ⟨b', o', e, h1, -⟩ := h.at hjm
        injection e with e
        injection e with e1 e2
        subst e1 e2
        exact h1 j _ (List.getElem?_eq_getElem hjy)
      have hoj : (orL xs ys)[j] = xs[j] ||| ys[j] := by simp [orL]
      have HZ2 : Hid (zs.set j (xs[j] ||| ys[j]) = (orL xs ys).take (j + 1) ++ xs.drop (j + 1)) := Lib.hid (by rw [HZ.out, ← hoj]; exact set_step _ _ j hjo hjx)
      have zor := or_bytes xs[j] ys[j]
      obtain ⟨u, hu⟩ : ∃ u, xs[j] = u := ⟨_, rfl⟩
      obtain ⟨v, hv⟩ : ∃ u, ys[j] = u := ⟨_, rfl⟩
      rw [hu, hv] at HZ2 zor
      obtain ⟨o, ho⟩ : ∃ o, u ||| v = o := ⟨_, rfl⟩
      rw [ho] at HZ2 zor
      rw [hu] at r0
      rw [hv] at r1
      have HR0 := Lib.hid r0
      have HR1 := Lib.hid r1
      clear hzj hoj hu hv ho hjo hjx hjy r0 r1
      subst ha2
      (try simp only [nsl, Value.cells, unB] at st)
      (try clear hc); have hc := st.facts; (try simp only [nfl, nft, Nat.reduceAdd] at hc)
      go_wp2_with fail
      refine Rg4.wp_region4_eq #[0, 1, 3, 7, 0, 31, 63, 0, 128, 384, 896, 0, 3968, 8064, 16383, 32767, 65535] [16] [3, 6, 10, 13] (fun _ => True) [0, 1, 2, 3, 4, 5, 6, 7, 8, 9, 10, 11, 12, 13, 14, 15, 16] (by kernel_rfl) (by kernel_rfl) (by kernel_rfl) (by kernel_rfl) (show Rg4.PB _ by repeat (first | with_reducible exact Rg4.pb_body | with_reducible exact Rg4.pb_bodyD rfl | with_reducible refine Rg4.pb_then ?_ | with_reducible refine Rg4.pb_inBlock ?_ | with_reducible refine Rg4.pb_noGoto ?_)) (trivial) ?_
      replace st := st.drew
      change Rg4.wp4 _ _ _ _ _ _ _ _ _ (World.drew _) _ _
      generalize World.drew _ = w at st ⊢
      (try clear hc); have hc := st.facts; (try simp only [nfl, nft, Nat.reduceAdd] at hc)
      iterate 3 (refine Rg4.w4_any (Rg4.want_none rfl) rfl ?_; apply Exists.intro; refine ⟨fun w' => ?_, ?_⟩; (focus (first | (go_simp; done) | (go_simp; first | rfl | (rw [if_neg] <;> first | rfl | omega) | (rw [if_pos] <;> first | rfl | omega)))); (try simp only [Rg4.nrm]))
      (refine Rg4.w4_read (Rg4.want_none rfl) rfl rfl ?_; apply Exists.intro; refine ⟨fun w' hw' hcl' => ?_, ?_⟩; focus (subst hw'; have q0 := st.rowC (i := 4) get4 j _ HR0.out; unfold B at q0; have q1 := HR1.out _ (st.by (i := 3) get3); (focus (first | (go_simp; done) | (go_simp; first | rfl | (rw [if_neg] <;> first | rfl | omega) | (rw [if_pos] <;> first | rfl | omega))))); (try simp only [Rg4.nrm]))
      iterate 2 (refine Rg4.w4_any (Rg4.want_none rfl) rfl ?_; apply Exists.intro; refine ⟨fun w' => ?_, ?_⟩; (focus (first | (go_simp; done) | (go_simp; first | rfl | (rw [if_neg] <;> first | rfl | omega) | (rw [if_pos] <;> first | rfl | omega)))); (try simp only [Rg4.nrm]))
      (refine Rg4.w4_read (Rg4.want_none rfl) rfl rfl ?_; apply Exists.intro; refine ⟨fun w' hw' hcl' => ?_, ?_⟩; focus (subst hw'; have q0 := st.rowC (i := 4) get4 j _ HR0.out; unfold B at q0; have q1 := HR1.out _ (st.by (i := 3) get3); (focus (first | (go_simp; done) | (go_simp; first | rfl | (rw [if_neg] <;> first | rfl | omega) | (rw [if_pos] <;> first | rfl | omega))))); (try simp only [Rg4.nrm]))
      iterate 3 (refine Rg4.w4_any (Rg4.want_none rfl) rfl ?_; apply Exists.intro; refine ⟨fun w' => ?_, ?_⟩; (focus (first | (go_simp; done) | (go_simp; first | rfl | (rw [if_neg] <;> first | rfl | omega) | (rw [if_pos] <;> first | rfl | omega)))); (try simp only [Rg4.nrm]))
      (refine Rg4.w4_read (Rg4.want_none rfl) rfl rfl ?_; apply Exists.intro; refine ⟨fun w' hw' hcl' => ?_, ?_⟩; focus (subst hw'; have q0 := st.rowC (i := 4) get4 j _ HR0.out; unfold B at q0; have q1 := HR1.out _ (st.by (i := 3) get3); (focus (first | (go_simp; done) | (go_simp; first | rfl | (rw [if_neg] <;> first | rfl | omega) | (rw [if_pos] <;> first | rfl | omega))))); (try simp only [Rg4.nrm]))
      iterate 2 (refine Rg4.w4_any (Rg4.want_none rfl) rfl ?_; apply Exists.intro; refine ⟨fun w' => ?_, ?_⟩; (focus (first | (go_simp; done) | (go_simp; first | rfl | (rw [if_neg] <;> first | rfl | omega) | (rw [if_pos] <;> first | rfl | omega)))); (try simp only [Rg4.nrm]))
      (refine Rg4.w4_read (Rg4.want_none rfl) rfl rfl ?_; apply Exists.intro; refine ⟨fun w' hw' hcl' => ?_, ?_⟩; focus (subst hw'; have q0 := st.rowC (i := 4) get4 j _ HR0.out; unfold B at q0; have q1 := HR1.out _ (st.by (i := 3) get3); (focus (first | (go_simp; done) | (go_simp; first | rfl | (rw [if_neg] <;> first | rfl | omega) | (rw [if_pos] <;> first | rfl | omega))))); (try simp only [Rg4.nrm]))
      iterate 2 (refine Rg4.w4_any (Rg4.want_none rfl) rfl ?_; apply Exists.intro; refine ⟨fun w' => ?_, ?_⟩; (focus (first | (go_simp; done) | (go_simp; first | rfl | (rw [if_neg] <;> first | rfl | omega) | (rw [if_pos] <;> first | rfl | omega)))); (try simp only [Rg4.nrm]))
      refine Rg4.w4_bar (Rg4.want_none rfl) rfl (fun w' hw' hcl _ K hK => ?_)
      subst hw'
      refine owp_storeRow' rfl st ?_
      apply Exists.intro; apply Exists.intro
      refine ⟨?_, ?_, ?_⟩
      focus (go_simp; try rfl)
      focus (go_simp; try rfl)
      refine ⟨4, _, _, _, _, _, _, _, _, get4, rfl, rfl, ?_, ?_, ?_, ?_⟩
      · kernel_rfl
      · simp [Value.cells]; omega
      · rfl
      clear st
      intro w st
      have e : spl (zs.map B) j (Value.int .u8 (o.toNat : Int)).cells.toList = (zs.set j o).map B := by simp [spl, List.map_set, Value.cells, B]
      rw [e] at st
      simp only [List.set] at st
      refine hK _ _ ⟨trivial, ?_⟩
      clear hK
      (try simp only [Rg4.nrm])
      refine Rg4.w4_nil (fun w' hw' hcl' _ => ?_); subst hw'; clear hcl'
      go_wp2_with fail
      go_roundg (m - (j + 1))
      case measure => omega
      case rel => exact ⟨j + 1, _, by omega, by omega, by go_num, HZ2, st⟩
    · obtain rfl : j = m := by omega
      have HE : Hid (zs = orL xs ys) := Lib.hid (by rw [HZ.out, List.take_of_length_le (by have := HZL.out; omega), List.drop_of_length_le (by have := HXL.out; omega)]; simp)
      rw [HE.out] at st
      go_wp2_with fail
      go_ret2
      have st9 := (st.freezeRow (i := 4) get4).keep [0, 1, 2, 3, 5, 4] (by decide) (by simp)

      refine ⟨_, rfl, _, _, hvc, by simpa [pick] using st9⟩
end Go.Proofs.Ytinfkenbjoddlaa

namespace Go.Proofs.Ytinfkenbjoddlaa
set_option linter.unusedSimpArgs false
set_option linter.unusedVariables false
open Go Go.RowKit
theorem svRd1 (m k : Nat) (bs : List UInt8) (hm : m ≤ 512) : rdNumber 4096 (svB m k bs) = .ok (8 * m, numB k ++ bs) := by
  unfold svB
  rw [List.append_assoc]
  exact rdNumber_put 4096 (8 * m) _ (by omega) (by decide)
theorem svRd2 (k : Nat) (bs : List UInt8) (hk : k ≤ 8) : rdNumber 8 (numB k ++ bs) = .ok (k, bs) := rdNumber_put 8 k _ hk (by decide)
set_option maxRecDepth 100000 in
set_option maxHeartbeats 1000000 in
theorem svRead1_c {fr al : Nat → Prop} {W : World} {r b1 b2 m k : Nat} {bs : List UInt8} (st : Own fr al W [rdI r (svB m k bs), blkI b1 [.pointer none], blkI b2 [.int .i64 0]] W) (hr : svR ((8 * m : Nat) : Int) (k : Int) = true) (hm : m ≤ 512) (hk : k ≤ 8) (hbl : bs.length = m) :
    Calls Try.prog 44 #[.pointer (some ⟨r, 0, none⟩), .pointer (some ⟨b1, 0, none⟩), .pointer (some ⟨b2, 0, none⟩)] W fun e w' => ∃ p g, e = .returned (.tuple #[]) ∧ Own fr al W [rdI r bs, blkI b1 [.pointer (some ⟨p, 0, none⟩)], blkI b2 [.int .i64 (m : Int)], blkI g ((List.replicate m (0 : UInt8)).map B), blkI p [.slice (some ⟨g, 0, none⟩) m m, .int .i64 (k : Int)]] w' := by
  have HR1 := Lib.hid (svRd1 m k bs hm)
  have HR2 := Lib.hid (svRd2 k bs hk)
  obtain ⟨n8, hn8⟩ : ∃ n, 8 * m = n := ⟨_, rfl⟩
  rw [hn8] at hr HR1
  have HN := Lib.hid (fun W => sieveNew_f (n8 : Int) (k : Int) m W hr (by omega))
  have HBL := Lib.hid hbl
  generalize svB m k bs = x0 at *
  generalize numB k ++ bs = x1 at *
  clear hr hn8 hbl
  (try simp only [nsl, Value.cells, unB] at st)
  (try clear hc); have hc := st.facts; (try simp only [nfl, nft, Nat.reduceAdd] at hc)
  go_enter Try.func44, Try.ntmps44
  go_wp2_with ((((with_reducible refine wl_store ?_ (fun K hK => ?_)); rfl; refine owp_store rfl st ?_; apply Exists.intro; apply Exists.intro; refine ⟨?_, ?_, ?_⟩; (focus (go_simp; try rfl)); (focus (go_simp; try rfl)); (first | (with_reducible refine ⟨0, _, _, _, _, get0, rfl, rfl, ?_, ?_, ?_, ?_⟩) | (with_reducible refine ⟨1, _, _, _, _, get1, rfl, rfl, ?_, ?_, ?_, ?_⟩) | (with_reducible refine ⟨2, _, _, _, _, get2, rfl, rfl, ?_, ?_, ?_, ?_⟩) | (with_reducible refine ⟨3, _, _, _, _, get3, rfl, rfl, ?_, ?_, ?_, ?_⟩) | (with_reducible refine ⟨4, _, _, _, _, get4, rfl, rfl, ?_, ?_, ?_, ?_⟩) | (with_reducible refine ⟨5, _, _, _, _, get5, rfl, rfl, ?_, ?_, ?_, ?_⟩) | (with_reducible refine ⟨6, _, _, _, _, get6, rfl, rfl, ?_, ?_, ?_, ?_⟩)); (kernel_rfl); (simp [Value.cells]); (rfl); (clear st; intro w st))); (try simp only [nsl, Value.cells, unB] at st); (try clear hc); have hc := st.facts; (try simp only [nfl, nft, Nat.reduceAdd] at hc))
  obtain ⟨fr', al', st', back⟩ := st.sub [0] (by decide) (by simp)
  (try simp only [nsl, Value.cells, unB] at st')
  refine (number_c st' 4096).mono ?_
  clear st'
  intro en w hen
  unfold RdC at hen
  rw [HR1.out] at hen
  obtain ⟨v, M, rfl, ⟨rfl, rfl⟩, st'⟩ := hen
  replace st := back _ _ (by simp) st'
  clear back st'
  (try simp only [nsl, Value.cells, unB] at st)
  (try clear hc); have hc := st.facts; (try simp only [nfl, nft, Nat.reduceAdd] at hc)
  go_wp2_with ((((with_reducible refine wl_store ?_ (fun K hK => ?_)); rfl; refine owp_store rfl st ?_; apply Exists.intro; apply Exists.intro; refine ⟨?_, ?_, ?_⟩; (focus (go_simp; try rfl)); (focus (go_simp; try rfl)); (first | (with_reducible refine ⟨0, _, _, _, _, get0, rfl, rfl, ?_, ?_, ?_, ?_⟩) | (with_reducible refine ⟨1, _, _, _, _, get1, rfl, rfl, ?_, ?_, ?_, ?_⟩) | (with_reducible refine ⟨2, _, _, _, _, get2, rfl, rfl, ?_, ?_, ?_, ?_⟩) | (with_reducible refine ⟨3, _, _, _, _, get3, rfl, rfl, ?_, ?_, ?_, ?_⟩) | (with_reducible refine ⟨4, _, _, _, _, get4, rfl, rfl, ?_, ?_, ?_, ?_⟩) | (with_reducible refine ⟨5, _, _, _, _, get5, rfl, rfl, ?_, ?_, ?_, ?_⟩) | (with_reducible refine ⟨6, _, _, _, _, get6, rfl, rfl, ?_, ?_, ?_, ?_⟩)); (kernel_rfl); (simp [Value.cells]); (rfl); (clear st; intro w st))); (try simp only [nsl, Value.cells, unB] at st); (try clear hc); have hc := st.facts; (try simp only [nfl, nft, Nat.reduceAdd] at hc))
  obtain ⟨fr', al', st', back⟩ := st.sub [0] (by decide) (by simp)
  (try simp only [nsl, Value.cells, unB] at st')
  refine (number_c st' 8).mono ?_
  clear st'
  intro en w hen
  unfold RdC at hen
  rw [HR2.out] at hen
  obtain ⟨v, M, rfl, ⟨rfl, rfl⟩, st'⟩ := hen
  replace st := back _ _ (by simp) st'
  clear back st'
  (try simp only [nsl, Value.cells, unB] at st)
  (try clear hc); have hc := st.facts; (try simp only [nfl, nft, Nat.reduceAdd] at hc)
  go_wp2_with ((((with_reducible refine wl_store ?_ (fun K hK => ?_)); rfl; refine owp_store rfl st ?_; apply Exists.intro; apply Exists.intro; refine ⟨?_, ?_, ?_⟩; (focus (go_simp; try rfl)); (focus (go_simp; try rfl)); (first | (with_reducible refine ⟨0, _, _, _, _, get0, rfl, rfl, ?_, ?_, ?_, ?_⟩) | (with_reducible refine ⟨1, _, _, _, _, get1, rfl, rfl, ?_, ?_, ?_, ?_⟩) | (with_reducible refine ⟨2, _, _, _, _, get2, rfl, rfl, ?_, ?_, ?_, ?_⟩) | (with_reducible refine ⟨3, _, _, _, _, get3, rfl, rfl, ?_, ?_, ?_, ?_⟩) | (with_reducible refine ⟨4, _, _, _, _, get4, rfl, rfl, ?_, ?_, ?_, ?_⟩) | (with_reducible refine ⟨5, _, _, _, _, get5, rfl, rfl, ?_, ?_, ?_, ?_⟩) | (with_reducible refine ⟨6, _, _, _, _, get6, rfl, rfl, ?_, ?_, ?_, ?_⟩)); (kernel_rfl); (simp [Value.cells]); (rfl); (clear st; intro w st))); (try simp only [nsl, Value.cells, unB] at st); (try clear hc); have hc := st.facts; (try simp only [nfl, nft, Nat.reduceAdd] at hc))
  refine (HN.out _).mono ?_
  rintro en w ⟨p, g, rfl, h2⟩
  replace st := st.join h2
  clear h2
  simp only [List.cons_append, List.nil_append] at st
  (try simp only [nsl, Value.cells, unB] at st)
  (try clear hc); have hc := st.facts; (try simp only [nfl, nft, Nat.reduceAdd] at hc)
  go_wp2_with ((((with_reducible refine wl_store ?_ (fun K hK => ?_)); rfl; refine owp_store rfl st ?_; apply Exists.intro; apply Exists.intro; refine ⟨?_, ?_, ?_⟩; (focus (go_simp; try rfl)); (focus (go_simp; try rfl)); (first | (with_reducible refine ⟨0, _, _, _, _, get0, rfl, rfl, ?_, ?_, ?_, ?_⟩) | (with_reducible refine ⟨1, _, _, _, _, get1, rfl, rfl, ?_, ?_, ?_, ?_⟩) | (with_reducible refine ⟨2, _, _, _, _, get2, rfl, rfl, ?_, ?_, ?_, ?_⟩) | (with_reducible refine ⟨3, _, _, _, _, get3, rfl, rfl, ?_, ?_, ?_, ?_⟩) | (with_reducible refine ⟨4, _, _, _, _, get4, rfl, rfl, ?_, ?_, ?_, ?_⟩) | (with_reducible refine ⟨5, _, _, _, _, get5, rfl, rfl, ?_, ?_, ?_, ?_⟩) | (with_reducible refine ⟨6, _, _, _, _, get6, rfl, rfl, ?_, ?_, ?_, ?_⟩)); (kernel_rfl); (simp [Value.cells]); (rfl); (clear st; intro w st))); (try simp only [nsl, Value.cells, unB] at st); (try clear hc); have hc := st.facts; (try simp only [nfl, nft, Nat.reduceAdd] at hc))
  refine (left_c st).mono ?_
  rintro en w' ⟨rfl, rfl⟩
  rw [HBL.out]
  go_wp2_with ((((with_reducible refine wl_store ?_ (fun K hK => ?_)); rfl; refine owp_store rfl st ?_; apply Exists.intro; apply Exists.intro; refine ⟨?_, ?_, ?_⟩; (focus (go_simp; try rfl)); (focus (go_simp; try rfl)); (first | (with_reducible refine ⟨0, _, _, _, _, get0, rfl, rfl, ?_, ?_, ?_, ?_⟩) | (with_reducible refine ⟨1, _, _, _, _, get1, rfl, rfl, ?_, ?_, ?_, ?_⟩) | (with_reducible refine ⟨2, _, _, _, _, get2, rfl, rfl, ?_, ?_, ?_, ?_⟩) | (with_reducible refine ⟨3, _, _, _, _, get3, rfl, rfl, ?_, ?_, ?_, ?_⟩) | (with_reducible refine ⟨4, _, _, _, _, get4, rfl, rfl, ?_, ?_, ?_, ?_⟩) | (with_reducible refine ⟨5, _, _, _, _, get5, rfl, rfl, ?_, ?_, ?_, ?_⟩) | (with_reducible refine ⟨6, _, _, _, _, get6, rfl, rfl, ?_, ?_, ?_, ?_⟩)); (kernel_rfl); (simp [Value.cells]); (rfl); (clear st; intro w st))); (try simp only [nsl, Value.cells, unB] at st); (try clear hc); have hc := st.facts; (try simp only [nfl, nft, Nat.reduceAdd] at hc))
  go_end0
  exact ⟨rfl, _, _, by simpa using st⟩
theorem By.dropL {w : World} {b off n : Nat} {xs : List UInt8} (h : By w (some ⟨b, off, none⟩) n xs) (L : Nat) : By w (some ⟨b, off + L, none⟩) (n - L) (xs.drop L) :=
  ⟨by rw [List.length_drop, h.1], fun h0 => ⟨b, off + L, rfl, fun i x hi => by
    obtain ⟨b', o', e, hc⟩ := h.2 (by omega)
    injection e with e
    injection e with e1 e2
    subst e1 e2
    rw [List.getElem?_drop] at hi
    have := hc (L + i) x hi
    rw [show off + L + i * 1 = off + (L + i) * 1 by omega]
    exact this⟩⟩
set_option maxRecDepth 100000 in
set_option maxHeartbeats 2000000 in
theorem svRead_f (a : Option Addr) (n c m k : Nat) (bs : List UInt8) (W : World) (h : By W a n (svB m k bs)) (hc : n ≤ c ∧ c ≤ maxLen) (hr : svR ((8 * m : Nat) : Int) (k : Int) = true) (hm : 1 ≤ m ∧ m ≤ 512) (hk : k ≤ 8) (hbl : bs.length = m) :
    Calls Try.prog 23 #[.slice a n c] W fun e w' => ∃ p a3 c3, e = .returned (.tuple #[.pointer (some ⟨p, 0, none⟩), .int .i64 0]) ∧ (m ≤ c3 ∧ c3 ≤ maxLen) ∧ Own (fun _ => False) (fun _ => False) W [blkI p [.slice a3 m c3, .int .i64 (k : Int)], byI a3 m bs] w' := by
  have st := Own.start (fun _ => False) (fun _ => False) W
  have HK := Lib.hid (fun (fr al : Nat → Prop) (W : World) (r b1 b2 : Nat) (st : Own fr al W [rdI r (svB m k bs), blkI b1 [.pointer none], blkI b2 [.int .i64 0]] W) => svRead1_c st hr hm.2 hk hbl)
  obtain ⟨L, hL⟩ : ∃ L, (numB (8 * m) ++ numB k).length = L := ⟨_, rfl⟩
  have hL20 : L ≤ 20 := by
    have h1 : (numB (8 * m)).length ≤ 10 := numF_len 10 _
    have h2 : (numB k).length ≤ 10 := numF_len 10 _
    rw [← hL, List.length_append]; omega
  have hn : n = L + m := by rw [h.1]; unfold svB; rw [List.length_append, hL, hbl]
  have hdr : (svB m k bs).drop L = bs := by unfold svB; rw [← hL, List.drop_left]
  obtain ⟨g0, off0, ha, -⟩ := h.at (k := 0) (by omega)
  subst ha
  have hy2 := h.dropL L
  rw [hdr, show n - L = m by omega] at hy2
  have HB2 := Lib.hid hy2
  have hc1 := hc.1
  have hcm : c ≤ 9223372036854775807 := by have := hc.2; simpa [maxLen] using this
  have HC := Lib.hid hc
  have HC2 : Hid (m ≤ c - L ∧ c - L ≤ maxLen) := Lib.hid (by omega)
  generalize svB m k bs = x0 at *
  have HB := Lib.hid h
  clear h hr hbl hL hdr hy2 hc
  subst hn
  have z1 : IntKind.i64.wrap ((((L + m : Nat)) : Int) - (m : Int)) = (L : Int) := by
    have := IntWalk.i64_in ((((L + m : Nat)) : Int) - (m : Int)) ⟨by omega, by omega⟩
    rw [this]; omega
  have z2 : IntKind.i64.wrap (L : Int) = (L : Int) := IntWalk.i64_in _ ⟨by omega, by omega⟩
  have z3 : (L : Int) ≤ ((L + m : Nat) : Int) := by omega
  have z4 : (0 : Int) ≤ (L : Int) := by omega
  have z5 : ¬ c = L := by omega
  (try simp only [nsl, Value.cells, unB] at st)
  (try clear hc); have hc := st.facts; (try simp only [nfl, nft, Nat.reduceAdd] at hc)
  go_enter Try.func23, Try.ntmps23
  go_wp2_with ((first
        | ((with_reducible refine wl_alloc ?_ (fun K hK => ?_)); rfl; refine owp_alloc (o := ⟨some 4, _, _, _, _, _⟩) rfl st ?_; apply Exists.intro; apply Exists.intro; refine ⟨?_, ?_⟩; (focus (first | (go_simp; done) | (go_simp; rfl))); (clear st; intro b4 w hb st; clear hb))
        | ((with_reducible refine wl_alloc ?_ (fun K hK => ?_)); rfl; refine owp_alloc (o := ⟨some 5, _, _, _, _, _⟩) rfl st ?_; apply Exists.intro; apply Exists.intro; refine ⟨?_, ?_⟩; (focus (first | (go_simp; done) | (go_simp; rfl))); (clear st; intro b5 w hb st; clear hb))
        | ((with_reducible refine wl_store ?_ (fun K hK => ?_)); rfl; refine owp_store rfl st ?_; apply Exists.intro; apply Exists.intro; refine ⟨?_, ?_, ?_⟩; (focus (go_simp; try rfl)); (focus (go_simp; try rfl)); (first | (with_reducible refine ⟨0, _, _, _, _, get0, rfl, rfl, ?_, ?_, ?_, ?_⟩) | (with_reducible refine ⟨1, _, _, _, _, get1, rfl, rfl, ?_, ?_, ?_, ?_⟩) | (with_reducible refine ⟨2, _, _, _, _, get2, rfl, rfl, ?_, ?_, ?_, ?_⟩) | (with_reducible refine ⟨3, _, _, _, _, get3, rfl, rfl, ?_, ?_, ?_, ?_⟩) | (with_reducible refine ⟨4, _, _, _, _, get4, rfl, rfl, ?_, ?_, ?_, ?_⟩) | (with_reducible refine ⟨5, _, _, _, _, get5, rfl, rfl, ?_, ?_, ?_, ?_⟩) | (with_reducible refine ⟨6, _, _, _, _, get6, rfl, rfl, ?_, ?_, ?_, ?_⟩)); (kernel_rfl); (simp [Value.cells]); (rfl); (clear st; intro w st))); (try simp only [nsl, Value.cells, unB] at st); (try clear hc); have hc := st.facts; (try simp only [nfl, nft, Nat.reduceAdd] at hc))
  refine (read_c st (HB.out.ext st.ext0) HC.out (by omega) 44 #[.pointer (some ⟨b4, 0, none⟩), .pointer (some ⟨b5, 0, none⟩)] (fun _ _ => by kernel_rfl)
    (fun r e M => ∃ p g, M = [blkI b4 [.pointer (some ⟨p, 0, none⟩)], blkI b5 [.int .i64 (m : Int)], blkI g ((List.replicate m (0 : UInt8)).map B), blkI p [.slice (some ⟨g, 0, none⟩) m m, .int .i64 (k : Int)]]) fun fr' al' w1 r hr st1 => ?_).mono ?_
  · obtain ⟨fr2, al2, st2, back⟩ := st1.sub [2, 0, 1] (by decide) (by simp)
    simp only [pick, List.map_cons, List.map_nil, List.cons_append, List.nil_append, List.getElem?_cons_zero, List.getElem?_cons_succ, Option.getD_some] at st2
    refine (HK.out _ _ _ _ _ _ st2).mono ?_
    rintro en w2 ⟨p, g, rfl, st3⟩
    have st4 := back _ _ (by simp) st3
    have st5 := st4.keep [2, 0, 1, 3, 4] (by decide) (by simp [putIt])
    exact .inl ⟨_, bs, _, rfl, ⟨p, g, rfl⟩, by simpa [pick, putIt] using st5⟩
  rintro en w ⟨r1, e1, M, rfl, ⟨p, g, rfl⟩, st'⟩
  clear st HK
  have st := st'.keep [1, 2, 4] (by decide) (by simp)
  clear st'
  simp only [pick, List.map_cons, List.map_nil, List.getElem?_cons_zero, List.getElem?_cons_succ, Option.getD_some] at st
  (try simp only [nsl, Value.cells, unB] at st)
  (try clear hc); have hc := st.facts; (try simp only [nfl, nft, Nat.reduceAdd] at hc)
  go_wp2_with fail
  refine Rg4.wp_region4_eq #[0, 0, 2, 6, 14, 30, 63, 127] [] [0, 1, 4] (fun _ => True) [0, 1, 2, 3, 4, 5, 6, 7] (by kernel_rfl) (by kernel_rfl) (by kernel_rfl) (by kernel_rfl) (show Rg4.PB _ by repeat (first | with_reducible exact Rg4.pb_body | with_reducible exact Rg4.pb_bodyD rfl | with_reducible refine Rg4.pb_then ?_ | with_reducible refine Rg4.pb_inBlock ?_ | with_reducible refine Rg4.pb_noGoto ?_)) (trivial) ?_
  replace st := st.drew
  change Rg4.wp4 _ _ _ _ _ _ _ _ _ (World.drew _) _ _
  generalize World.drew _ = w at st ⊢
  (try clear hc); have hc := st.facts; (try simp only [nfl, nft, Nat.reduceAdd] at hc)
  iterate 2 (refine Rg4.w4_read (Rg4.want_none rfl) rfl rfl ?_; apply Exists.intro; refine ⟨fun w' hw' hcl' => ?_, ?_⟩; focus (subst hw'; (focus (first | (go_simp; done) | (go_simp; first | rfl | (rw [if_neg] <;> first | rfl | omega) | (rw [if_pos] <;> first | rfl | omega))))); (try simp only [Rg4.nrm]))
  iterate 2 (refine Rg4.w4_any (Rg4.want_none rfl) rfl ?_; apply Exists.intro; refine ⟨fun w' => ?_, ?_⟩; (focus (first | (go_simp; done) | (go_simp; first | rfl | (rw [if_neg] <;> first | rfl | omega) | (rw [if_pos] <;> first | rfl | omega)))); (try simp only [Rg4.nrm]))
  (refine Rg4.w4_read (Rg4.want_none rfl) rfl rfl ?_; apply Exists.intro; refine ⟨fun w' hw' hcl' => ?_, ?_⟩; focus (subst hw'; (focus (first | (go_simp; done) | (go_simp; first | rfl | (rw [if_neg] <;> first | rfl | omega) | (rw [if_pos] <;> first | rfl | omega))))); (try simp only [Rg4.nrm]))
  iterate 3 (refine Rg4.w4_any (Rg4.want_none rfl) rfl ?_; apply Exists.intro; refine ⟨fun w' => ?_, ?_⟩; (focus (first | (go_simp; done) | (go_simp; first | rfl | (rw [if_neg] <;> first | rfl | omega) | (rw [if_pos] <;> first | rfl | omega)))); (try simp only [Rg4.nrm]))
  refine Rg4.w4_nil (fun w' hw' hcl' _ => ?_); subst hw'; clear hcl'
  go_wp2_with fail
  refine Rg4.wp_region4_eq #[0, 0, 2, 6, 14, 30, 63, 127] [] [0, 1, 4] (fun _ => True) [0, 1, 2, 3, 4, 5, 6, 7] (by kernel_rfl) (by kernel_rfl) (by kernel_rfl) (by kernel_rfl) (show Rg4.PB _ by repeat (first | with_reducible exact Rg4.pb_body | with_reducible exact Rg4.pb_bodyD rfl | with_reducible refine Rg4.pb_then ?_ | with_reducible refine Rg4.pb_inBlock ?_ | with_reducible refine Rg4.pb_noGoto ?_)) (trivial) ?_
  replace st := st.drew
  change Rg4.wp4 _ _ _ _ _ _ _ _ _ (World.drew _) _ _
  generalize World.drew _ = w at st ⊢
  (try clear hc); have hc := st.facts; (try simp only [nfl, nft, Nat.reduceAdd] at hc)
  iterate 2 (refine Rg4.w4_read (Rg4.want_none rfl) rfl rfl ?_; apply Exists.intro; refine ⟨fun w' hw' hcl' => ?_, ?_⟩; focus (subst hw'; (focus (first | (go_simp; done) | (go_simp; first | rfl | (rw [if_neg] <;> first | rfl | omega) | (rw [if_pos] <;> first | rfl | omega))))); (try simp only [Rg4.nrm]))
  iterate 2 (refine Rg4.w4_any (Rg4.want_none rfl) rfl ?_; apply Exists.intro; refine ⟨fun w' => ?_, ?_⟩; (focus (first | (go_simp; done) | (go_simp; first | rfl | (rw [if_neg] <;> first | rfl | omega) | (rw [if_pos] <;> first | rfl | omega)))); (try simp only [Rg4.nrm]))
  (refine Rg4.w4_read (Rg4.want_none rfl) rfl rfl ?_; apply Exists.intro; refine ⟨fun w' hw' hcl' => ?_, ?_⟩; focus (subst hw'; (focus (first | (go_simp; done) | (go_simp; first | rfl | (rw [if_neg] <;> first | rfl | omega) | (rw [if_pos] <;> first | rfl | omega))))); (try simp only [Rg4.nrm]))
  iterate 3 (refine Rg4.w4_any (Rg4.want_none rfl) rfl ?_; apply Exists.intro; refine ⟨fun w' => ?_, ?_⟩; (focus (first | (go_simp; done) | (go_simp; first | rfl | (rw [if_neg] <;> first | rfl | omega) | (rw [if_pos] <;> first | rfl | omega)))); (try simp only [Rg4.nrm]))
  refine Rg4.w4_nil (fun w' hw' hcl' _ => ?_); subst hw'; clear hcl'
  go_wp2_with fail
  obtain ⟨B0, hB0⟩ : ∃ B0, w.heap.size = B0 := ⟨_, rfl⟩
  have hB : (World.drew w).heap.size = B0 := hB0
  clear hB0
  refine Rg4.wp_region4 (Rel := Ext) #[0, 0, 0, 4, 0, 28, 62, 126, 255, 511, 1023]
    [(7, ⟨fun v w => ∃ va vc, v = .slice va m vc ∧ (m ≤ vc ∧ vc ≤ maxLen) ∧ w.ownsRow B0 5 1 (.slice va m vc) m (bs.map B) , fun _ _ _ hx ⟨va, vc, h1, h2, h3⟩ => ⟨va, vc, h1, h2, own_ext h3 hx⟩⟩)] [10] [0, 4] (fun _ => True) [0, 1, 2, 3, 4, 5, 6, 7, 8, 9, 10] (by kernel_rfl) (by kernel_rfl) (by kernel_rfl) (by kernel_rfl) Ext.refl (fun _ _ _ => Ext.trans) (show Rg4.PB _ by repeat (first | with_reducible exact Rg4.pb_body | with_reducible exact Rg4.pb_bodyD rfl | with_reducible refine Rg4.pb_then ?_ | with_reducible refine Rg4.pb_inBlock ?_ | with_reducible refine Rg4.pb_noGoto ?_)) (trivial) ?_
  replace st := st.drew
  change Rg4.wp4 _ _ _ _ _ _ _ _ _ (World.drew _) _ _
  generalize World.drew _ = w at hB st ⊢
  (try clear hc); have hc := st.facts; (try simp only [nfl, nft, Nat.reduceAdd] at hc)
  (refine Rg4.w4_read (Rg4.want_none rfl) rfl rfl ?_; apply Exists.intro; refine ⟨fun w' hw' hcl' => ?_, ?_⟩; focus (have st' := st.ext hw'; have hc' := st'.facts; (try simp only [nfl, nft, Nat.reduceAdd] at hc'); (focus (first | (go_simp; done) | (go_simp; first | rfl | (rw [if_neg] <;> first | rfl | omega) | (rw [if_pos] <;> first | rfl | omega))))); (try simp only [Rg4.nrm]))
  iterate 3 (refine Rg4.w4_any (Rg4.want_none rfl) rfl ?_; apply Exists.intro; refine ⟨fun w' => ?_, ?_⟩; (focus (first | (go_simp; done) | (go_simp; first | rfl | (rw [if_neg] <;> first | rfl | omega) | (rw [if_pos] <;> first | rfl | omega)))); (try simp only [Rg4.nrm]))
  (refine Rg4.w4_read (Rg4.want_none rfl) rfl rfl ?_; apply Exists.intro; refine ⟨fun w' hw' hcl' => ?_, ?_⟩; focus (have st' := st.ext hw'; have hc' := st'.facts; (try simp only [nfl, nft, Nat.reduceAdd] at hc'); (focus (first | (go_simp; done) | (go_simp; first | rfl | (rw [if_neg] <;> first | rfl | omega) | (rw [if_pos] <;> first | rfl | omega))))); (try simp only [Rg4.nrm]))
  iterate 2 (refine Rg4.w4_any (Rg4.want_none rfl) rfl ?_; apply Exists.intro; refine ⟨fun w' => ?_, ?_⟩; (focus (first | (go_simp; done) | (go_simp; first | rfl | (rw [if_neg] <;> first | rfl | omega) | (rw [if_pos] <;> first | rfl | omega)))); (try simp only [Rg4.nrm]))
  refine Rg4.w4_some (Rg4.want_none rfl) rfl (fun w' hw' hcl' _ => ?_) ?_
  · refine Rg.relAt_call (by go_simp; exact ⟨rfl, rfl⟩) ?_
    have st' := st.ext hw'
    refine (clone_any _ m (c - L) bs _ (HB2.out.ext st'.ext0) HC2.out (by omega)).mono ?_
    rintro en w'' ⟨v, rfl, hrow, hx⟩
    have hrow' := hrow
    obtain ⟨va, m2, vc, rfl, h1, h2, h3⟩ := own_by hrow'
    obtain rfl : m2 = m := by rw [h3.1]; exact HB2.out.1.symm
    exact ⟨_, rfl, hx, trivial, va, vc, rfl, ⟨h1, h2⟩, ownsRow_base hrow (by rw [← hB]; exact hw'.le)⟩
  rintro v ⟨_, _, _, a9, c9, rfl, hc9, _⟩
  (try simp only [Rg4.nrm])
  iterate 2 (refine Rg4.w4_any (Rg4.want_none rfl) rfl ?_; apply Exists.intro; refine ⟨fun w' => ?_, ?_⟩; (focus (first | (go_simp; done) | (go_simp; first | rfl | (rw [if_neg] <;> first | rfl | omega) | (rw [if_pos] <;> first | rfl | omega)))); (try simp only [Rg4.nrm]))
  refine Rg4.w4_bar (Rg4.want_none rfl) rfl (fun w' hw' hcl hF K hK => ?_)
  obtain ⟨va, vc, hv, hvc, hrow⟩ := (hF 7).2 rfl
  cases hv
  rw [← hB] at hrow
  replace st := st.newRow hw' hrow
  clear hF hrow hcl hw' hB hc9
  (try simp only [nsl, Value.cells, unB] at st)
  (try clear hc); have hc := st.facts; (try simp only [nfl, nft, Nat.reduceAdd] at hc)
  (refine owp_store rfl st ?_; apply Exists.intro; apply Exists.intro; refine ⟨?_, ?_, ?_⟩; (focus (go_simp; try rfl)); (focus (go_simp; try rfl)); (first | (with_reducible refine ⟨0, _, _, _, _, get0, rfl, rfl, ?_, ?_, ?_, ?_⟩) | (with_reducible refine ⟨1, _, _, _, _, get1, rfl, rfl, ?_, ?_, ?_, ?_⟩) | (with_reducible refine ⟨2, _, _, _, _, get2, rfl, rfl, ?_, ?_, ?_, ?_⟩) | (with_reducible refine ⟨3, _, _, _, _, get3, rfl, rfl, ?_, ?_, ?_, ?_⟩) | (with_reducible refine ⟨4, _, _, _, _, get4, rfl, rfl, ?_, ?_, ?_, ?_⟩) | (with_reducible refine ⟨5, _, _, _, _, get5, rfl, rfl, ?_, ?_, ?_, ?_⟩) | (with_reducible refine ⟨6, _, _, _, _, get6, rfl, rfl, ?_, ?_, ?_, ?_⟩)); (kernel_rfl); (simp [Value.cells]); (rfl); (clear st; intro w st); (try simp only [nsl, Value.cells, unB] at st); (try clear hc); have hc := st.facts; (try simp only [nfl, nft, Nat.reduceAdd] at hc))
  refine hK _ _ ⟨trivial, ?_⟩
  clear hK
  (try simp only [Rg4.nrm])
  refine Rg4.w4_nil (fun w' hw' hcl' _ => ?_); replace st := st.ext hw'; clear hw' hcl'; (try clear hc); have hc := st.facts; (try simp only [nfl, nft, Nat.reduceAdd] at hc)
  go_wp2_with ((first
        | ((with_reducible refine wl_alloc ?_ (fun K hK => ?_)); rfl; refine owp_alloc (o := ⟨some 4, _, _, _, _, _⟩) rfl st ?_; apply Exists.intro; apply Exists.intro; refine ⟨?_, ?_⟩; (focus (first | (go_simp; done) | (go_simp; rfl))); (clear st; intro b4 w hb st; clear hb))
        | ((with_reducible refine wl_alloc ?_ (fun K hK => ?_)); rfl; refine owp_alloc (o := ⟨some 5, _, _, _, _, _⟩) rfl st ?_; apply Exists.intro; apply Exists.intro; refine ⟨?_, ?_⟩; (focus (first | (go_simp; done) | (go_simp; rfl))); (clear st; intro b5 w hb st; clear hb))
        | ((with_reducible refine wl_store ?_ (fun K hK => ?_)); rfl; refine owp_store rfl st ?_; apply Exists.intro; apply Exists.intro; refine ⟨?_, ?_, ?_⟩; (focus (go_simp; try rfl)); (focus (go_simp; try rfl)); (first | (with_reducible refine ⟨0, _, _, _, _, get0, rfl, rfl, ?_, ?_, ?_, ?_⟩) | (with_reducible refine ⟨1, _, _, _, _, get1, rfl, rfl, ?_, ?_, ?_, ?_⟩) | (with_reducible refine ⟨2, _, _, _, _, get2, rfl, rfl, ?_, ?_, ?_, ?_⟩) | (with_reducible refine ⟨3, _, _, _, _, get3, rfl, rfl, ?_, ?_, ?_, ?_⟩) | (with_reducible refine ⟨4, _, _, _, _, get4, rfl, rfl, ?_, ?_, ?_, ?_⟩) | (with_reducible refine ⟨5, _, _, _, _, get5, rfl, rfl, ?_, ?_, ?_, ?_⟩) | (with_reducible refine ⟨6, _, _, _, _, get6, rfl, rfl, ?_, ?_, ?_, ?_⟩)); (kernel_rfl); (simp [Value.cells]); (rfl); (clear st; intro w st))); (try simp only [nsl, Value.cells, unB] at st); (try clear hc); have hc := st.facts; (try simp only [nfl, nft, Nat.reduceAdd] at hc))
  go_ret2
  have st9 := (st.freezeRow (i := 3) get3).keep [2, 3] (by decide) (by simp)
  first
    | exact ⟨_, _, _, rfl, hvc, by simpa [pick] using st9⟩
    | exact ⟨_, rfl, _, _, hvc, by simpa [pick] using st9⟩
end Go.Proofs.Ytinfkenbjoddlaa

namespace Go.Proofs.Ytinfkenbjoddlaa
set_option linter.unusedSimpArgs false
set_option linter.unusedVariables false
open Go Go.RowKit
set_option maxRecDepth 100000 in
set_option maxHeartbeats 1000000 in
theorem svSet_no (W : World) : Calls Try.prog 10 #[.pointer none] W fun e w' => e = .returned (.int .i64 0) ∧ Ext W w' := by
  go_enter Try.func10, Try.ntmps10
  go_wp2_with fail
  go_ret
  exact ⟨rfl, Ext.refl _⟩
set_option maxRecDepth 100000 in
set_option maxHeartbeats 1000000 in
theorem svAdd_no (a : Option Addr) (n c : Nat) (W : World) : Calls Try.prog 9 #[.pointer none, .slice a n c] W fun e w' => e = .returned (.tuple #[]) ∧ Ext W w' := by
  go_enter Try.func9, Try.ntmps9
  go_wp2_with fail
  (try simp only [Exit.inBlock, Exit.then])
  refine bodyPost_ret (results_none rfl _ _ _) rfl ?_
  exact ⟨rfl, Ext.refl _⟩
set_option maxRecDepth 100000 in
set_option maxHeartbeats 1000000 in
theorem svMay_no (x : CredT) (W : World) : Calls Try.prog 17 #[.pointer none, cV x] W fun e w' => e = .returned (.bool false) ∧ Ext W w' := by
  have st := Own.startOld W
  unfold cV S
  (try simp only [nsl, Value.cells, unB] at st)
  (try clear hc); have hc := st.facts; (try simp only [nfl, nft, Nat.reduceAdd] at hc)
  go_enter Try.func17, Try.ntmps17
  go_wp2_with ((first
        | ((with_reducible refine wl_box ?_ (fun K hK => ?_)); rfl; refine owp_box (o := ⟨some 2, _, _, _, _, _⟩) rfl st ?_; apply Exists.intro; refine ⟨?_, ?_⟩; (focus (go_simp; try rfl)); (clear st; intro b2 w hb st; clear hb))
        | ((with_reducible refine wl_box ?_ (fun K hK => ?_)); rfl; refine owp_box (o := ⟨some 3, _, _, _, _, _⟩) rfl st ?_; apply Exists.intro; refine ⟨?_, ?_⟩; (focus (go_simp; try rfl)); (clear st; intro b3 w hb st; clear hb))); (try simp only [nsl, Value.cells, unB] at st); (try clear hc); have hc := st.facts; (try simp only [nfl, nft, Nat.reduceAdd] at hc))
  go_ret
  exact ⟨rfl, st.ext0⟩
set_option maxRecDepth 100000 in
set_option maxHeartbeats 1000000 in
theorem svPick1_no {fr al : Nat → Prop} {W : World} {b2 : Nat} (x : CredT) (st : Own fr al W [blkI b2 [.pointer none]] W) :
    Calls Try.prog 33 #[cV x, .pointer (some ⟨b2, 0, none⟩)] W fun e w' => e = .returned (.bool true) ∧ Own fr al W [blkI b2 [.pointer none]] w' := by
  have HM := Lib.hid (svMay_no x)
  have HXV : Hid (cV x = .agg #[.int .i64 x.k, .string ⟨x.h.1.toArray⟩, .string ⟨x.h.2.toArray⟩, .string ⟨x.w.toArray⟩, .string ⟨x.b.1.toArray⟩, .string ⟨x.b.2.toArray⟩, .string ⟨x.c.1.toArray⟩, .string ⟨x.c.2.toArray⟩, .string ⟨x.e.toArray⟩]) := Lib.hid rfl
  rw [HXV.out] at HM ⊢
  (try simp only [nsl, Value.cells, unB] at st)
  (try clear hc); have hc := st.facts; (try simp only [nfl, nft, Nat.reduceAdd] at hc)
  go_enter Try.func33, Try.ntmps33
  go_wp2_with ((((with_reducible refine wl_box ?_ (fun K hK => ?_)); rfl; refine owp_box (o := ⟨some 2, _, _, _, _, _⟩) rfl st ?_; apply Exists.intro; refine ⟨?_, ?_⟩; (focus (go_simp; try rfl)); (clear st; intro b2 w hb st; clear hb))); (try simp only [nsl, Value.cells, unB] at st); (try clear hc); have hc := st.facts; (try simp only [nfl, nft, Nat.reduceAdd] at hc))
  refine (HM.out _).mono ?_
  rintro en w ⟨rfl, hx⟩
  replace st := st.ext hx
  clear hx
  (try clear hc); have hc := st.facts; (try simp only [nfl, nft, Nat.reduceAdd] at hc)
  go_wp2_with ((((with_reducible refine wl_box ?_ (fun K hK => ?_)); rfl; refine owp_box (o := ⟨some 2, _, _, _, _, _⟩) rfl st ?_; apply Exists.intro; refine ⟨?_, ?_⟩; (focus (go_simp; try rfl)); (clear st; intro b2 w hb st; clear hb))); (try simp only [nsl, Value.cells, unB] at st); (try clear hc); have hc := st.facts; (try simp only [nfl, nft, Nat.reduceAdd] at hc))
  go_ret
  have st' := st.keep [0] (by decide) (by simp)
  exact ⟨by simp, by simpa [pick] using st'⟩
set_option maxRecDepth 100000 in
set_option maxHeartbeats 1000000 in
theorem svPick_no (a : Option Addr) (n c : Nat) (l : List CredT) (W : World) (h : Fl W a n l) (hn : n ≤ 2000000) (hs : ∀ x ∈ l, CredL 100000 x) :
    Calls Try.prog 12 #[.pointer none, .slice a n c] W fun e w' => ∃ va vc, e = .returned (.slice va 0 vc) ∧ Ext W w' := by
  have HS := Lib.hid (fun W h => credSet_any a n c l W h hn hs)
  have HLN : Hid ((credSet l).length ≤ 2000000) := Lib.hid (by have := credSet_len l; have := h.1; omega)
  have H := Lib.hid h
  have st := Own.startOld W
  generalize credSet l = cs at *
  obtain ⟨qn, hqn⟩ : ∃ q, cs.length = q := ⟨_, rfl⟩
  rw [hqn] at HS HLN
  clear h hs hqn
  (try simp only [nsl, Value.cells, unB] at st)
  (try clear hc); have hc := st.facts; (try simp only [nfl, nft, Nat.reduceAdd] at hc)
  go_enter Try.func12, Try.ntmps12
  go_wp2_with ((((with_reducible refine wl_box ?_ (fun K hK => ?_)); rfl; refine owp_box (o := ⟨some 2, _, _, _, _, _⟩) rfl st ?_; apply Exists.intro; refine ⟨?_, ?_⟩; (focus (go_simp; try rfl)); (clear st; intro b2 w hb st; clear hb))); (try simp only [nsl, Value.cells, unB] at st); (try clear hc); have hc := st.facts; (try simp only [nfl, nft, Nat.reduceAdd] at hc))
  refine (HS.out _ (H.out.ext st.ext0)).mono ?_
  rintro en w ⟨va, vc, rfl, hnew⟩
  replace st := st.fresh hnew
  clear hnew
  (try simp only [nsl, Value.cells, unB] at st)
  (try clear hc); have hc := st.facts; (try simp only [nfl, nft, Nat.reduceAdd] at hc)
  go_wp2_with ((((with_reducible refine wl_box ?_ (fun K hK => ?_)); rfl; refine owp_box (o := ⟨some 2, _, _, _, _, _⟩) rfl st ?_; apply Exists.intro; refine ⟨?_, ?_⟩; (focus (go_simp; try rfl)); (clear st; intro b2 w hb st; clear hb))); (try simp only [nsl, Value.cells, unB] at st); (try clear hc); have hc := st.facts; (try simp only [nfl, nft, Nat.reduceAdd] at hc))
  obtain ⟨fr', al', st', back⟩ := st.sub [2, 1] (by decide) (by simp)
  (try simp only [nsl, Value.cells, unB] at st')
  refine (deleteFuncCredB_c st' HLN.out 33 #[.pointer (some ⟨b2, 0, none⟩)] (fun _ => true) (fun _ _ => by kernel_rfl) (fun x hx fr al w s => svPick1_no x s)).mono ?_
  clear st'
  rintro en w ⟨m2, rfl, st'⟩
  replace st := back _ _ (by simp) st'
  clear back st'
  (try simp only [nsl, Value.cells, unB] at st)
  (try clear hc); have hc := st.facts; (try simp only [nfl, nft, Nat.reduceAdd] at hc)
  have hm0 := credLen (st.row (i := 2) get2)
  simp only [Bool.not_true] at hm0
  have hf0 : cs.filter (fun _ => false) = [] := by simp
  have hm1 : m2 = 0 := by rw [hm0, hf0]; rfl
  subst hm1
  clear hm0 hf0
  go_wp2_with ((((with_reducible refine wl_box ?_ (fun K hK => ?_)); rfl; refine owp_box (o := ⟨some 2, _, _, _, _, _⟩) rfl st ?_; apply Exists.intro; refine ⟨?_, ?_⟩; (focus (go_simp; try rfl)); (clear st; intro b2 w hb st; clear hb))); (try simp only [nsl, Value.cells, unB] at st); (try clear hc); have hc := st.facts; (try simp only [nfl, nft, Nat.reduceAdd] at hc))
  go_ret
  exact ⟨_, _, rfl, st.ext0⟩
end Go.Proofs.Ytinfkenbjoddlaa
