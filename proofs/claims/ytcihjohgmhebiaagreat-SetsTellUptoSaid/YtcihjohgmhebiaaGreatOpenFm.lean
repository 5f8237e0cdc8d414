/- Sets: the reference's Least. -/
import Derived.Test.YtcihjohgmhebiaaGreatFresh
import Derived.Test.YtcihjohgmhebiaaGreatStA
import Derived.Test.YtcihjohgmhebiaaGreatFmB
import Derived.ProofKit
import Derived.OpenShut
import Derived.Test.YtcihjohgmhebiaaGreatRows
import Derived.Deep.Strs
import Derived.Deep.Slices
import Derived.ChangeSame
import Derived.ChangeArms
namespace Go.Proofs.YtcihjohgmhebiaaGreat
set_option linter.unusedSimpArgs false
set_option linter.unusedVariables false
open Go Go.RowKit
theorem fo_len {g : List Role → Bool} {A : List Role} {M : List (List Role)} {k : Nat} {Z Y : List (List Role)} (hM : MinS g A M) (h : LvO A M k (Z, Y)) (j : Nat) : (∀ o ∈ ((Y.take j).foldl (lvS g A) (Z, [])).1, o ∈ M) ∧ ((Y.take j).foldl (lvS g A) (Z, [])).1.length ≤ M.length := by
  have h0 : LvI A M k (Z, []) [] := ⟨h.sub, h.nd, h.low, fun z _ hd => by simp at hd, fun s hs => by simp at hs, fun z _ _ hd => by simp at hd⟩
  have h1 := lv_fold hM (Y.take j) _ _ h0 (fun s hs => h.ris s (List.mem_of_mem_take hs))
  exact ⟨h1.sub, List.Nodup.length_le_of_subset h1.nd h1.sub⟩
def covN (l : List RsT) (s : List Role) (i : Nat) : Bool := ((l.map (·.xs)).take i).any fun o => wiL o s
theorem covN_succ {l : List RsT} {z : RsT} {i : Nat} (h : l[i]? = some z) (s : List Role) : covN l s (i + 1) = (covN l s i || wiL z.xs s) := by
  unfold covN
  rw [List.take_add_one, List.getElem?_map, h]
  simp
theorem covN_all {l : List RsT} {s : List Role} {n : Nat} (h : n = l.length) : covN l s n = (l.map (·.xs)).any fun o => wiL o s := by
  unfold covN
  rw [List.take_of_length_le (by simp; omega)]
theorem exR_snoc (A s : List Role) (r : Role) : exR (A ++ [r]) s = exR A s ++ if upR s r = true then [s ++ [r]] else [] := by
  unfold exR
  rw [List.filter_append, List.map_append]
  congr 1
  by_cases h : upR s r = true
  · rw [if_pos h]; simp [h]
  · rw [if_neg h]; simp [h]
theorem exR_yes {A s : List Role} {r : Role} (h : upR s r = true) : exR (A ++ [r]) s = exR A s ++ [s ++ [r]] := by rw [exR_snoc, if_pos h]
theorem exR_no {A s : List Role} {r : Role} (h : upR s r = false) : exR (A ++ [r]) s = exR A s := by rw [exR_snoc, if_neg (by rw [h]; decide), List.append_nil]
theorem exR_none {A s : List Role} : exR (A.take 0) s = [] := rfl
theorem upR_last {s : List Role} {x r : Role} {k : Nat} (hk : s.length = k + 1) (h : s[k]? = some x) : upR s r = roleLt x r := by
  unfold upR
  rw [List.getLast?_eq_getElem?, hk, Nat.add_sub_cancel, h]
def LeastR (W : World) (ll : List (List Role)) (e : Ending) (w' : World) : Prop := ∃ va n vc, ∃ ys : List RsT, e = .returned (.slice va n vc) ∧ (n ≤ vc ∧ vc ≤ maxLen) ∧ ys.map (·.xs) = ll ∧ Own (fun _ => False) (fun _ => False) W [flI va n ys, rssI ys] w'
theorem Own.rowC4 {α : Type} [Flt α] {fr al : Nat → Prop} {w0 w : World} {L : List It} (st : Own fr al w0 L w) {i n c : Nat} {a : Option Addr} {E : TypeId} {xs : List α} (hi : L[i]? = some (rowI E (Flt.k α) (.slice a n c) n (cellsL xs))) : Fl w a n xs := (rowFl' st hi).2
theorem pw8 {k n : Nat} (h : n ≤ 8 ^ k) (hk : k ≤ 9) : n ≤ 134217728 := Nat.le_trans h (Nat.le_trans (Nat.pow_le_pow_right (by decide) hk) (by decide))
theorem Fl.roleAt9 {w : World} {b off n : Nat} {xs : List Role} (h : Fl w (some ⟨b, off, none⟩) n xs) {j : Nat} {x : Role} (hj : xs[j]? = some x) : w.cell? ⟨b, off + j * 2, none⟩ = some (S x.1) ∧ w.cell? ⟨b, off + j * 2 + 1, none⟩ = some (S x.2) := by
  obtain ⟨b', off', e, hc⟩ := Fl.role h (by have := h.1; have := (List.getElem?_eq_some_iff.1 hj).1; omega)
  cases e
  exact hc j x hj
set_option maxRecDepth 100000 in
set_option maxHeartbeats 8000000 in
theorem refLeast_any (f : Fm) (W : World) (hf : FmOk W f) (hs : f.strip.nodes ≤ 1000000) (hl : FoL 100000 f.strip) (hr : foR f.strip = true) (h8 : (roleSet f.strip.atoms).length ≤ 8) :
    Calls Tryz.prog 16 #[fmV f] W fun e w' => LeastR W (lsS f.strip) e w' := by
  have HA := Lib.hid (fun W' (hx : Ext W W') => refAtoms_f f W' (hf.ext hx) hs hl)
  have HT := Lib.hid (fun a n c l W' (hx : Ext W W') (h : Fl W' a n l) (hn : n ≤ 2000000) => (show (f.strip.holds fun r => decide (r ∈ l)) = suF f.strip l by unfold suF; rw [hr]; rfl) ▸ refTrue11_any f a n c l hn W' (hf.ext hx) h)
  have HMN := Lib.hid (lsS_min hr)
  have HZ := Lib.hid (fun out m => @lv_sorted f.strip out m)
  have HM8 : Hid ((lsS f.strip).length ≤ 128) := Lib.hid (by rw [lsS_len]; exact mskF_le _ h8)
  have HL8 : Hid (∀ z ∈ lsS f.strip, z.length ≤ 8) := Lib.hid (fun z hz => Nat.le_trans (lsS_len2 hz) h8)
  have HW := Lib.hid (fun (x y : RsT) W' (h1 : Fl W' x.a x.n x.xs) (h2 : Fl W' y.a y.n y.xs) (hx : x.xs.length ≤ 8) (hy : y.xs.length ≤ 8) => refWithin_any x.a x.n x.c x.xs y.a y.n y.c y.xs W' h1 h2 (by have := h1.1; omega) (by have := h2.1; omega))
  generalize suF f.strip = g at *
  generalize lsS f.strip = M at *
  generalize roleSet f.strip.atoms = A at *
  obtain ⟨m, hm⟩ : ∃ m, A.length = m := ⟨_, rfl⟩
  have HAL := Lib.hid hm
  rw [hm] at HA h8
  clear hm hf hs hl hr
  obtain ⟨op, k, ⟨fo, fd⟩, fa, fn, fc, kids⟩ := f
  unfold fmV S at HA HT ⊢
  simp only at HA HT ⊢
  have st := Own.start (fun _ => False) (fun _ => False) W
  (try simp only [nsl, Value.cells, unB] at st)
  (try clear hc); have hc := st.facts; (try simp only [nfl, nft, Nat.reduceAdd] at hc)
  go_enter Tryz.func16, Tryz.ntmps16
  go_wp2_with ((first
        | ((with_reducible refine wl_box ?_ (fun K hK => ?_)); rfl; refine owp_box (o := ⟨some 1, _, _, _, _, _⟩) rfl st ?_; apply Exists.intro; refine ⟨?_, ?_⟩; (focus (go_simp; try rfl)); (clear st; intro b1 w hb st; clear hb))
        | ((with_reducible refine wl_buildSlice ?_ (fun K hK => ?_)); rfl; refine owp_buildSlice (o := ⟨some 16, _, _, _, _, _⟩) rfl st ?_; apply Exists.intro; apply Exists.intro; apply Exists.intro; apply Exists.intro; refine ⟨?_, ?_⟩; (focus (go_simp; (first | done | exact ⟨⟨rfl, rfl⟩, rfl⟩ | rfl))); (clear st; intro b16 w hb st; clear hb))
        | ((with_reducible refine wl_buildSlice ?_ (fun K hK => ?_)); rfl; refine owp_buildSlice (o := ⟨some 45, _, _, _, _, _⟩) rfl st ?_; apply Exists.intro; apply Exists.intro; apply Exists.intro; apply Exists.intro; refine ⟨?_, ?_⟩; (focus (go_simp; (first | done | exact ⟨⟨rfl, rfl⟩, rfl⟩ | rfl))); (clear st; intro b45 w hb st; clear hb))
        | ((with_reducible refine wl_alloc ?_ (fun K hK => ?_)); rfl; refine owp_alloc (o := ⟨some 13, _, _, _, _, _⟩) rfl st ?_; apply Exists.intro; apply Exists.intro; refine ⟨?_, ?_⟩; (focus (first | (go_simp; done) | (go_simp; rfl))); (clear st; intro b13 w hb st; clear hb))
        | ((with_reducible refine wl_store ?_ (fun K hK => ?_)); rfl; refine owp_store rfl st ?_; apply Exists.intro; apply Exists.intro; refine ⟨?_, ?_, ?_⟩; (focus (go_simp; try rfl)); (focus (go_simp; try rfl)); (first | (with_reducible refine ⟨0, _, _, _, _, get0, rfl, rfl, ?_, ?_, ?_, ?_⟩) | (with_reducible refine ⟨1, _, _, _, _, get1, rfl, rfl, ?_, ?_, ?_, ?_⟩) | (with_reducible refine ⟨2, _, _, _, _, get2, rfl, rfl, ?_, ?_, ?_, ?_⟩) | (with_reducible refine ⟨3, _, _, _, _, get3, rfl, rfl, ?_, ?_, ?_, ?_⟩) | (with_reducible refine ⟨4, _, _, _, _, get4, rfl, rfl, ?_, ?_, ?_, ?_⟩) | (with_reducible refine ⟨5, _, _, _, _, get5, rfl, rfl, ?_, ?_, ?_, ?_⟩) | (with_reducible refine ⟨6, _, _, _, _, get6, rfl, rfl, ?_, ?_, ?_, ?_⟩) | (with_reducible refine ⟨7, _, _, _, _, get7, rfl, rfl, ?_, ?_, ?_, ?_⟩) | (with_reducible refine ⟨8, _, _, _, _, get8, rfl, rfl, ?_, ?_, ?_, ?_⟩)); (kernel_rfl); (simp [Value.cells]); (rfl); (clear st; intro w st))
        | ((with_reducible refine wl_buildSlice ?_ (fun K hK => ?_)); rfl; refine owp_buildSlice (o := ⟨some 67, _, _, _, _, _⟩) rfl st ?_; apply Exists.intro; apply Exists.intro; apply Exists.intro; apply Exists.intro; refine ⟨?_, ?_⟩; (focus (go_simp; (first | done | exact ⟨⟨rfl, rfl⟩, rfl⟩ | rfl))); (clear st; intro b67 w hb st; clear hb))
        | ((with_reducible refine wl_buildSlice ?_ (fun K hK => ?_)); rfl; refine owp_buildSlice (o := ⟨some 71, _, _, _, _, _⟩) rfl st ?_; apply Exists.intro; apply Exists.intro; apply Exists.intro; apply Exists.intro; refine ⟨?_, ?_⟩; (focus (go_simp; (first | done | exact ⟨⟨rfl, rfl⟩, rfl⟩ | rfl))); (clear st; intro b71 w hb st; clear hb))
        | ((with_reducible refine wl_buildSlice ?_ (fun K hK => ?_)); rfl; refine owp_buildSlice (o := ⟨some 73, _, _, _, _, _⟩) rfl st ?_; apply Exists.intro; apply Exists.intro; apply Exists.intro; apply Exists.intro; refine ⟨?_, ?_⟩; (focus (go_simp; (first | done | exact ⟨⟨rfl, rfl⟩, rfl⟩ | rfl))); (clear st; intro b73 w hb st; clear hb))); (try simp only [nsl, Value.cells, unB] at st); (try clear hc); have hc := st.facts; (try simp only [nfl, nft, Nat.reduceAdd] at hc))
  refine (HA.out _ st.ext0).mono ?_
  rintro en w ⟨ra, rc, rfl, h2⟩
  replace st := st.join h2
  clear h2
  simp only [List.cons_append, List.nil_append] at st
  replace st := st.rowToFl (α := Role) (i := 1) get1
  simp only [List.set] at st
  (try simp only [nsl, Value.cells, unB] at st)
  (try clear hc); have hc := st.facts; (try simp only [nfl, nft, Nat.reduceAdd] at hc)
  go_wp2_with ((first
        | ((with_reducible refine wl_box ?_ (fun K hK => ?_)); rfl; refine owp_box (o := ⟨some 1, _, _, _, _, _⟩) rfl st ?_; apply Exists.intro; refine ⟨?_, ?_⟩; (focus (go_simp; try rfl)); (clear st; intro b1 w hb st; clear hb))
        | ((with_reducible refine wl_buildSlice ?_ (fun K hK => ?_)); rfl; refine owp_buildSlice (o := ⟨some 16, _, _, _, _, _⟩) rfl st ?_; apply Exists.intro; apply Exists.intro; apply Exists.intro; apply Exists.intro; refine ⟨?_, ?_⟩; (focus (go_simp; (first | done | exact ⟨⟨rfl, rfl⟩, rfl⟩ | rfl))); (clear st; intro b16 w hb st; clear hb))
        | ((with_reducible refine wl_buildSlice ?_ (fun K hK => ?_)); rfl; refine owp_buildSlice (o := ⟨some 45, _, _, _, _, _⟩) rfl st ?_; apply Exists.intro; apply Exists.intro; apply Exists.intro; apply Exists.intro; refine ⟨?_, ?_⟩; (focus (go_simp; (first | done | exact ⟨⟨rfl, rfl⟩, rfl⟩ | rfl))); (clear st; intro b45 w hb st; clear hb))
        | ((with_reducible refine wl_alloc ?_ (fun K hK => ?_)); rfl; refine owp_alloc (o := ⟨some 13, _, _, _, _, _⟩) rfl st ?_; apply Exists.intro; apply Exists.intro; refine ⟨?_, ?_⟩; (focus (first | (go_simp; done) | (go_simp; rfl))); (clear st; intro b13 w hb st; clear hb))
        | ((with_reducible refine wl_store ?_ (fun K hK => ?_)); rfl; refine owp_store rfl st ?_; apply Exists.intro; apply Exists.intro; refine ⟨?_, ?_, ?_⟩; (focus (go_simp; try rfl)); (focus (go_simp; try rfl)); (first | (with_reducible refine ⟨0, _, _, _, _, get0, rfl, rfl, ?_, ?_, ?_, ?_⟩) | (with_reducible refine ⟨1, _, _, _, _, get1, rfl, rfl, ?_, ?_, ?_, ?_⟩) | (with_reducible refine ⟨2, _, _, _, _, get2, rfl, rfl, ?_, ?_, ?_, ?_⟩) | (with_reducible refine ⟨3, _, _, _, _, get3, rfl, rfl, ?_, ?_, ?_, ?_⟩) | (with_reducible refine ⟨4, _, _, _, _, get4, rfl, rfl, ?_, ?_, ?_, ?_⟩) | (with_reducible refine ⟨5, _, _, _, _, get5, rfl, rfl, ?_, ?_, ?_, ?_⟩) | (with_reducible refine ⟨6, _, _, _, _, get6, rfl, rfl, ?_, ?_, ?_, ?_⟩) | (with_reducible refine ⟨7, _, _, _, _, get7, rfl, rfl, ?_, ?_, ?_, ?_⟩) | (with_reducible refine ⟨8, _, _, _, _, get8, rfl, rfl, ?_, ?_, ?_, ?_⟩)); (kernel_rfl); (simp [Value.cells]); (rfl); (clear st; intro w st))
        | ((with_reducible refine wl_buildSlice ?_ (fun K hK => ?_)); rfl; refine owp_buildSlice (o := ⟨some 67, _, _, _, _, _⟩) rfl st ?_; apply Exists.intro; apply Exists.intro; apply Exists.intro; apply Exists.intro; refine ⟨?_, ?_⟩; (focus (go_simp; (first | done | exact ⟨⟨rfl, rfl⟩, rfl⟩ | rfl))); (clear st; intro b67 w hb st; clear hb))
        | ((with_reducible refine wl_buildSlice ?_ (fun K hK => ?_)); rfl; refine owp_buildSlice (o := ⟨some 71, _, _, _, _, _⟩) rfl st ?_; apply Exists.intro; apply Exists.intro; apply Exists.intro; apply Exists.intro; refine ⟨?_, ?_⟩; (focus (go_simp; (first | done | exact ⟨⟨rfl, rfl⟩, rfl⟩ | rfl))); (clear st; intro b71 w hb st; clear hb))
        | ((with_reducible refine wl_buildSlice ?_ (fun K hK => ?_)); rfl; refine owp_buildSlice (o := ⟨some 73, _, _, _, _, _⟩) rfl st ?_; apply Exists.intro; apply Exists.intro; apply Exists.intro; apply Exists.intro; refine ⟨?_, ?_⟩; (focus (go_simp; (first | done | exact ⟨⟨rfl, rfl⟩, rfl⟩ | rfl))); (clear st; intro b73 w hb st; clear hb))); (try simp only [nsl, Value.cells, unB] at st); (try clear hc); have hc := st.facts; (try simp only [nfl, nft, Nat.reduceAdd] at hc))
  replace st := st.blkToFl (i := 2) (n := 1) [(⟨none, 0, 0, []⟩ : RsT)] get2 rfl rfl
  simp only [List.set] at st
  replace st := st.bare (I := rssI [⟨none, 0, 0, []⟩]) (fun x hx => by rw [List.mem_singleton.1 hx]; exact ⟨⟨Nat.le_refl _, by simp [maxLen]⟩, Fl.nil _ _, fun h => absurd h (Nat.lt_irrefl _)⟩)
  replace st := st.row_nil 27 1
  simp only [List.cons_append, List.nil_append] at st
  go_loopg [4, 5] (m + 2) (fun q lv ov wr => ∃ (k' ln lc n : Nat) (la : Option Addr) (ys zs ps : List RsT), q = m + 2 - k' ∧ k' ≤ m + 1 ∧ lv = .slice la ln lc ∧ Hid (ln ≤ 8 ^ k') ∧ Hid (LvO A M k' (zs.map (·.xs), ys.map (·.xs))) ∧ Hid ((∀ x ∈ ys, x ∈ ps) ∧ ∀ x ∈ zs, x ∈ ps) ∧ Own (fun _ => False) (fun _ => False) W [blkI b1 [.int .i64 op, .int .i64 k, .string ⟨fo.toArray⟩, .string ⟨fd.toArray⟩, .slice fa fn fc], flI ra m A, flI la ln ys, rssI ps, rowI 27 1 ov n (cellsL zs)] wr)
  case atStart => exact ⟨0, 1, 1, 0, _, _, [], _, by omega, by omega, rfl, Lib.hid (by simp), Lib.hid (lvO_start (g := g)), Lib.hid ⟨fun _ h => h, by simp⟩, by simpa [cellsL] using st⟩
  case round =>
    obtain ⟨k', ln, lc, n, la, ys, zs, ps, rfl, hk', rfl, HLN, HO, HPS, st'⟩ := hrel
    clear st hc
    have st := st'
    clear st'
    obtain ⟨oa, oc, rfl⟩ := own_slice (st.row (i := 4) get4)
    have HYN : Hid (ln = ys.length) := Lib.hid (st.flAt (i := 2) get2).1
    by_cases h0 : 0 < ln
    · have h0i : (0 : Int) < (ln : Int) := by omega
      have hkm : k' ≤ m := by
        refine Nat.le_of_not_lt fun q => ?_
        have h1 := lvO_len HO.out (by rw [HAL.out]; exact q)
        have h2 := HYN.out
        have h3 : ys = [] := List.map_eq_nil_iff.1 h1
        rw [h3] at h2
        simp at h2
        omega
      have hlb : ln ≤ 134217728 := pw8 HLN.out (by omega)
      have HF := Lib.hid (fun j => fo_len HMN.out HO.out j)
      have HYK : Hid (∀ y ∈ ys, y.xs.length = k') := Lib.hid (fun y hy => (HO.out.ris y.xs (List.mem_map_of_mem hy)).1)
      (try simp only [nsl, Value.cells, unB] at st)
      (try clear hc); have hc := st.facts; (try simp only [nfl, nft, Nat.reduceAdd] at hc)
      go_wp2_with fail
      replace st := st.row_nil 27 1
      simp only [List.cons_append, List.nil_append] at st
      (try simp only [nsl, Value.cells, unB] at st)
      (try clear hc); have hc := st.facts; (try simp only [nfl, nft, Nat.reduceAdd] at hc)
      go_loopg [5, 6, 22] ln (fun q ov nv i wr => ∃ (j n' p : Nat) (zs' ns ps' : List RsT), j ≤ ln ∧ q = ln - j ∧ i = .int .i64 (j : Int) ∧ p ≤ 8 * j ∧ Hid ((zs'.map (·.xs), ns.map (·.xs)) = ((ys.map (·.xs)).take j).foldl (lvS g A) (zs.map (·.xs), [])) ∧ Hid ((∀ x ∈ ys, x ∈ ps') ∧ (∀ x ∈ zs', x ∈ ps') ∧ ∀ x ∈ ns, x ∈ ps') ∧ Own (fun _ => False) (fun _ => False) W [blkI b1 [.int .i64 op, .int .i64 k, .string ⟨fo.toArray⟩, .string ⟨fd.toArray⟩, .slice fa fn fc], flI ra m A, flI la ln ys, rssI ps', rowI 27 1 ov n' (cellsL zs'), rowI 27 1 nv p (cellsL ns)] wr)
      case atStart => exact ⟨0, n, 0, zs, [], ps, by omega, by omega, rfl, by omega, Lib.hid rfl, Lib.hid ⟨HPS.out.1, HPS.out.2, by simp⟩, by simpa [cellsL] using st⟩
      case round =>
        obtain ⟨j, n', p, zs', ns, ps', hj, rfl, rfl, hp8, HE, HPT, st'⟩ := hrel
        clear st hc
        have st := st'
        clear st'
        obtain ⟨oa, oc, rfl⟩ := own_slice (st.row (i := 4) get4)
        obtain ⟨na, nc, rfl⟩ := own_slice (st.row (i := 5) get5)
        by_cases hjn : j < ln
        · obtain ⟨lb, loff, hla, hcell⟩ := Fl.rs (st.flAt (i := 2) get2) (by omega)
          have hjl : j < ys.length := by have := HYN.out; omega
          have hgt := List.getElem?_eq_getElem hjl
          have hmem := List.getElem_mem hjl
          have htk : (ys.map (·.xs)).take (j + 1) = (ys.map (·.xs)).take j ++ [ys[j].xs] := by
            rw [← List.take_append_getElem (l := ys.map (·.xs)) (by simpa using hjl)]; simp
          generalize ys[j] = y at *
          have r0 := hcell j y hgt
          have HYM := Lib.hid (HPT.out.1 y hmem)
          have HYY := Lib.hid hmem
          have HYL := Lib.hid (HYK.out y hmem)
          have hyn := (st.rss (i := 3) get3 y (HPT.out.1 y hmem)).2.1
          have HFJ := Lib.hid (HF.out j)
          have HE1 : Hid (zs'.map (·.xs) = (((ys.map (·.xs)).take j).foldl (lvS g A) (zs.map (·.xs), [])).1) := Lib.hid (by rw [← HE.out])
          have HZL : Hid (∀ z ∈ zs', z.xs.length ≤ 8) := Lib.hid (fun z hz => HL8.out _ (HFJ.out.1 _ (by rw [← HE1.out]; exact List.mem_map_of_mem hz)))
          have hn128 : n' ≤ 128 := by
            have h1 := HFJ.out.2
            rw [← HE1.out, List.length_map] at h1
            have h2 := (st.rowC4 (α := RsT) (i := 4) get4).1
            have h3 := HM8.out
            omega
          have HSTEP : Hid (((ys.map (·.xs)).take (j + 1)).foldl (lvS g A) (zs.map (·.xs), []) = lvS g A (zs'.map (·.xs), ns.map (·.xs)) y.xs) := Lib.hid (by rw [htk, List.foldl_append, ← HE.out]; rfl)
          have HZN : Hid (n' = zs'.length) := Lib.hid (st.rowC4 (α := RsT) (i := 4) get4).1
          have HWY := Lib.hid (fun z W' h1 h2 hx => HW.out z y W' h1 h2 hx (by have := HYL.out; omega))
          obtain ⟨ya, yn, yc, yx⟩ := y
          simp only at r0 HYL hyn HSTEP HWY
          have hy8 : yn ≤ 8 := by have := HYL.out; omega
          have HYE := Lib.hid (show yn = yx.length from hyn)
          clear hyn hcell hgt hjl hmem htk HE1 HFJ
          subst hla
          (try simp only [nsl, Value.cells, unB] at st)
          (try clear hc); have hc := st.facts; (try simp only [nfl, nft, Nat.reduceAdd] at hc)
          go_wp2_with ((first
                | ((with_reducible refine wl_box ?_ (fun K hK => ?_)); rfl; refine owp_box (o := ⟨some 1, _, _, _, _, _⟩) rfl st ?_; apply Exists.intro; refine ⟨?_, ?_⟩; (focus (go_simp; try rfl)); (clear st; intro b1 w hb st; clear hb))
                | ((with_reducible refine wl_buildSlice ?_ (fun K hK => ?_)); rfl; refine owp_buildSlice (o := ⟨some 16, _, _, _, _, _⟩) rfl st ?_; apply Exists.intro; apply Exists.intro; apply Exists.intro; apply Exists.intro; refine ⟨?_, ?_⟩; (focus (go_simp; (first | done | exact ⟨⟨rfl, rfl⟩, rfl⟩ | rfl))); (clear st; intro b16 w hb st; clear hb))
                | ((with_reducible refine wl_buildSlice ?_ (fun K hK => ?_)); rfl; refine owp_buildSlice (o := ⟨some 45, _, _, _, _, _⟩) rfl st ?_; apply Exists.intro; apply Exists.intro; apply Exists.intro; apply Exists.intro; refine ⟨?_, ?_⟩; (focus (go_simp; (first | done | exact ⟨⟨rfl, rfl⟩, rfl⟩ | rfl))); (clear st; intro b45 w hb st; clear hb))
                | ((with_reducible refine wl_alloc ?_ (fun K hK => ?_)); rfl; refine owp_alloc (o := ⟨some 13, _, _, _, _, _⟩) rfl st ?_; apply Exists.intro; apply Exists.intro; refine ⟨?_, ?_⟩; (focus (first | (go_simp; done) | (go_simp; rfl))); (clear st; intro b13 w hb st; clear hb))
                | ((with_reducible refine wl_store ?_ (fun K hK => ?_)); rfl; refine owp_store rfl st ?_; apply Exists.intro; apply Exists.intro; refine ⟨?_, ?_, ?_⟩; (focus (go_simp; try rfl)); (focus (go_simp; try rfl)); (first | (with_reducible refine ⟨0, _, _, _, _, get0, rfl, rfl, ?_, ?_, ?_, ?_⟩) | (with_reducible refine ⟨1, _, _, _, _, get1, rfl, rfl, ?_, ?_, ?_, ?_⟩) | (with_reducible refine ⟨2, _, _, _, _, get2, rfl, rfl, ?_, ?_, ?_, ?_⟩) | (with_reducible refine ⟨3, _, _, _, _, get3, rfl, rfl, ?_, ?_, ?_, ?_⟩) | (with_reducible refine ⟨4, _, _, _, _, get4, rfl, rfl, ?_, ?_, ?_, ?_⟩) | (with_reducible refine ⟨5, _, _, _, _, get5, rfl, rfl, ?_, ?_, ?_, ?_⟩) | (with_reducible refine ⟨6, _, _, _, _, get6, rfl, rfl, ?_, ?_, ?_, ?_⟩) | (with_reducible refine ⟨7, _, _, _, _, get7, rfl, rfl, ?_, ?_, ?_, ?_⟩) | (with_reducible refine ⟨8, _, _, _, _, get8, rfl, rfl, ?_, ?_, ?_, ?_⟩)); (kernel_rfl); (simp [Value.cells]); (rfl); (clear st; intro w st))
                | ((with_reducible refine wl_buildSlice ?_ (fun K hK => ?_)); rfl; refine owp_buildSlice (o := ⟨some 67, _, _, _, _, _⟩) rfl st ?_; apply Exists.intro; apply Exists.intro; apply Exists.intro; apply Exists.intro; refine ⟨?_, ?_⟩; (focus (go_simp; (first | done | exact ⟨⟨rfl, rfl⟩, rfl⟩ | rfl))); (clear st; intro b67 w hb st; clear hb))
                | ((with_reducible refine wl_buildSlice ?_ (fun K hK => ?_)); rfl; refine owp_buildSlice (o := ⟨some 71, _, _, _, _, _⟩) rfl st ?_; apply Exists.intro; apply Exists.intro; apply Exists.intro; apply Exists.intro; refine ⟨?_, ?_⟩; (focus (go_simp; (first | done | exact ⟨⟨rfl, rfl⟩, rfl⟩ | rfl))); (clear st; intro b71 w hb st; clear hb))
                | ((with_reducible refine wl_buildSlice ?_ (fun K hK => ?_)); rfl; refine owp_buildSlice (o := ⟨some 73, _, _, _, _, _⟩) rfl st ?_; apply Exists.intro; apply Exists.intro; apply Exists.intro; apply Exists.intro; refine ⟨?_, ?_⟩; (focus (go_simp; (first | done | exact ⟨⟨rfl, rfl⟩, rfl⟩ | rfl))); (clear st; intro b73 w hb st; clear hb))); (try simp only [nsl, Value.cells, unB] at st); (try clear hc); have hc := st.facts; (try simp only [nfl, nft, Nat.reduceAdd] at hc))
          clear r0
          go_loopg [9, 28] n' (fun q cv i wr => ∃ (i' : Nat), i' ≤ n' ∧ q = n' - i' ∧ i = .int .i64 (i' : Int) ∧ cv = .bool (covN zs' yx i') ∧ Own (fun _ => False) (fun _ => False) W [blkI b1 [.int .i64 op, .int .i64 k, .string ⟨fo.toArray⟩, .string ⟨fd.toArray⟩, .slice fa fn fc], flI ra m A, flI (some ⟨lb, loff, none⟩) ln ys, rssI ps', rowI 27 1 (.slice oa n' oc) n' (cellsL zs'), rowI 27 1 (.slice na p nc) p (cellsL ns)] wr)
          case atStart => exact ⟨0, by omega, by omega, rfl, rfl, st⟩
          case round =>
            obtain ⟨i', hi', rfl, rfl, rfl, st'⟩ := hrel
            clear st hc
            have st := st'
            clear st'
            by_cases hin : i' < n'
            · obtain ⟨zb, zoff, hza, hzcell⟩ := Fl.rs (st.rowC4 (α := RsT) (i := 4) get4) (by omega)
              have hil : i' < zs'.length := by have := HZN.out; omega
              have hzt := List.getElem?_eq_getElem hil
              have hzm := List.getElem_mem hil
              generalize zs'[i'] = z at *
              have r0 := hzcell i' z hzt
              have HSU := Lib.hid (covN_succ hzt yx)
              have HWZ := Lib.hid (fun W' h1 h2 => HWY.out z W' h1 h2 (HZL.out z hzm))
              have HZM := Lib.hid (HPT.out.2.1 z hzm)
              obtain ⟨za, zn, zc, zx⟩ := z
              simp only at r0 HSU HWZ
              subst hza
              clear hzcell hil hzt hzm
              obtain ⟨v, hv⟩ : ∃ v, covN zs' yx i' = v := ⟨_, rfl⟩
              obtain ⟨u, hu⟩ : ∃ u, wiL zx yx = u := ⟨_, rfl⟩
              rw [hv, hu] at HSU
              rw [hu] at HWZ
              rw [hv]
              clear hv hu
              cases v with
              | true =>
                have HS2 : Hid (covN zs' yx (i' + 1) = true) := Lib.hid (by rw [HSU.out]; rfl)
                (try simp only [nsl, Value.cells, unB] at st)
                (try clear hc); have hc := st.facts; (try simp only [nfl, nft, Nat.reduceAdd] at hc)
                go_wp2_with fail
                clear r0
                go_roundg (n' - (i' + 1))
                case measure => omega
                case rel => exact ⟨i' + 1, by omega, by omega, by go_num, by rw [HS2.out], st⟩
              | false =>
                have HS2 : Hid (covN zs' yx (i' + 1) = u) := Lib.hid (by rw [HSU.out]; rfl)
                (try simp only [nsl, Value.cells, unB] at st)
                (try clear hc); have hc := st.facts; (try simp only [nfl, nft, Nat.reduceAdd] at hc)
                go_wp2_with fail
                refine (HWZ.out _ (st.rss (i := 3) get3 _ HZM.out).2 (st.rss (i := 3) get3 _ HYM.out).2).mono ?_
                rintro en w ⟨rfl, hx⟩
                replace st := st.ext hx
                clear hx
                (try clear hc); have hc := st.facts; (try simp only [nfl, nft, Nat.reduceAdd] at hc)
                clear r0
                go_wp2_with fail
                go_roundg (n' - (i' + 1))
                case measure => omega
                case rel => exact ⟨i' + 1, by omega, by omega, by go_num, by rw [HS2.out], st⟩
            · obtain rfl : i' = n' := by omega
              have HCA := Lib.hid (covN_all (s := yx) HZN.out)
              obtain ⟨v, hv⟩ : ∃ v, covN zs' yx i' = v := ⟨_, rfl⟩
              rw [hv] at HCA ⊢
              clear hv
              cases v with
              | true =>
                have HE2 : Hid ((zs'.map (·.xs), ns.map (·.xs)) = ((ys.map (·.xs)).take (j + 1)).foldl (lvS g A) (zs.map (·.xs), [])) := Lib.hid (by
                  rw [HSTEP.out]
                  unfold lvS
                  rw [if_pos HCA.out.symm])
                (try simp only [nsl, Value.cells, unB] at st)
                (try clear hc); have hc := st.facts; (try simp only [nfl, nft, Nat.reduceAdd] at hc)
                go_wp2_with fail
                go_roundg (ln - (j + 1))
                case measure => omega
                case rel => exact ⟨j + 1, i', p, zs', ns, ps', by omega, by omega, by go_num, by omega, HE2, HPT, st⟩
              | false =>
                have hca : ¬ ((zs'.map (·.xs)).any fun o => wiL o yx) = true := by rw [← HCA.out]; decide
                have HCN := Lib.hid hca
                clear hca
                have HTY := Lib.hid (fun W' (hx : Ext W W') (h : Fl W' ya yn yx) => HT.out ya yn yc yx W' hx h (by omega))
                obtain ⟨v, hv⟩ : ∃ v, g yx = v := ⟨_, rfl⟩
                rw [hv] at HTY
                have HGY := Lib.hid hv
                clear hv
                (try simp only [nsl, Value.cells, unB] at st)
                (try clear hc); have hc := st.facts; (try simp only [nfl, nft, Nat.reduceAdd] at hc)
                go_wp2_with fail
                refine (HTY.out _ st.ext0 (st.rss (i := 3) get3 _ HYM.out).2).mono ?_
                rintro en w ⟨rfl, hx⟩
                replace st := st.ext hx
                clear hx
                (try clear hc); have hc := st.facts; (try simp only [nfl, nft, Nat.reduceAdd] at hc)
                cases v with
                | true =>
                  have HE2 : Hid (((zs' ++ [(⟨ya, yn, yc, yx⟩ : RsT)]).map (·.xs), ns.map (·.xs)) = ((ys.map (·.xs)).take (j + 1)).foldl (lvS g A) (zs.map (·.xs), [])) := Lib.hid (by
                    rw [HSTEP.out]
                    unfold lvS
                    rw [if_neg HCN.out, if_pos HGY.out]
                    simp)
                  have HPT2 : Hid ((∀ x ∈ ys, x ∈ ps') ∧ (∀ x ∈ zs' ++ [(⟨ya, yn, yc, yx⟩ : RsT)], x ∈ ps') ∧ ∀ x ∈ ns, x ∈ ps') := Lib.hid ⟨HPT.out.1, fun x hx => by
                    rcases List.mem_append.1 hx with q | q
                    · exact HPT.out.2.1 x q
                    · rw [List.mem_singleton.1 q]; exact HYM.out, HPT.out.2.2⟩
                  (try simp only [nsl, Value.cells, unB] at st)
                  (try clear hc); have hc := st.facts; (try simp only [nfl, nft, Nat.reduceAdd] at hc)
                  go_wp2_with (first
                      | ((with_reducible refine wl_append ?_ (fun K hK => ?_)); (rfl); (obtain ⟨inf, hinf, hz0, hz1, hz2⟩ := rsInfo); (refine owp_append rfl st 4 get4 Tryz.underlying30 hinf hz0 hz1 hz2 rfl (by decide) rfl rfl ((st.blk (i := 6) get6).flat rfl) (by first | exact cellsL_all _ | simp [Value.oneCell']) (by simp only [maxLen]; omega) (by omega) ?_); (clear hinf hz0 hz1 hz2 inf); (clear st; intro v' w st); (obtain ⟨va', vc', rfl⟩ := own_slice (st.row (i := 4) get4)); (try simp only [nsl, Value.cells, unB] at st); (try simp only [Nat.zero_add] at st); (try clear hc); have hc := st.facts; (try simp only [nfl, nft, Nat.reduceAdd] at hc))
                      | ((first
                        | ((with_reducible refine wl_box ?_ (fun K hK => ?_)); rfl; refine owp_box (o := ⟨some 1, _, _, _, _, _⟩) rfl st ?_; apply Exists.intro; refine ⟨?_, ?_⟩; (focus (go_simp; try rfl)); (clear st; intro b1 w hb st; clear hb))
                        | ((with_reducible refine wl_buildSlice ?_ (fun K hK => ?_)); rfl; refine owp_buildSlice (o := ⟨some 16, _, _, _, _, _⟩) rfl st ?_; apply Exists.intro; apply Exists.intro; apply Exists.intro; apply Exists.intro; refine ⟨?_, ?_⟩; (focus (go_simp; (first | done | exact ⟨⟨rfl, rfl⟩, rfl⟩ | rfl))); (clear st; intro b16 w hb st; clear hb))
                        | ((with_reducible refine wl_buildSlice ?_ (fun K hK => ?_)); rfl; refine owp_buildSlice (o := ⟨some 45, _, _, _, _, _⟩) rfl st ?_; apply Exists.intro; apply Exists.intro; apply Exists.intro; apply Exists.intro; refine ⟨?_, ?_⟩; (focus (go_simp; (first | done | exact ⟨⟨rfl, rfl⟩, rfl⟩ | rfl))); (clear st; intro b45 w hb st; clear hb))
                        | ((with_reducible refine wl_alloc ?_ (fun K hK => ?_)); rfl; refine owp_alloc (o := ⟨some 13, _, _, _, _, _⟩) rfl st ?_; apply Exists.intro; apply Exists.intro; refine ⟨?_, ?_⟩; (focus (first | (go_simp; done) | (go_simp; rfl))); (clear st; intro b13 w hb st; clear hb))
                        | ((with_reducible refine wl_store ?_ (fun K hK => ?_)); rfl; refine owp_store rfl st ?_; apply Exists.intro; apply Exists.intro; refine ⟨?_, ?_, ?_⟩; (focus (go_simp; try rfl)); (focus (go_simp; try rfl)); (first | (with_reducible refine ⟨0, _, _, _, _, get0, rfl, rfl, ?_, ?_, ?_, ?_⟩) | (with_reducible refine ⟨1, _, _, _, _, get1, rfl, rfl, ?_, ?_, ?_, ?_⟩) | (with_reducible refine ⟨2, _, _, _, _, get2, rfl, rfl, ?_, ?_, ?_, ?_⟩) | (with_reducible refine ⟨3, _, _, _, _, get3, rfl, rfl, ?_, ?_, ?_, ?_⟩) | (with_reducible refine ⟨4, _, _, _, _, get4, rfl, rfl, ?_, ?_, ?_, ?_⟩) | (with_reducible refine ⟨5, _, _, _, _, get5, rfl, rfl, ?_, ?_, ?_, ?_⟩) | (with_reducible refine ⟨6, _, _, _, _, get6, rfl, rfl, ?_, ?_, ?_, ?_⟩) | (with_reducible refine ⟨7, _, _, _, _, get7, rfl, rfl, ?_, ?_, ?_, ?_⟩) | (with_reducible refine ⟨8, _, _, _, _, get8, rfl, rfl, ?_, ?_, ?_, ?_⟩)); (kernel_rfl); (simp [Value.cells]); (rfl); (clear st; intro w st))
                        | ((with_reducible refine wl_buildSlice ?_ (fun K hK => ?_)); rfl; refine owp_buildSlice (o := ⟨some 67, _, _, _, _, _⟩) rfl st ?_; apply Exists.intro; apply Exists.intro; apply Exists.intro; apply Exists.intro; refine ⟨?_, ?_⟩; (focus (go_simp; (first | done | exact ⟨⟨rfl, rfl⟩, rfl⟩ | rfl))); (clear st; intro b67 w hb st; clear hb))
                        | ((with_reducible refine wl_buildSlice ?_ (fun K hK => ?_)); rfl; refine owp_buildSlice (o := ⟨some 71, _, _, _, _, _⟩) rfl st ?_; apply Exists.intro; apply Exists.intro; apply Exists.intro; apply Exists.intro; refine ⟨?_, ?_⟩; (focus (go_simp; (first | done | exact ⟨⟨rfl, rfl⟩, rfl⟩ | rfl))); (clear st; intro b71 w hb st; clear hb))
                        | ((with_reducible refine wl_buildSlice ?_ (fun K hK => ?_)); rfl; refine owp_buildSlice (o := ⟨some 73, _, _, _, _, _⟩) rfl st ?_; apply Exists.intro; apply Exists.intro; apply Exists.intro; apply Exists.intro; refine ⟨?_, ?_⟩; (focus (go_simp; (first | done | exact ⟨⟨rfl, rfl⟩, rfl⟩ | rfl))); (clear st; intro b73 w hb st; clear hb))); (try simp only [nsl, Value.cells, unB] at st); (try clear hc); have hc := st.facts; (try simp only [nfl, nft, Nat.reduceAdd] at hc)))
                  have st' := st.keep [0, 1, 2, 3, 4, 5] (by decide) (by simp)
                  go_roundg (ln - (j + 1))
                  case measure => omega
                  case rel => exact ⟨j + 1, i' + 1, p, _, ns, ps', by omega, by omega, by go_num, by omega, HE2, HPT2, by rw [cellsL_append, show cellsL [(⟨ya, yn, yc, yx⟩ : RsT)] = [.slice ya yn yc] from rfl]; simpa [pick] using st'⟩
                | false =>
                  have HGN : Hid (¬ g yx = true) := Lib.hid (by rw [HGY.out]; decide)
                  (try simp only [nsl, Value.cells, unB] at st)
                  (try clear hc); have hc := st.facts; (try simp only [nfl, nft, Nat.reduceAdd] at hc)
                  go_wp2_with fail
                  go_loopg [6, 49] m (fun q nv i wr => ∃ (i2 p2 : Nat) (ns2 ps2 : List RsT), i2 ≤ m ∧ q = m - i2 ∧ i = .int .i64 (i2 : Int) ∧ p2 ≤ p + i2 ∧ Hid (ns2.map (·.xs) = ns.map (·.xs) ++ exR (A.take i2) yx) ∧ Hid ((∀ x ∈ ys, x ∈ ps2) ∧ (∀ x ∈ zs', x ∈ ps2) ∧ ∀ x ∈ ns2, x ∈ ps2) ∧ Own (fun _ => False) (fun _ => False) W [blkI b1 [.int .i64 op, .int .i64 k, .string ⟨fo.toArray⟩, .string ⟨fd.toArray⟩, .slice fa fn fc], flI ra m A, flI (some ⟨lb, loff, none⟩) ln ys, rssI ps2, rowI 27 1 (.slice oa i' oc) i' (cellsL zs'), rowI 27 1 nv p2 (cellsL ns2)] wr)
                  case atStart => exact ⟨0, p, ns, ps', by omega, by omega, rfl, by omega, Lib.hid (by rw [exR_none, List.append_nil]), HPT, st⟩
                  case round =>
                    obtain ⟨i2, p2, ns2, ps2, hi2, rfl, rfl, hp2, HX, HP2, st'⟩ := hrel
                    clear st hc
                    have st := st'
                    clear st'
                    obtain ⟨na, nc, rfl⟩ := own_slice (st.row (i := 5) get5)
                    by_cases him : i2 < m
                    · obtain ⟨rb, roff, hra, hrcell⟩ := Fl.role (st.flAt (i := 1) get1) (by omega)
                      have hil : i2 < A.length := by have := HAL.out; omega
                      have hrt := List.getElem?_eq_getElem hil
                      have htk : A.take (i2 + 1) = A.take i2 ++ [A[i2]] := (List.take_append_getElem hil).symm
                      generalize A[i2] = r at *
                      have HRT := Lib.hid htk
                      have HYES := Lib.hid (fun (q : upR yx r = true) => (show exR (A.take (i2 + 1)) yx = exR (A.take i2) yx ++ [yx ++ [r]] by rw [htk]; exact exR_yes q))
                      have HNO := Lib.hid (fun (q : upR yx r = false) => (show exR (A.take (i2 + 1)) yx = exR (A.take i2) yx by rw [htk]; exact exR_no q))
                      have HLT := Lib.hid (fun x W' => refRoleLess_any x r W')
                      have HUL := Lib.hid (fun x q hk hx => @upR_last yx x r q hk hx)
                      obtain ⟨o, d⟩ := r
                      obtain ⟨r0, r1⟩ := hrcell i2 (o, d) hrt
                      simp only [S] at r0 r1
                      subst hra
                      clear hrcell hil hrt htk
                      (try simp only [nsl, Value.cells, unB] at st)
                      (try clear hc); have hc := st.facts; (try simp only [nfl, nft, Nat.reduceAdd] at hc)
                      go_wp2_with ((first
                            | ((with_reducible refine wl_box ?_ (fun K hK => ?_)); rfl; refine owp_box (o := ⟨some 1, _, _, _, _, _⟩) rfl st ?_; apply Exists.intro; refine ⟨?_, ?_⟩; (focus (go_simp; try rfl)); (clear st; intro b1 w hb st; clear hb))
                            | ((with_reducible refine wl_buildSlice ?_ (fun K hK => ?_)); rfl; refine owp_buildSlice (o := ⟨some 16, _, _, _, _, _⟩) rfl st ?_; apply Exists.intro; apply Exists.intro; apply Exists.intro; apply Exists.intro; refine ⟨?_, ?_⟩; (focus (go_simp; (first | done | exact ⟨⟨rfl, rfl⟩, rfl⟩ | rfl))); (clear st; intro b16 w hb st; clear hb))
                            | ((with_reducible refine wl_buildSlice ?_ (fun K hK => ?_)); rfl; refine owp_buildSlice (o := ⟨some 45, _, _, _, _, _⟩) rfl st ?_; apply Exists.intro; apply Exists.intro; apply Exists.intro; apply Exists.intro; refine ⟨?_, ?_⟩; (focus (go_simp; (first | done | exact ⟨⟨rfl, rfl⟩, rfl⟩ | rfl))); (clear st; intro b45 w hb st; clear hb))
                            | ((with_reducible refine wl_alloc ?_ (fun K hK => ?_)); rfl; refine owp_alloc (o := ⟨some 13, _, _, _, _, _⟩) rfl st ?_; apply Exists.intro; apply Exists.intro; refine ⟨?_, ?_⟩; (focus (first | (go_simp; done) | (go_simp; rfl))); (clear st; intro b13 w hb st; clear hb))
                            | ((with_reducible refine wl_store ?_ (fun K hK => ?_)); rfl; refine owp_store rfl st ?_; apply Exists.intro; apply Exists.intro; refine ⟨?_, ?_, ?_⟩; (focus (go_simp; try rfl)); (focus (go_simp; try rfl)); (first | (with_reducible refine ⟨0, _, _, _, _, get0, rfl, rfl, ?_, ?_, ?_, ?_⟩) | (with_reducible refine ⟨1, _, _, _, _, get1, rfl, rfl, ?_, ?_, ?_, ?_⟩) | (with_reducible refine ⟨2, _, _, _, _, get2, rfl, rfl, ?_, ?_, ?_, ?_⟩) | (with_reducible refine ⟨3, _, _, _, _, get3, rfl, rfl, ?_, ?_, ?_, ?_⟩) | (with_reducible refine ⟨4, _, _, _, _, get4, rfl, rfl, ?_, ?_, ?_, ?_⟩) | (with_reducible refine ⟨5, _, _, _, _, get5, rfl, rfl, ?_, ?_, ?_, ?_⟩) | (with_reducible refine ⟨6, _, _, _, _, get6, rfl, rfl, ?_, ?_, ?_, ?_⟩) | (with_reducible refine ⟨7, _, _, _, _, get7, rfl, rfl, ?_, ?_, ?_, ?_⟩) | (with_reducible refine ⟨8, _, _, _, _, get8, rfl, rfl, ?_, ?_, ?_, ?_⟩)); (kernel_rfl); (simp [Value.cells]); (rfl); (clear st; intro w st))
                            | ((with_reducible refine wl_buildSlice ?_ (fun K hK => ?_)); rfl; refine owp_buildSlice (o := ⟨some 67, _, _, _, _, _⟩) rfl st ?_; apply Exists.intro; apply Exists.intro; apply Exists.intro; apply Exists.intro; refine ⟨?_, ?_⟩; (focus (go_simp; (first | done | exact ⟨⟨rfl, rfl⟩, rfl⟩ | rfl))); (clear st; intro b67 w hb st; clear hb))
                            | ((with_reducible refine wl_buildSlice ?_ (fun K hK => ?_)); rfl; refine owp_buildSlice (o := ⟨some 71, _, _, _, _, _⟩) rfl st ?_; apply Exists.intro; apply Exists.intro; apply Exists.intro; apply Exists.intro; refine ⟨?_, ?_⟩; (focus (go_simp; (first | done | exact ⟨⟨rfl, rfl⟩, rfl⟩ | rfl))); (clear st; intro b71 w hb st; clear hb))
                            | ((with_reducible refine wl_buildSlice ?_ (fun K hK => ?_)); rfl; refine owp_buildSlice (o := ⟨some 73, _, _, _, _, _⟩) rfl st ?_; apply Exists.intro; apply Exists.intro; apply Exists.intro; apply Exists.intro; refine ⟨?_, ?_⟩; (focus (go_simp; (first | done | exact ⟨⟨rfl, rfl⟩, rfl⟩ | rfl))); (clear st; intro b73 w hb st; clear hb))); (try simp only [nsl, Value.cells, unB] at st); (try clear hc); have hc := st.facts; (try simp only [nfl, nft, Nat.reduceAdd] at hc))
                      clear r0 r1
                      have HYP := Lib.hid (HP2.out.1 _ HYY.out)
                      unfold rV S at HLT
                      simp only at HLT
                      by_cases hy0 : yn = 0
                      · have hyb : ((yn : Int) == 0) = true := by rw [hy0]; rfl
                        have hnil : yx = [] := List.eq_nil_of_length_eq_zero (by have := HYE.out; omega)
                        have HX2 := Lib.hid (HYES.out (by rw [hnil]; rfl))
                        clear HYES HNO HLT HUL hnil
                        clear hy0
                        (try simp only [nsl, Value.cells, unB] at st)
                        (try clear hc); have hc := st.facts; (try simp only [nfl, nft, Nat.reduceAdd] at hc)
                        go_wp2_with fail
                        refine Rg4.wp_region4_eq #[0, 1, 3, 7, 15, 15, 47, 111, 255, 511, 15, 2047, 4095] [11] [9, 10] (fun _ => True) [0, 1, 2, 3, 4, 5, 6, 7, 8, 9, 10, 11, 12] (by kernel_rfl) (by kernel_rfl) (by kernel_rfl) (by kernel_rfl) (show Rg4.PB _ by repeat (first | with_reducible exact Rg4.pb_body | with_reducible exact Rg4.pb_bodyD rfl | with_reducible refine Rg4.pb_then ?_ | with_reducible refine Rg4.pb_inBlock ?_ | with_reducible refine Rg4.pb_noGoto ?_)) (trivial) ?_
                        replace st := st.drew
                        change Rg4.wp4 _ _ _ _ _ _ _ _ _ (World.drew _) _ _
                        generalize World.drew _ = w at st ⊢
                        (try clear hc); have hc := st.facts; (try simp only [nfl, nft, Nat.reduceAdd] at hc)
                        iterate 4 (refine Rg4.w4_any (Rg4.want_none rfl) rfl ?_; apply Exists.intro; refine ⟨fun w' => ?_, ?_⟩; (focus (first | (go_simp; done) | (go_simp; first | rfl | (rw [if_neg] <;> first | rfl | omega) | (rw [if_pos] <;> first | rfl | omega)))); (try simp only [Rg4.nrm]))
                        iterate 5 (first | (refine Rg4.w4_any (Rg4.wt rfl rfl rfl) rfl ?_; apply Exists.intro; refine ⟨fun w' => ?_, ?_⟩; (focus (first | (go_simp; done) | (go_simp; first | rfl | (rw [if_neg] <;> first | rfl | omega) | (rw [if_pos] <;> first | rfl | omega)))); (try simp only [Rg4.nrm])) | (refine Rg4.w4_skip (Rg4.uw rfl rfl rfl) ?_; (try simp only [Rg4.nrm])) | (refine Rg4.w4_skip (Rg4.un rfl rfl rfl) ?_; (try simp only [Rg4.nrm])))
                        iterate 2 (first | (refine Rg4.w4_read (Rg4.wt rfl rfl rfl) rfl rfl ?_; apply Exists.intro; refine ⟨fun w' hw' hcl' => ?_, ?_⟩; focus (subst hw'; (focus (first | (go_simp; done) | (go_simp; first | rfl | (rw [if_neg] <;> first | rfl | omega) | (rw [if_pos] <;> first | rfl | omega))))); (try simp only [Rg4.nrm])) | (refine Rg4.w4_skip (Rg4.uw rfl rfl rfl) ?_; (try simp only [Rg4.nrm])) | (refine Rg4.w4_skip (Rg4.un rfl rfl rfl) ?_; (try simp only [Rg4.nrm])))
                        first | refine Rg4.w4_skip (Rg4.uw rfl rfl rfl) ?_ | refine Rg4.w4_skip (Rg4.un rfl rfl rfl) ?_
                        (try simp only [Rg4.nrm])
                        (refine Rg4.w4_any (Rg4.want_none rfl) rfl ?_; apply Exists.intro; refine ⟨fun w' => ?_, ?_⟩; (focus (first | (go_simp; done) | (go_simp; first | rfl | (rw [if_neg] <;> first | rfl | omega) | (rw [if_pos] <;> first | rfl | omega)))); (try simp only [Rg4.nrm]))
                        refine Rg4.w4_nil (fun w' hw' hcl' _ => ?_); subst hw'; clear hcl'
                        (try simp only [nsl, Value.cells, unB] at st)
                        (try clear hc); have hc := st.facts; (try simp only [nfl, nft, Nat.reduceAdd] at hc)
                        go_wp2_with fail
                        obtain ⟨B0, hB0⟩ : ∃ B0, w.heap.size = B0 := ⟨_, rfl⟩
                        have hB : (World.drew w).heap.size = B0 := hB0
                        clear hB0
                        refine Rg4.wp_region4 (Rel := Ext) #[0, 0, 0, 6, 0, 16, 62, 126, 255, 511]
                          [(1, ⟨fun v w => ∃ b, v = .slice (some ⟨b, 0, none⟩) 0 0 ∧ w.ownsRow B0 23 2 (.slice (some ⟨b, 0, none⟩) 0 0) 0 [] , fun _ _ _ hx ⟨b, h1, h2⟩ => ⟨b, h1, own_ext h2 hx⟩⟩), (3, ⟨fun v w => ∃ va vc, v = .slice va yn vc ∧ w.ownsRow B0 23 2 (.slice va yn vc) yn (cellsL yx) , fun _ _ _ hx ⟨va, vc, h1, h2⟩ => ⟨va, vc, h1, own_ext h2 hx⟩⟩), (5, ⟨fun v w => ∃ b, v = .slice (some ⟨b, 0, none⟩) 1 1 ∧ Blk w b [.string ⟨o.toArray⟩, .string ⟨d.toArray⟩] , fun _ _ _ hx ⟨b, h1, h2⟩ => ⟨b, h1, h2.ext hx⟩⟩)] [6, 7, 8] [4] (fun _ => True) [0, 1, 2, 3, 4, 5, 6, 7, 8, 9] (by kernel_rfl) (by kernel_rfl) (by kernel_rfl) (by kernel_rfl) Ext.refl (fun _ _ _ => Ext.trans) (show Rg4.PB _ by repeat (first | with_reducible exact Rg4.pb_body | with_reducible exact Rg4.pb_bodyD rfl | with_reducible refine Rg4.pb_then ?_ | with_reducible refine Rg4.pb_inBlock ?_ | with_reducible refine Rg4.pb_noGoto ?_)) (trivial) ?_
                        replace st := st.drew
                        change Rg4.wp4 _ _ _ _ _ _ _ _ _ (World.drew _) _ _
                        generalize World.drew _ = w at hB st ⊢
                        (try clear hc); have hc := st.facts; (try simp only [nfl, nft, Nat.reduceAdd] at hc)
                        (refine Rg4.w4_any (Rg4.want_none rfl) rfl ?_; apply Exists.intro; refine ⟨fun w' => ?_, ?_⟩; (focus (first | (go_simp; done) | (go_simp; first | rfl | (rw [if_neg] <;> first | rfl | omega) | (rw [if_pos] <;> first | rfl | omega)))); (try simp only [Rg4.nrm]))
                        refine Rg4.w4_some (Rg4.want_none rfl) rfl (fun w' hw' hcl' _ => ?_) ?_
                        · refine Rg.relAt_value (v := .slice (some ⟨w'.heap.size, 0, none⟩) 0 0) (w' := w'.alloc (.cells #[] 23)) ?_ ⟨Ext.new _ _, trivial, _, rfl, empty_row (by rw [← hB]; exact hw'.le) _ _⟩
                          go_simp
                        rintro v ⟨_, _, _, b67, rfl, _⟩
                        (try simp only [Rg4.nrm])
                        (refine Rg4.w4_any (Rg4.want_none rfl) rfl ?_; apply Exists.intro; refine ⟨fun w' => ?_, ?_⟩; (focus (first | (go_simp; done) | (go_simp; first | rfl | (rw [if_neg] <;> first | rfl | omega) | (rw [if_pos] <;> first | rfl | omega)))); (try simp only [Rg4.nrm]))
                        refine Rg4.w4_some (Rg4.want_none rfl) rfl (fun w' hw' hcl' hP => ?_) ?_
                        · have h0 : w'.ownsRow B0 23 2 (.slice (some ⟨b67, 0, none⟩) 0 0) 0 [] := by
                            obtain ⟨b, h1, h2⟩ := (hP 1 (by kernel_rfl)).2 rfl
                            cases h1
                            exact h2
                          have st' := st.ext hw'
                          obtain ⟨inf, hinf, hz0, hz1, hz2⟩ := roleInfo
                          obtain ⟨v2, w2, hr, hrow, hx⟩ := append_fresh (P := Tryz.prog) (w := w') (B0 := B0) (m := yn) (c := yc) (news := cellsL yx) (by rw [← hB]; exact hw'.le) (t := 27) (ty := 27) Tryz.underlying27 hinf hz0 hz1 hz2 rfl (by decide) h0 ((st'.rss (i := 3) get3 _ HYP.out).2.flat) (st'.rss (i := 3) get3 _ HYP.out).1.1 (by simp only [maxLen]; omega) (by omega)
                          obtain ⟨va, vc, rfl⟩ := own_slice hrow
                          exact Rg.relAt_value (append_exec rfl rfl rfl hr) ⟨hx, trivial, va, vc, rfl, hrow⟩
                        rintro v ⟨_, _, _, va9, vc9, rfl, _⟩
                        (try simp only [Rg4.nrm])
                        (refine Rg4.w4_read (Rg4.want_none rfl) rfl rfl ?_; apply Exists.intro; refine ⟨fun w' hw' hcl' => ?_, ?_⟩; focus (have st' := st.ext hw'; have hc' := st'.facts; (try simp only [nfl, nft, Nat.reduceAdd] at hc'); (focus (first | (go_simp; done) | (go_simp; first | rfl | (rw [if_neg] <;> first | rfl | omega) | (rw [if_pos] <;> first | rfl | omega))))); (try simp only [Rg4.nrm]))
                        refine Rg4.w4_some (Rg4.want_none rfl) rfl (fun w' hw' hcl' _ => ?_) ?_
                        · refine Rg.relAt_value (v := .slice (some ⟨w'.heap.size, 0, none⟩) 1 1) (w' := w'.alloc (.cells #[.string ⟨o.toArray⟩, .string ⟨d.toArray⟩] 23)) ?_ ⟨Ext.new _ _, trivial, _, rfl, Blk.new _ _ _⟩
                          go_simp
                        rintro v ⟨_, _, _, b71, rfl, _⟩
                        (try simp only [Rg4.nrm])

                        refine Rg4.w4_bar (Rg4.want_none rfl) rfl (fun w' hw' hcl hF K hK => ?_)
                        obtain ⟨va, vc, hv, hrow⟩ := (hF 3).1.2 rfl
                        cases hv
                        obtain ⟨b, hv, hblk⟩ := (hF 5).2 rfl
                        cases hv
                        rw [← hB] at hrow
                        replace st := st.newRow hw' hrow
                        clear hF hrow hw' hB
                        (try simp only [nsl, Value.cells, unB] at st)
                        (try clear hc); have hc := st.facts; (try simp only [nfl, nft, Nat.reduceAdd] at hc)
                        obtain ⟨inf, hinf, hz0, hz1, hz2⟩ := roleInfo
                        refine owp_append rfl st 7 get7 Tryz.underlying27 hinf hz0 hz1 hz2 rfl (by decide) rfl rfl (hblk.flat rfl) (by simp [Value.oneCell']) (by simp only [maxLen]; omega) (by omega) ?_
                        clear hinf hz0 hz1 hz2 inf hblk
                        clear st
                        intro v' w st
                        obtain ⟨va2, vc2, rfl⟩ := own_slice (st.row (i := 7) get7)
                        (try simp only [nsl, Value.cells, unB] at st)
                        (try clear hc); have hc := st.facts; (try simp only [nfl, nft, Nat.reduceAdd] at hc)
                        refine hK _ _ ⟨trivial, ?_⟩
                        clear hK
                        (try simp only [Rg4.nrm])
                        (refine Rg4.w4_bar (Rg4.want_none rfl) rfl (fun w' hw' hcl' _ K hK => ?_); replace st := st.ext hw'; (refine owp_buildSlice (o := ⟨some 73, _, _, _, _, _⟩) rfl st ?_; apply Exists.intro; apply Exists.intro; apply Exists.intro; apply Exists.intro; refine ⟨?_, ?_⟩; (focus (go_simp; (first | done | exact ⟨⟨rfl, rfl⟩, rfl⟩ | rfl))); (clear st; intro b73 w hb st; clear hb); (try simp only [nsl, Value.cells, unB] at st); (try clear hc); have hc := st.facts; (try simp only [nfl, nft, Nat.reduceAdd] at hc)); refine hK _ _ ⟨trivial, ?_⟩; (try simp only [Rg4.nrm]))
                        refine Rg4.w4_bar (Rg4.want_none rfl) rfl (fun w' hw' hcl hF K hK => ?_)
                        replace st := st.ext hw'
                        clear hF hw'
                        obtain ⟨inf, hinf, hz0, hz1, hz2⟩ := rsInfo
                        refine owp_append rfl st 5 get5 Tryz.underlying30 hinf hz0 hz1 hz2 rfl (by decide) rfl rfl ((st.blk (i := 8) get8).flat rfl) (by simp [Value.oneCell']) (by simp only [maxLen]; omega) (by omega) ?_
                        clear hinf hz0 hz1 hz2 inf
                        clear st
                        intro v' w st
                        obtain ⟨na2, nc2, rfl⟩ := own_slice (st.row (i := 5) get5)
                        (try simp only [nsl, Value.cells, unB] at st)
                        (try clear hc); have hc := st.facts; (try simp only [nfl, nft, Nat.reduceAdd] at hc)
                        refine hK _ _ ⟨trivial, ?_⟩
                        clear hK
                        (try simp only [Rg4.nrm])
                        (refine Rg4.w4_any (Rg4.want_none rfl) rfl ?_; apply Exists.intro; refine ⟨fun w' => ?_, ?_⟩; (focus (first | (go_simp; done) | (go_simp; first | rfl | (rw [if_neg] <;> first | rfl | omega) | (rw [if_pos] <;> first | rfl | omega)))); (try simp only [Rg4.nrm]))
                        refine Rg4.w4_nil (fun w' hw' hcl' _ => ?_); replace st := st.ext hw'; clear hw' hcl'; (try clear hc); have hc := st.facts; (try simp only [nfl, nft, Nat.reduceAdd] at hc)
                        have hcc : cellsL yx ++ [.string ⟨o.toArray⟩, .string ⟨d.toArray⟩] = cellsL (yx ++ [(o, d)]) := by rw [cellsL_append]; rfl
                        rw [hcc] at st
                        clear hcc
                        have hcap9 := (st.flRow7 (α := Role) (i := 7) get7).1
                        replace st := st.rowToFl (α := Role) (i := 7) get7
                        simp only [List.set] at st
                        replace st := st.rssMore (i := 3) (j := 7) get3 get7 hcap9
                        simp only [List.cons_append, List.nil_append] at st
                        have st' := st.keep [0, 1, 2, 9, 4, 5] (by decide) (by simp)
                        (try simp only [nsl, Value.cells, unB] at st)
                        (try clear hc); have hc := st.facts; (try simp only [nfl, nft, Nat.reduceAdd] at hc)
                        go_wp2_with fail
                        have HX3 : Hid ((ns2 ++ [(⟨va2, yn + 1, vc2, yx ++ [(o, d)]⟩ : RsT)]).map (·.xs) = ns.map (·.xs) ++ exR (A.take (i2 + 1)) yx) := Lib.hid (by rw [HX2.out, List.map_append, HX.out, List.append_assoc]; rfl)
                        have HP3 : Hid ((∀ x ∈ ys, x ∈ ps2 ++ [(⟨va2, yn + 1, vc2, yx ++ [(o, d)]⟩ : RsT)]) ∧ (∀ x ∈ zs', x ∈ ps2 ++ [(⟨va2, yn + 1, vc2, yx ++ [(o, d)]⟩ : RsT)]) ∧ ∀ x ∈ ns2 ++ [(⟨va2, yn + 1, vc2, yx ++ [(o, d)]⟩ : RsT)], x ∈ ps2 ++ [(⟨va2, yn + 1, vc2, yx ++ [(o, d)]⟩ : RsT)]) := Lib.hid ⟨fun x hx => List.mem_append_left _ (HP2.out.1 x hx), fun x hx => List.mem_append_left _ (HP2.out.2.1 x hx), fun x hx => by
                          rcases List.mem_append.1 hx with q | q
                          · exact List.mem_append_left _ (HP2.out.2.2 x q)
                          · exact List.mem_append_right _ q⟩
                        go_roundg (m - (i2 + 1))
                        case measure => omega
                        case rel => exact ⟨i2 + 1, p2 + 1, _, _, by omega, by omega, by go_num, by omega, HX3, HP3, by rw [cellsL_append, show cellsL [(⟨va2, yn + 1, vc2, yx ++ [(o, d)]⟩ : RsT)] = [.slice va2 (yn + 1) vc2] from rfl]; simpa [pick] using st'⟩
                      · obtain ⟨kk, hkk⟩ : ∃ kk, yn = kk + 1 := ⟨yn - 1, by omega⟩
                        have hyb : ((yn : Int) == 0) = false := by simp; omega
                        have w9 : IntKind.i64.wrap ((yn : Int) - 1) = (kk : Int) := by rw [show ((yn : Int) - 1) = (kk : Int) by omega]; exact IntWalk.i64_in _ ⟨by omega, by omega⟩
                        have hkl : kk < yx.length := by have := HYE.out; omega
                        obtain ⟨x, hx9⟩ : ∃ x, yx[kk]? = some x := ⟨_, List.getElem?_eq_getElem hkl⟩
                        have hul := HUL.out x kk (by have := HYE.out; omega) hx9
                        have HX1 := Lib.hid hx9
                        have HLX := Lib.hid (fun W' => HLT.out x W')
                        obtain ⟨xo, xd⟩ := x
                        simp only at HLX
                        obtain ⟨yb, yoff, hya⟩ := ((st.rss (i := 3) get3 _ HYP.out).2).at (show 0 < yn by omega)
                        subst hya
                        have hkn : kk < yn := by omega
                        have hkk9 := Lib.hid hkk
                        obtain ⟨uv, huv⟩ : ∃ uv, roleLt (xo, xd) (o, d) = uv := ⟨_, rfl⟩
                        rw [huv] at HLX hul
                        clear huv hx9 hkl hkk hy0 HUL HLT
                        cases uv with
                        | true =>
                          have HX2 := Lib.hid (HYES.out hul)
                          clear hul HYES HNO
                          (try simp only [nsl, Value.cells, unB] at st)
                          (try clear hc); have hc := st.facts; (try simp only [nfl, nft, Nat.reduceAdd] at hc)
                          go_wp2_with fail
                          refine Rg4.wp_region4_eq #[0, 1, 3, 7, 15, 15, 47, 111, 255, 511, 15, 2047, 4095] [11] [9, 10] (fun _ => True) [0, 1, 2, 3, 4, 5, 6, 7, 8, 9, 10, 11, 12] (by kernel_rfl) (by kernel_rfl) (by kernel_rfl) (by kernel_rfl) (show Rg4.PB _ by repeat (first | with_reducible exact Rg4.pb_body | with_reducible exact Rg4.pb_bodyD rfl | with_reducible refine Rg4.pb_then ?_ | with_reducible refine Rg4.pb_inBlock ?_ | with_reducible refine Rg4.pb_noGoto ?_)) (trivial) ?_
                          replace st := st.drew
                          change Rg4.wp4 _ _ _ _ _ _ _ _ _ (World.drew _) _ _
                          generalize World.drew _ = w at st ⊢
                          (try clear hc); have hc := st.facts; (try simp only [nfl, nft, Nat.reduceAdd] at hc)
                          iterate 4 (refine Rg4.w4_any (Rg4.want_none rfl) rfl ?_; apply Exists.intro; refine ⟨fun w' => ?_, ?_⟩; (focus (first | (go_simp; done) | (go_simp; first | rfl | (rw [if_neg] <;> first | rfl | omega) | (rw [if_pos] <;> first | rfl | omega)))); (try simp only [Rg4.nrm]))
                          iterate 5 (first | (refine Rg4.w4_any (Rg4.wt rfl rfl rfl) rfl ?_; apply Exists.intro; refine ⟨fun w' => ?_, ?_⟩; (focus (first | (go_simp; done) | (go_simp; first | rfl | (rw [if_neg] <;> first | rfl | omega) | (rw [if_pos] <;> first | rfl | omega)))); (try simp only [Rg4.nrm])) | (refine Rg4.w4_skip (Rg4.uw rfl rfl rfl) ?_; (try simp only [Rg4.nrm])) | (refine Rg4.w4_skip (Rg4.un rfl rfl rfl) ?_; (try simp only [Rg4.nrm])))
                          iterate 2 (first | (refine Rg4.w4_read (Rg4.wt rfl rfl rfl) rfl rfl ?_; apply Exists.intro; refine ⟨fun w' hw' hcl' => ?_, ?_⟩; focus (subst hw'; have q9 := Fl.roleAt9 (st.rss (i := 3) get3 _ HYP.out).2 HX1.out; have r2 := q9.1; have r3 := q9.2; simp only [S] at r2 r3; (focus (first | (go_simp; done) | (go_simp; first | rfl | (rw [if_neg] <;> first | rfl | omega) | (rw [if_pos] <;> first | rfl | omega))))); (try simp only [Rg4.nrm])) | (refine Rg4.w4_skip (Rg4.uw rfl rfl rfl) ?_; (try simp only [Rg4.nrm])) | (refine Rg4.w4_skip (Rg4.un rfl rfl rfl) ?_; (try simp only [Rg4.nrm])))
                          refine Rg4.w4_bar (Rg4.want_of 3 56 false rfl rfl rfl) rfl (fun w' hw' hcl _ K hK => ?_)
                          subst hw'
                          go_wp2_with fail
                          refine (HLX.out _).mono ?_
                          rintro en w ⟨rfl, hx⟩
                          replace st := st.ext hx
                          clear hx
                          (try clear hc); have hc := st.facts; (try simp only [nfl, nft, Nat.reduceAdd] at hc)
                          refine hK _ _ ⟨trivial, ?_⟩
                          clear hK
                          (try simp only [Rg4.nrm])
                          (refine Rg4.w4_any (Rg4.want_none rfl) rfl ?_; apply Exists.intro; refine ⟨fun w' => ?_, ?_⟩; (focus (first | (go_simp; done) | (go_simp; first | rfl | (rw [if_neg] <;> first | rfl | omega) | (rw [if_pos] <;> first | rfl | omega)))); (try simp only [Rg4.nrm]))
                          refine Rg4.w4_nil (fun w' hw' hcl' _ => ?_); subst hw'; clear hcl'
                          (try simp only [nsl, Value.cells, unB] at st)
                          (try clear hc); have hc := st.facts; (try simp only [nfl, nft, Nat.reduceAdd] at hc)
                          go_wp2_with fail
                          obtain ⟨B0, hB0⟩ : ∃ B0, w.heap.size = B0 := ⟨_, rfl⟩
                          have hB : (World.drew w).heap.size = B0 := hB0
                          clear hB0
                          refine Rg4.wp_region4 (Rel := Ext) #[0, 0, 0, 6, 0, 16, 62, 126, 255, 511]
                            [(1, ⟨fun v w => ∃ b, v = .slice (some ⟨b, 0, none⟩) 0 0 ∧ w.ownsRow B0 23 2 (.slice (some ⟨b, 0, none⟩) 0 0) 0 [] , fun _ _ _ hx ⟨b, h1, h2⟩ => ⟨b, h1, own_ext h2 hx⟩⟩), (3, ⟨fun v w => ∃ va vc, v = .slice va yn vc ∧ w.ownsRow B0 23 2 (.slice va yn vc) yn (cellsL yx) , fun _ _ _ hx ⟨va, vc, h1, h2⟩ => ⟨va, vc, h1, own_ext h2 hx⟩⟩), (5, ⟨fun v w => ∃ b, v = .slice (some ⟨b, 0, none⟩) 1 1 ∧ Blk w b [.string ⟨o.toArray⟩, .string ⟨d.toArray⟩] , fun _ _ _ hx ⟨b, h1, h2⟩ => ⟨b, h1, h2.ext hx⟩⟩)] [6, 7, 8] [4] (fun _ => True) [0, 1, 2, 3, 4, 5, 6, 7, 8, 9] (by kernel_rfl) (by kernel_rfl) (by kernel_rfl) (by kernel_rfl) Ext.refl (fun _ _ _ => Ext.trans) (show Rg4.PB _ by repeat (first | with_reducible exact Rg4.pb_body | with_reducible exact Rg4.pb_bodyD rfl | with_reducible refine Rg4.pb_then ?_ | with_reducible refine Rg4.pb_inBlock ?_ | with_reducible refine Rg4.pb_noGoto ?_)) (trivial) ?_
                          replace st := st.drew
                          change Rg4.wp4 _ _ _ _ _ _ _ _ _ (World.drew _) _ _
                          generalize World.drew _ = w at hB st ⊢
                          (try clear hc); have hc := st.facts; (try simp only [nfl, nft, Nat.reduceAdd] at hc)
                          (refine Rg4.w4_any (Rg4.want_none rfl) rfl ?_; apply Exists.intro; refine ⟨fun w' => ?_, ?_⟩; (focus (first | (go_simp; done) | (go_simp; first | rfl | (rw [if_neg] <;> first | rfl | omega) | (rw [if_pos] <;> first | rfl | omega)))); (try simp only [Rg4.nrm]))
                          refine Rg4.w4_some (Rg4.want_none rfl) rfl (fun w' hw' hcl' _ => ?_) ?_
                          · refine Rg.relAt_value (v := .slice (some ⟨w'.heap.size, 0, none⟩) 0 0) (w' := w'.alloc (.cells #[] 23)) ?_ ⟨Ext.new _ _, trivial, _, rfl, empty_row (by rw [← hB]; exact hw'.le) _ _⟩
                            go_simp
                          rintro v ⟨_, _, _, b67, rfl, _⟩
                          (try simp only [Rg4.nrm])
                          (refine Rg4.w4_any (Rg4.want_none rfl) rfl ?_; apply Exists.intro; refine ⟨fun w' => ?_, ?_⟩; (focus (first | (go_simp; done) | (go_simp; first | rfl | (rw [if_neg] <;> first | rfl | omega) | (rw [if_pos] <;> first | rfl | omega)))); (try simp only [Rg4.nrm]))
                          refine Rg4.w4_some (Rg4.want_none rfl) rfl (fun w' hw' hcl' hP => ?_) ?_
                          · have h0 : w'.ownsRow B0 23 2 (.slice (some ⟨b67, 0, none⟩) 0 0) 0 [] := by
                              obtain ⟨b, h1, h2⟩ := (hP 1 (by kernel_rfl)).2 rfl
                              cases h1
                              exact h2
                            have st' := st.ext hw'
                            obtain ⟨inf, hinf, hz0, hz1, hz2⟩ := roleInfo
                            obtain ⟨v2, w2, hr, hrow, hx⟩ := append_fresh (P := Tryz.prog) (w := w') (B0 := B0) (m := yn) (c := yc) (news := cellsL yx) (by rw [← hB]; exact hw'.le) (t := 27) (ty := 27) Tryz.underlying27 hinf hz0 hz1 hz2 rfl (by decide) h0 ((st'.rss (i := 3) get3 _ HYP.out).2.flat) (st'.rss (i := 3) get3 _ HYP.out).1.1 (by simp only [maxLen]; omega) (by omega)
                            obtain ⟨va, vc, rfl⟩ := own_slice hrow
                            exact Rg.relAt_value (append_exec rfl rfl rfl hr) ⟨hx, trivial, va, vc, rfl, hrow⟩
                          rintro v ⟨_, _, _, va9, vc9, rfl, _⟩
                          (try simp only [Rg4.nrm])
                          (refine Rg4.w4_read (Rg4.want_none rfl) rfl rfl ?_; apply Exists.intro; refine ⟨fun w' hw' hcl' => ?_, ?_⟩; focus (have st' := st.ext hw'; have hc' := st'.facts; (try simp only [nfl, nft, Nat.reduceAdd] at hc'); (focus (first | (go_simp; done) | (go_simp; first | rfl | (rw [if_neg] <;> first | rfl | omega) | (rw [if_pos] <;> first | rfl | omega))))); (try simp only [Rg4.nrm]))
                          refine Rg4.w4_some (Rg4.want_none rfl) rfl (fun w' hw' hcl' _ => ?_) ?_
                          · refine Rg.relAt_value (v := .slice (some ⟨w'.heap.size, 0, none⟩) 1 1) (w' := w'.alloc (.cells #[.string ⟨o.toArray⟩, .string ⟨d.toArray⟩] 23)) ?_ ⟨Ext.new _ _, trivial, _, rfl, Blk.new _ _ _⟩
                            go_simp
                          rintro v ⟨_, _, _, b71, rfl, _⟩
                          (try simp only [Rg4.nrm])

                          refine Rg4.w4_bar (Rg4.want_none rfl) rfl (fun w' hw' hcl hF K hK => ?_)
                          obtain ⟨va, vc, hv, hrow⟩ := (hF 3).1.2 rfl
                          cases hv
                          obtain ⟨b, hv, hblk⟩ := (hF 5).2 rfl
                          cases hv
                          rw [← hB] at hrow
                          replace st := st.newRow hw' hrow
                          clear hF hrow hw' hB
                          (try simp only [nsl, Value.cells, unB] at st)
                          (try clear hc); have hc := st.facts; (try simp only [nfl, nft, Nat.reduceAdd] at hc)
                          obtain ⟨inf, hinf, hz0, hz1, hz2⟩ := roleInfo
                          refine owp_append rfl st 7 get7 Tryz.underlying27 hinf hz0 hz1 hz2 rfl (by decide) rfl rfl (hblk.flat rfl) (by simp [Value.oneCell']) (by simp only [maxLen]; omega) (by omega) ?_
                          clear hinf hz0 hz1 hz2 inf hblk
                          clear st
                          intro v' w st
                          obtain ⟨va2, vc2, rfl⟩ := own_slice (st.row (i := 7) get7)
                          (try simp only [nsl, Value.cells, unB] at st)
                          (try clear hc); have hc := st.facts; (try simp only [nfl, nft, Nat.reduceAdd] at hc)
                          refine hK _ _ ⟨trivial, ?_⟩
                          clear hK
                          (try simp only [Rg4.nrm])
                          (refine Rg4.w4_bar (Rg4.want_none rfl) rfl (fun w' hw' hcl' _ K hK => ?_); replace st := st.ext hw'; (refine owp_buildSlice (o := ⟨some 73, _, _, _, _, _⟩) rfl st ?_; apply Exists.intro; apply Exists.intro; apply Exists.intro; apply Exists.intro; refine ⟨?_, ?_⟩; (focus (go_simp; (first | done | exact ⟨⟨rfl, rfl⟩, rfl⟩ | rfl))); (clear st; intro b73 w hb st; clear hb); (try simp only [nsl, Value.cells, unB] at st); (try clear hc); have hc := st.facts; (try simp only [nfl, nft, Nat.reduceAdd] at hc)); refine hK _ _ ⟨trivial, ?_⟩; (try simp only [Rg4.nrm]))
                          refine Rg4.w4_bar (Rg4.want_none rfl) rfl (fun w' hw' hcl hF K hK => ?_)
                          replace st := st.ext hw'
                          clear hF hw'
                          obtain ⟨inf, hinf, hz0, hz1, hz2⟩ := rsInfo
                          refine owp_append rfl st 5 get5 Tryz.underlying30 hinf hz0 hz1 hz2 rfl (by decide) rfl rfl ((st.blk (i := 8) get8).flat rfl) (by simp [Value.oneCell']) (by simp only [maxLen]; omega) (by omega) ?_
                          clear hinf hz0 hz1 hz2 inf
                          clear st
                          intro v' w st
                          obtain ⟨na2, nc2, rfl⟩ := own_slice (st.row (i := 5) get5)
                          (try simp only [nsl, Value.cells, unB] at st)
                          (try clear hc); have hc := st.facts; (try simp only [nfl, nft, Nat.reduceAdd] at hc)
                          refine hK _ _ ⟨trivial, ?_⟩
                          clear hK
                          (try simp only [Rg4.nrm])
                          (refine Rg4.w4_any (Rg4.want_none rfl) rfl ?_; apply Exists.intro; refine ⟨fun w' => ?_, ?_⟩; (focus (first | (go_simp; done) | (go_simp; first | rfl | (rw [if_neg] <;> first | rfl | omega) | (rw [if_pos] <;> first | rfl | omega)))); (try simp only [Rg4.nrm]))
                          refine Rg4.w4_nil (fun w' hw' hcl' _ => ?_); replace st := st.ext hw'; clear hw' hcl'; (try clear hc); have hc := st.facts; (try simp only [nfl, nft, Nat.reduceAdd] at hc)
                          have hcc : cellsL yx ++ [.string ⟨o.toArray⟩, .string ⟨d.toArray⟩] = cellsL (yx ++ [(o, d)]) := by rw [cellsL_append]; rfl
                          rw [hcc] at st
                          clear hcc
                          have hcap9 := (st.flRow7 (α := Role) (i := 7) get7).1
                          replace st := st.rowToFl (α := Role) (i := 7) get7
                          simp only [List.set] at st
                          replace st := st.rssMore (i := 3) (j := 7) get3 get7 hcap9
                          simp only [List.cons_append, List.nil_append] at st
                          have st' := st.keep [0, 1, 2, 9, 4, 5] (by decide) (by simp)
                          (try simp only [nsl, Value.cells, unB] at st)
                          (try clear hc); have hc := st.facts; (try simp only [nfl, nft, Nat.reduceAdd] at hc)
                          go_wp2_with fail
                          have HX3 : Hid ((ns2 ++ [(⟨va2, yn + 1, vc2, yx ++ [(o, d)]⟩ : RsT)]).map (·.xs) = ns.map (·.xs) ++ exR (A.take (i2 + 1)) yx) := Lib.hid (by rw [HX2.out, List.map_append, HX.out, List.append_assoc]; rfl)
                          have HP3 : Hid ((∀ x ∈ ys, x ∈ ps2 ++ [(⟨va2, yn + 1, vc2, yx ++ [(o, d)]⟩ : RsT)]) ∧ (∀ x ∈ zs', x ∈ ps2 ++ [(⟨va2, yn + 1, vc2, yx ++ [(o, d)]⟩ : RsT)]) ∧ ∀ x ∈ ns2 ++ [(⟨va2, yn + 1, vc2, yx ++ [(o, d)]⟩ : RsT)], x ∈ ps2 ++ [(⟨va2, yn + 1, vc2, yx ++ [(o, d)]⟩ : RsT)]) := Lib.hid ⟨fun x hx => List.mem_append_left _ (HP2.out.1 x hx), fun x hx => List.mem_append_left _ (HP2.out.2.1 x hx), fun x hx => by
                            rcases List.mem_append.1 hx with q | q
                            · exact List.mem_append_left _ (HP2.out.2.2 x q)
                            · exact List.mem_append_right _ q⟩
                          go_roundg (m - (i2 + 1))
                          case measure => omega
                          case rel => exact ⟨i2 + 1, p2 + 1, _, _, by omega, by omega, by go_num, by omega, HX3, HP3, by rw [cellsL_append, show cellsL [(⟨va2, yn + 1, vc2, yx ++ [(o, d)]⟩ : RsT)] = [.slice va2 (yn + 1) vc2] from rfl]; simpa [pick] using st'⟩
                        | false =>
                          have HX2 := Lib.hid (HNO.out hul)
                          clear hul HYES HNO
                          (try simp only [nsl, Value.cells, unB] at st)
                          (try clear hc); have hc := st.facts; (try simp only [nfl, nft, Nat.reduceAdd] at hc)
                          go_wp2_with fail
                          refine Rg4.wp_region4_eq #[0, 1, 3, 7, 15, 15, 47, 111, 255, 511, 15, 2047, 4095] [11] [9, 10] (fun _ => True) [0, 1, 2, 3, 4, 5, 6, 7, 8, 9, 10, 11, 12] (by kernel_rfl) (by kernel_rfl) (by kernel_rfl) (by kernel_rfl) (show Rg4.PB _ by repeat (first | with_reducible exact Rg4.pb_body | with_reducible exact Rg4.pb_bodyD rfl | with_reducible refine Rg4.pb_then ?_ | with_reducible refine Rg4.pb_inBlock ?_ | with_reducible refine Rg4.pb_noGoto ?_)) (trivial) ?_
                          replace st := st.drew
                          change Rg4.wp4 _ _ _ _ _ _ _ _ _ (World.drew _) _ _
                          generalize World.drew _ = w at st ⊢
                          (try clear hc); have hc := st.facts; (try simp only [nfl, nft, Nat.reduceAdd] at hc)
                          iterate 4 (refine Rg4.w4_any (Rg4.want_none rfl) rfl ?_; apply Exists.intro; refine ⟨fun w' => ?_, ?_⟩; (focus (first | (go_simp; done) | (go_simp; first | rfl | (rw [if_neg] <;> first | rfl | omega) | (rw [if_pos] <;> first | rfl | omega)))); (try simp only [Rg4.nrm]))
                          iterate 5 (first | (refine Rg4.w4_any (Rg4.wt rfl rfl rfl) rfl ?_; apply Exists.intro; refine ⟨fun w' => ?_, ?_⟩; (focus (first | (go_simp; done) | (go_simp; first | rfl | (rw [if_neg] <;> first | rfl | omega) | (rw [if_pos] <;> first | rfl | omega)))); (try simp only [Rg4.nrm])) | (refine Rg4.w4_skip (Rg4.uw rfl rfl rfl) ?_; (try simp only [Rg4.nrm])) | (refine Rg4.w4_skip (Rg4.un rfl rfl rfl) ?_; (try simp only [Rg4.nrm])))
                          iterate 2 (first | (refine Rg4.w4_read (Rg4.wt rfl rfl rfl) rfl rfl ?_; apply Exists.intro; refine ⟨fun w' hw' hcl' => ?_, ?_⟩; focus (subst hw'; have q9 := Fl.roleAt9 (st.rss (i := 3) get3 _ HYP.out).2 HX1.out; have r2 := q9.1; have r3 := q9.2; simp only [S] at r2 r3; (focus (first | (go_simp; done) | (go_simp; first | rfl | (rw [if_neg] <;> first | rfl | omega) | (rw [if_pos] <;> first | rfl | omega))))); (try simp only [Rg4.nrm])) | (refine Rg4.w4_skip (Rg4.uw rfl rfl rfl) ?_; (try simp only [Rg4.nrm])) | (refine Rg4.w4_skip (Rg4.un rfl rfl rfl) ?_; (try simp only [Rg4.nrm])))
                          refine Rg4.w4_bar (Rg4.want_of 3 56 false rfl rfl rfl) rfl (fun w' hw' hcl _ K hK => ?_)
                          subst hw'
                          go_wp2_with fail
                          refine (HLX.out _).mono ?_
                          rintro en w ⟨rfl, hx⟩
                          replace st := st.ext hx
                          clear hx
                          (try clear hc); have hc := st.facts; (try simp only [nfl, nft, Nat.reduceAdd] at hc)
                          refine hK _ _ ⟨trivial, ?_⟩
                          clear hK
                          (try simp only [Rg4.nrm])
                          (refine Rg4.w4_any (Rg4.want_none rfl) rfl ?_; apply Exists.intro; refine ⟨fun w' => ?_, ?_⟩; (focus (first | (go_simp; done) | (go_simp; first | rfl | (rw [if_neg] <;> first | rfl | omega) | (rw [if_pos] <;> first | rfl | omega)))); (try simp only [Rg4.nrm]))
                          refine Rg4.w4_nil (fun w' hw' hcl' _ => ?_); subst hw'; clear hcl'
                          go_wp2_with fail
                          have HX3 : Hid (ns2.map (·.xs) = ns.map (·.xs) ++ exR (A.take (i2 + 1)) yx) := Lib.hid (by rw [HX2.out, HX.out])
                          have st' := st.keep [0, 1, 2, 3, 4, 5] (by decide) (by simp)
                          go_roundg (m - (i2 + 1))
                          case measure => omega
                          case rel => exact ⟨i2 + 1, p2, ns2, ps2, by omega, by omega, by go_num, by omega, HX3, HP2, by simpa [pick] using st'⟩
                    · obtain rfl : i2 = m := by omega
                      have HE2 : Hid ((zs'.map (·.xs), ns2.map (·.xs)) = ((ys.map (·.xs)).take (j + 1)).foldl (lvS g A) (zs.map (·.xs), [])) := Lib.hid (by
                        rw [HSTEP.out]
                        unfold lvS
                        rw [if_neg HCN.out, if_neg HGN.out]
                        rw [HX.out, List.take_of_length_le (by have := HAL.out; omega)])
                      (try simp only [nsl, Value.cells, unB] at st)
                      (try clear hc); have hc := st.facts; (try simp only [nfl, nft, Nat.reduceAdd] at hc)
                      go_wp2_with fail
                      go_roundg (ln - (j + 1))
                      case measure => omega
                      case rel => exact ⟨j + 1, i', p2, zs', ns2, ps2, by omega, by omega, by go_num, by omega, HE2, HP2, st⟩
        · obtain rfl : j = ln := by omega
          have HL1 : Hid (LvO A M (k' + 1) (zs'.map (·.xs), ns.map (·.xs))) := Lib.hid (by
            have h1 := lvO_step HMN.out HO.out
            rw [HE.out]
            rw [List.take_of_length_le (by have := HYN.out; simp; omega)]
            exact h1)
          have HPT2 : Hid ((∀ x ∈ ns, x ∈ ps') ∧ ∀ x ∈ zs', x ∈ ps') := Lib.hid ⟨HPT.out.2.2, HPT.out.2.1⟩
          have HL9 : Hid (p ≤ 8 ^ (k' + 1)) := Lib.hid (by have := HLN.out; rw [Nat.pow_succ]; omega)
          replace st := st.rowToFl (α := RsT) (i := 5) get5
          simp only [List.set] at st
          have st' := st.keep [0, 1, 5, 3, 4] (by decide) (by simp)
          (try simp only [nsl, Value.cells, unB] at st)
          (try clear hc); have hc := st.facts; (try simp only [nfl, nft, Nat.reduceAdd] at hc)
          go_wp2_with fail
          go_roundg (m + 2 - (k' + 1))
          case measure => omega
          case rel => exact ⟨k' + 1, p, _, n', _, ns, zs', ps', by omega, by omega, rfl, HL9, HL1, HPT2, by simpa [pick] using st'⟩
    · obtain rfl : ln = 0 := by omega
      have HEND : Hid (zs.map (·.xs)).Nodup := Lib.hid HO.out.nd
      have hy9 : ys = [] := List.eq_nil_of_length_eq_zero HYN.out.symm
      have HMEM : Hid (∀ z, z ∈ zs.map (·.xs) ↔ z ∈ M) := Lib.hid (by
        have h1 := HO.out
        rw [hy9] at h1
        exact lvO_end h1)
      have HZL : Hid (∀ z ∈ zs, z.xs.length ≤ 8) := Lib.hid (fun z hz => HL8.out _ ((HMEM.out _).1 (List.mem_map_of_mem hz)))
      have hn128 : n ≤ 128 := by
        have h1 := List.Nodup.length_le_of_subset HEND.out (l₂ := M) fun z hz => (HMEM.out z).1 hz
        rw [List.length_map] at h1
        have h2 := (st.rowC4 (α := RsT) (i := 4) get4).1
        have h3 := HM8.out
        omega
      clear hy9
      replace st := st.rssSub (i := 3) (m := zs) get3 HPS.out.2
      replace st := st.rowToFl (α := RsT) (i := 4) get4
      simp only [List.set, List.cons_append, List.nil_append] at st
      have HZN : Hid (∀ z ∈ zs, z.n ≤ 2000000) := Lib.hid (fun z hz => by
        have h1 := (st.rss (i := 5) get5 z hz).2.1
        have h2 := HZL.out z hz
        omega)
      (try simp only [nsl, Value.cells, unB] at st)
      (try clear hc); have hc := st.facts; (try simp only [nfl, nft, Nat.reduceAdd] at hc)
      go_wp2_with fail
      obtain ⟨fr', al', st', back⟩ := st.sub [4, 5] (by decide) (by simp)
      (try simp only [nsl, Value.cells, unB] at st')
      refine (refSetsSorted_c zs st' (by omega) HZN.out).mono ?_
      clear st'
      rintro en w ⟨va, vm, vc, out, rfl, ⟨hq, hq1, hq2⟩, st'⟩
      replace st := back _ _ (by simp) st'
      clear back st'
      (try simp only [nsl, Value.cells, unB] at st)
      (try clear hc); have hc := st.facts; (try simp only [nfl, nft, Nat.reduceAdd] at hc)
      have HQ : Hid (out.map (·.xs) = M) := Lib.hid (HZ.out _ _ HEND.out HMEM.out hq.1.1 hq.1.2)
      have HC9 : Hid (vm ≤ vc ∧ vc ≤ maxLen) := Lib.hid ⟨hq1, hq2⟩
      clear hq hq1 hq2
      go_wp2_with fail
      go_ret
      have st2 := st.keep [6, 7] (by decide) (by simp)
      simp only [pick, List.map_cons, List.map_nil, List.getElem?_cons_zero, List.getElem?_cons_succ, Option.getD_some] at st2
      exact ⟨va, vm, vc, out, rfl, HC9.out, HQ.out, st2⟩
end Go.Proofs.YtcihjohgmhebiaaGreat

namespace Go.Proofs.YtcihjohgmhebiaaGreat
set_option linter.unusedSimpArgs false
set_option linter.unusedVariables false
open Go Go.RowKit
theorem FoL.mono {b b' : Nat} (hb : b ≤ b') {f : Fo} (h : FoL b f) : FoL b' f := by
  induction h with
  | mk h1 h2 _ ih => exact .mk (Nat.le_trans h1 hb) (Nat.le_trans h2 hb) ih
def foA : Fo := .mk 1 0 ([97], [114]) []
def foB : Fo := .mk 1 0 ([98], [114]) []
theorem fo0_R : foR (.mk 0 0 ([], []) []) = false := by decide +kernel
theorem L_fo {b : Nat} {op k : Int} {o d : List UInt8} {kids : List Fo} (h1 : o.length ≤ b) (h2 : d.length ≤ b) (hk : ∀ x ∈ kids, FoL b x) : FoL b (.mk op k (o, d) kids) := .mk h1 h2 hk
theorem foA_L : FoL 100000 foA := L_fo (by decide) (by decide) (by simp)
theorem foB_L : FoL 100000 foB := L_fo (by decide) (by decide) (by simp)
theorem ok_leaf (W : World) (op k : Int) (r : Role) : FmOk W (.mk op k r none 0 0 []) := FmIn.mk ⟨Nat.le_refl _, by simp [maxLen]⟩ (Fl.nil _ _) (fun h => by omega) (by simp)
def fmA : Fm := .mk 1 0 ([97], [114]) none 0 0 []
def fmB : Fm := .mk 1 0 ([98], [114]) none 0 0 []
end Go.Proofs.YtcihjohgmhebiaaGreat

namespace Go.Proofs.YtcihjohgmhebiaaGreat
set_option linter.unusedSimpArgs false
set_option linter.unusedVariables false
open Go Go.RowKit
set_option maxRecDepth 100000 in
set_option maxHeartbeats 2000000 in
theorem refNodes_any (f : Fm) : ∀ (W : World), FmOk W f → f.strip.nodes ≤ 1000000000 →
    Calls Tryz.prog 32 #[fmV f] W fun e w' => e = .returned (.int .i64 (f.strip.nodes : Int)) ∧ Ext W w' := by
  induction f using Fm.ind
  rename_i op k r a n c kids ih
  intro W hok hs
  obtain ⟨o, d⟩ := r
  rw [strip_mk] at *
  have HN : Hid (n = kids.length) := Lib.hid hok.fl.1
  have HOK := Lib.hid hok
  have HI := Lib.hid ih
  rw [Fo.nodes] at *
  have HS : Hid (1 + nodesL (kids.map Fm.strip) ≤ 1000000000) := Lib.hid hs
  have hn : n ≤ 1000000000 := by have := nodesL_len (kids.map Fm.strip); rw [List.length_map] at this; have := hok.fl.1; omega
  clear hok ih hs
  have st := Own.startOld W
  unfold fmV S
  simp only
  (try simp only [nsl, Value.cells, unB] at st)
  (try clear hc); have hc := st.facts; (try simp only [nfl, nft, Nat.reduceAdd] at hc)
  go_enter Tryz.func32, Tryz.ntmps32
  go_wp2_with ((first
        | ((with_reducible refine wl_box ?_ (fun K hK => ?_)); rfl; refine owp_box (o := ⟨some 1, _, _, _, _, _⟩) rfl st ?_; apply Exists.intro; refine ⟨?_, ?_⟩; (focus (go_simp; try rfl)); (clear st; intro b1 w hb st; clear hb))
        | ((with_reducible refine wl_alloc ?_ (fun K hK => ?_)); rfl; refine owp_alloc (o := ⟨some 5, _, _, _, _, _⟩) rfl st ?_; apply Exists.intro; apply Exists.intro; refine ⟨?_, ?_⟩; (focus (first | (go_simp; done) | (go_simp; rfl))); (clear st; intro b5 w hb st; clear hb))
        | ((with_reducible refine wl_store ?_ (fun K hK => ?_)); rfl; refine owp_store rfl st ?_; apply Exists.intro; apply Exists.intro; refine ⟨?_, ?_, ?_⟩; (focus (go_simp; try rfl)); (focus (go_simp; try rfl)); (first | (with_reducible refine ⟨0, _, _, _, _, get0, rfl, rfl, ?_, ?_, ?_, ?_⟩) | (with_reducible refine ⟨1, _, _, _, _, get1, rfl, rfl, ?_, ?_, ?_, ?_⟩) | (with_reducible refine ⟨2, _, _, _, _, get2, rfl, rfl, ?_, ?_, ?_, ?_⟩) | (with_reducible refine ⟨3, _, _, _, _, get3, rfl, rfl, ?_, ?_, ?_, ?_⟩)); (kernel_rfl); (simp [Value.cells]); (rfl); (clear st; intro w st))); (try simp only [nsl, Value.cells, unB] at st); (try clear hc); have hc := st.facts; (try simp only [nfl, nft, Nat.reduceAdd] at hc))
  go_loopg [3, 9] n (fun q s i wr => ∃ (j g : Nat), j ≤ n ∧ q = n - j ∧ s = .int .i64 (g : Int) ∧ i = .int .i64 (j : Int) ∧ g ≤ 1000000000 ∧ Hid (g = 1 + nodesL ((kids.take j).map Fm.strip)) ∧ Own (fun _ => False) (fun _ => True) W [oldI W, blkI b1 [.int .i64 op, .int .i64 k, .string ⟨o.toArray⟩, .string ⟨d.toArray⟩, .slice a n c]] wr)
  case atStart => exact ⟨0, 1, by omega, by omega, rfl, rfl, by omega, Lib.hid (by simp [nodesL]), st⟩
  case round =>
    obtain ⟨j, g, hj, rfl, rfl, rfl, hg, HG, st'⟩ := hrel
    clear st hc
    have st := st'
    clear st'
    by_cases hjn : j < n
    · obtain ⟨b, off, ha, hcell⟩ := (st.oldFl (i := 0) get0 HOK.out.fl).fm (by omega)
      have hjl : j < kids.length := by have := HN.out; omega
      have hsn := map_snoc_strip kids j hjl
      have hle := nodesL_take (kids.map Fm.strip) (j + 1)
      rw [← List.map_take, hsn, nodesL_snoc] at hle
      have hsv := HS.out
      have hok := HOK.out.kids _ (List.getElem_mem hjl)
      have hih := HI.out _ (List.getElem_mem hjl)
      have hgt := List.getElem?_eq_getElem hjl
      generalize kids[j] = x at *
      obtain ⟨m, hm⟩ : ∃ v, x.strip.nodes = v := ⟨_, rfl⟩
      have HC := Lib.hid (fun W' (hx : Ext W W') => hih W' (hok.ext hx) (by omega))
      rw [hm] at HC hle
      have hgm : g + m ≤ 1000000000 := by have := HG.out; omega
      have HG2 : Hid (g + m = 1 + nodesL ((kids.take (j + 1)).map Fm.strip)) := Lib.hid (by rw [hsn, nodesL_snoc, HG.out, hm]; omega)
      clear hsn hle hsv hih hjl hok hm
      obtain ⟨op', k', ⟨o', d'⟩, a', n', c', kids'⟩ := x
      obtain ⟨r0, r1, r2, r3, r4⟩ := hcell j op' k' (o', d') a' n' c' kids' hgt
      unfold fmV S at HC
      simp only at HC
      clear hcell hgt
      subst ha
      unfold S at r2 r3
      simp only at r2 r3
      have z1 : IntKind.i64.wrap ((g : Int) + (m : Int)) = ((g + m : Nat) : Int) := by rw [IntWalk.i64_in _ ⟨by omega, by omega⟩]; omega
      (try simp only [nsl, Value.cells, unB] at st)
      (try clear hc); have hc := st.facts; (try simp only [nfl, nft, Nat.reduceAdd] at hc)
      go_wp2_with ((first
            | ((with_reducible refine wl_box ?_ (fun K hK => ?_)); rfl; refine owp_box (o := ⟨some 1, _, _, _, _, _⟩) rfl st ?_; apply Exists.intro; refine ⟨?_, ?_⟩; (focus (go_simp; try rfl)); (clear st; intro b1 w hb st; clear hb))
            | ((with_reducible refine wl_alloc ?_ (fun K hK => ?_)); rfl; refine owp_alloc (o := ⟨some 5, _, _, _, _, _⟩) rfl st ?_; apply Exists.intro; apply Exists.intro; refine ⟨?_, ?_⟩; (focus (first | (go_simp; done) | (go_simp; rfl))); (clear st; intro b5 w hb st; clear hb))
            | ((with_reducible refine wl_store ?_ (fun K hK => ?_)); rfl; refine owp_store rfl st ?_; apply Exists.intro; apply Exists.intro; refine ⟨?_, ?_, ?_⟩; (focus (go_simp; try rfl)); (focus (go_simp; try rfl)); (first | (with_reducible refine ⟨0, _, _, _, _, get0, rfl, rfl, ?_, ?_, ?_, ?_⟩) | (with_reducible refine ⟨1, _, _, _, _, get1, rfl, rfl, ?_, ?_, ?_, ?_⟩) | (with_reducible refine ⟨2, _, _, _, _, get2, rfl, rfl, ?_, ?_, ?_, ?_⟩) | (with_reducible refine ⟨3, _, _, _, _, get3, rfl, rfl, ?_, ?_, ?_, ?_⟩)); (kernel_rfl); (simp [Value.cells]); (rfl); (clear st; intro w st))); (try simp only [nsl, Value.cells, unB] at st); (try clear hc); have hc := st.facts; (try simp only [nfl, nft, Nat.reduceAdd] at hc))
      clear r0 r1 r2 r3 r4
      refine (HC.out _ st.ext0).mono ?_
      rintro en w ⟨rfl, hx⟩
      replace st := st.ext hx
      clear hx
      (try simp only [nsl, Value.cells, unB] at st)
      (try clear hc); have hc := st.facts; (try simp only [nfl, nft, Nat.reduceAdd] at hc)
      go_wp2_with fail
      have st' := st.keep [0, 1] (by decide) (by simp)
      go_roundg (n - (j + 1))
      case measure => omega
      case rel => exact ⟨j + 1, g + m, by omega, rfl, by go_num, by go_num, hgm, HG2, by simpa [pick] using st'⟩
    · obtain rfl : n = j := by omega
      have HE : Hid (1 + nodesL (kids.map Fm.strip) = g) := Lib.hid (by rw [HG.out, List.take_of_length_le (by have := HN.out; omega)])
      (try simp only [nsl, Value.cells, unB] at st)
      (try clear hc); have hc := st.facts; (try simp only [nfl, nft, Nat.reduceAdd] at hc)
      go_wp2_with fail
      go_ret
      exact ⟨by rw [HE.out] <;> rfl, st.ext0⟩
set_option maxRecDepth 100000 in
set_option maxHeartbeats 2000000 in
theorem refDeep_any (f : Fm) : ∀ (W : World), FmOk W f → f.strip.nodes ≤ 1000000000 →
    Calls Tryz.prog 33 #[fmV f] W fun e w' => e = .returned (.int .i64 (f.strip.deep : Int)) ∧ Ext W w' := by
  induction f using Fm.ind
  rename_i op k r a n c kids ih
  intro W hok hs
  obtain ⟨o, d⟩ := r
  rw [strip_mk] at *
  have HN : Hid (n = kids.length) := Lib.hid hok.fl.1
  have HOK := Lib.hid hok
  have HI := Lib.hid ih
  have hdn := deep_nodes (Fo.mk op k (o, d) (kids.map Fm.strip))
  rw [Fo.nodes] at *
  rw [Fo.deep] at *
  have HS : Hid (1 + nodesL (kids.map Fm.strip) ≤ 1000000000 ∧ deepL (kids.map Fm.strip) ≤ 1000000000) := Lib.hid (by omega)
  have hn : n ≤ 1000000000 := by have := nodesL_len (kids.map Fm.strip); rw [List.length_map] at this; have := hok.fl.1; omega
  clear hok ih hs hdn
  have st := Own.startOld W
  unfold fmV S
  simp only
  (try simp only [nsl, Value.cells, unB] at st)
  (try clear hc); have hc := st.facts; (try simp only [nfl, nft, Nat.reduceAdd] at hc)
  go_enter Tryz.func33, Tryz.ntmps33
  go_wp2_with ((first
        | ((with_reducible refine wl_box ?_ (fun K hK => ?_)); rfl; refine owp_box (o := ⟨some 1, _, _, _, _, _⟩) rfl st ?_; apply Exists.intro; refine ⟨?_, ?_⟩; (focus (go_simp; try rfl)); (clear st; intro b1 w hb st; clear hb))
        | ((with_reducible refine wl_alloc ?_ (fun K hK => ?_)); rfl; refine owp_alloc (o := ⟨some 5, _, _, _, _, _⟩) rfl st ?_; apply Exists.intro; apply Exists.intro; refine ⟨?_, ?_⟩; (focus (first | (go_simp; done) | (go_simp; rfl))); (clear st; intro b5 w hb st; clear hb))
        | ((with_reducible refine wl_store ?_ (fun K hK => ?_)); rfl; refine owp_store rfl st ?_; apply Exists.intro; apply Exists.intro; refine ⟨?_, ?_, ?_⟩; (focus (go_simp; try rfl)); (focus (go_simp; try rfl)); (first | (with_reducible refine ⟨0, _, _, _, _, get0, rfl, rfl, ?_, ?_, ?_, ?_⟩) | (with_reducible refine ⟨1, _, _, _, _, get1, rfl, rfl, ?_, ?_, ?_, ?_⟩) | (with_reducible refine ⟨2, _, _, _, _, get2, rfl, rfl, ?_, ?_, ?_, ?_⟩) | (with_reducible refine ⟨3, _, _, _, _, get3, rfl, rfl, ?_, ?_, ?_, ?_⟩)); (kernel_rfl); (simp [Value.cells]); (rfl); (clear st; intro w st))); (try simp only [nsl, Value.cells, unB] at st); (try clear hc); have hc := st.facts; (try simp only [nfl, nft, Nat.reduceAdd] at hc))
  go_loopg [3, 9] n (fun q s i wr => ∃ (j g : Nat), j ≤ n ∧ q = n - j ∧ s = .int .i64 (g : Int) ∧ i = .int .i64 (j : Int) ∧ g ≤ 1000000000 ∧ Hid (g = deepL ((kids.take j).map Fm.strip)) ∧ Own (fun _ => False) (fun _ => True) W [oldI W, blkI b1 [.int .i64 op, .int .i64 k, .string ⟨o.toArray⟩, .string ⟨d.toArray⟩, .slice a n c]] wr)
  case atStart => exact ⟨0, 0, by omega, by omega, rfl, rfl, by omega, Lib.hid (by simp [deepL]), st⟩
  case round =>
    obtain ⟨j, g, hj, rfl, rfl, rfl, hg, HG, st'⟩ := hrel
    clear st hc
    have st := st'
    clear st'
    by_cases hjn : j < n
    · obtain ⟨b, off, ha, hcell⟩ := (st.oldFl (i := 0) get0 HOK.out.fl).fm (by omega)
      have hjl : j < kids.length := by have := HN.out; omega
      have hsn := map_snoc_strip kids j hjl
      have hle := nodesL_take (kids.map Fm.strip) (j + 1)
      have hld := deepL_take (kids.map Fm.strip) (j + 1)
      rw [← List.map_take, hsn, nodesL_snoc] at hle
      rw [← List.map_take, hsn, deepL_snoc] at hld
      have hsv := HS.out
      have hok := HOK.out.kids _ (List.getElem_mem hjl)
      have hih := HI.out _ (List.getElem_mem hjl)
      have hgt := List.getElem?_eq_getElem hjl
      generalize kids[j] = x at *
      have HC := Lib.hid (fun W' (hx : Ext W W') => hih W' (hok.ext hx) (by omega))
      obtain ⟨m, hm⟩ : ∃ v, x.strip.deep = v := ⟨_, rfl⟩
      rw [hm] at HC hld
      have hgm : max g m ≤ 1000000000 := by have := HG.out; omega
      have HG2 : Hid (max g m = deepL ((kids.take (j + 1)).map Fm.strip)) := Lib.hid (by rw [hsn, deepL_snoc, ← HG.out, hm])
      clear hsn hle hld hsv hih hjl hok hm
      obtain ⟨op', k', ⟨o', d'⟩, a', n', c', kids'⟩ := x
      obtain ⟨r0, r1, r2, r3, r4⟩ := hcell j op' k' (o', d') a' n' c' kids' hgt
      unfold fmV S at HC
      simp only at HC
      clear hcell hgt
      subst ha
      unfold S at r2 r3
      simp only at r2 r3
      (try simp only [nsl, Value.cells, unB] at st)
      (try clear hc); have hc := st.facts; (try simp only [nfl, nft, Nat.reduceAdd] at hc)
      go_wp2_with ((first
            | ((with_reducible refine wl_box ?_ (fun K hK => ?_)); rfl; refine owp_box (o := ⟨some 1, _, _, _, _, _⟩) rfl st ?_; apply Exists.intro; refine ⟨?_, ?_⟩; (focus (go_simp; try rfl)); (clear st; intro b1 w hb st; clear hb))
            | ((with_reducible refine wl_alloc ?_ (fun K hK => ?_)); rfl; refine owp_alloc (o := ⟨some 5, _, _, _, _, _⟩) rfl st ?_; apply Exists.intro; apply Exists.intro; refine ⟨?_, ?_⟩; (focus (first | (go_simp; done) | (go_simp; rfl))); (clear st; intro b5 w hb st; clear hb))
            | ((with_reducible refine wl_store ?_ (fun K hK => ?_)); rfl; refine owp_store rfl st ?_; apply Exists.intro; apply Exists.intro; refine ⟨?_, ?_, ?_⟩; (focus (go_simp; try rfl)); (focus (go_simp; try rfl)); (first | (with_reducible refine ⟨0, _, _, _, _, get0, rfl, rfl, ?_, ?_, ?_, ?_⟩) | (with_reducible refine ⟨1, _, _, _, _, get1, rfl, rfl, ?_, ?_, ?_, ?_⟩) | (with_reducible refine ⟨2, _, _, _, _, get2, rfl, rfl, ?_, ?_, ?_, ?_⟩) | (with_reducible refine ⟨3, _, _, _, _, get3, rfl, rfl, ?_, ?_, ?_, ?_⟩)); (kernel_rfl); (simp [Value.cells]); (rfl); (clear st; intro w st))); (try simp only [nsl, Value.cells, unB] at st); (try clear hc); have hc := st.facts; (try simp only [nfl, nft, Nat.reduceAdd] at hc))
      clear r0 r1 r2 r3 r4
      refine (HC.out _ st.ext0).mono ?_
      rintro en w ⟨rfl, hx⟩
      replace st := st.ext hx
      clear hx
      obtain ⟨mx, hmx⟩ : ∃ v, max g m = v := ⟨_, rfl⟩
      rw [hmx] at hgm HG2
      by_cases hgm2 : g < m
      · have hgi : (g : Int) < (m : Int) := by omega
        have hgi2 : ¬ (m : Int) ≤ (g : Int) := by omega
        obtain rfl : mx = m := by omega
        clear hgm2
        (try simp only [nsl, Value.cells, unB] at st)
        (try clear hc); have hc := st.facts; (try simp only [nfl, nft, Nat.reduceAdd] at hc)
        go_wp2_with fail
        have st' := st.keep [0, 1] (by decide) (by simp)
        go_roundg (n - (j + 1))
        case measure => omega
        case rel => exact ⟨j + 1, mx, by omega, rfl, by go_num, by go_num, hgm, HG2, by simpa [pick] using st'⟩
      · have hgi : ¬ (g : Int) < (m : Int) := by omega
        have hgi2 : (m : Int) ≤ (g : Int) := by omega
        obtain rfl : mx = g := by omega
        clear hgm2
        (try simp only [nsl, Value.cells, unB] at st)
        (try clear hc); have hc := st.facts; (try simp only [nfl, nft, Nat.reduceAdd] at hc)
        go_wp2_with fail
        have st' := st.keep [0, 1] (by decide) (by simp)
        go_roundg (n - (j + 1))
        case measure => omega
        case rel => exact ⟨j + 1, mx, by omega, rfl, by go_num, by go_num, hgm, HG2, by simpa [pick] using st'⟩
    · obtain rfl : n = j := by omega
      have HE : Hid (deepL (kids.map Fm.strip) = g) := Lib.hid (by rw [HG.out, List.take_of_length_le (by have := HN.out; omega)])
      have z1 : IntKind.i64.wrap ((g : Int) + 1) = ((g + 1 : Nat) : Int) := by rw [IntWalk.i64_in _ ⟨by omega, by omega⟩]; omega
      (try simp only [nsl, Value.cells, unB] at st)
      (try clear hc); have hc := st.facts; (try simp only [nfl, nft, Nat.reduceAdd] at hc)
      go_wp2_with fail
      go_ret
      exact ⟨by rw [HE.out] <;> rfl, st.ext0⟩
end Go.Proofs.YtcihjohgmhebiaaGreat

namespace Go.Proofs.YtcihjohgmhebiaaGreat
set_option linter.unusedSimpArgs false
set_option linter.unusedVariables false
open Go Go.RowKit
set_option maxRecDepth 100000 in
set_option maxHeartbeats 4000000 in
theorem refWell_any (f : Fm) : ∀ (W : World), FmOk W f → FoL 100000 f.strip →
    Calls Tryz.prog 34 #[fmV f] W fun e w' => e = .returned (.bool f.strip.well) ∧ Ext W w' := by
  induction f using Fm.ind
  rename_i op k r a n c kids ih
  intro W hok hl
  obtain ⟨o, d⟩ := r
  rw [strip_mk] at *
  have HRo := Lib.hid (fun W => refRoleRight_any (o, d) W (by have := hl.role.1; simp only at this ⊢; omega) (by have := hl.role.2; simp only at this ⊢; omega))
  unfold rV S at HRo
  simp only at HRo
  have HN : Hid (n = kids.length) := Lib.hid hok.fl.1
  have HOK := Lib.hid hok
  have HI := Lib.hid (fun x hx W h => ih x hx W h (hl.kids x.strip (List.mem_map_of_mem hx)))
  have HV : Hid ((Fo.mk op k (o, d) (kids.map Fm.strip)).well = (nodeR op k (o, d) n && decide (n ≤ 8) && wellL (kids.map Fm.strip))) := Lib.hid (by rw [Fo.well, List.length_map, ← HN.out])
  have HA : Hid (wellL (kids.map Fm.strip) = kids.all fun x => x.strip.well) := Lib.hid (by rw [wellL_all, List.all_map]; rfl)
  have HE0 : Hid (n = 0 → wellL (kids.map Fm.strip) = true) := Lib.hid (fun h => by rw [List.eq_nil_of_length_eq_zero (HN.out.symm.trans h)]; rfl)
  obtain ⟨v, hv⟩ : ∃ v, (Fo.mk op k (o, d) (kids.map Fm.strip)).well = v := ⟨_, rfl⟩
  rw [hv] at HV ⊢
  have HNR : Hid (nodeR op k (o, d) n = (if op = 1 then roleR (o, d) && decide (n = 0) && decide (k = 0) else if op = 2 ∨ op = 3 then roleEq (o, d) ([], []) && decide (k = 0) else decide (op = 4) && roleEq (o, d) ([], []) && decide (0 ≤ k) && decide (k ≤ (n : Int)) && decide (1 ≤ n))) := Lib.hid (by unfold nodeR roleEq; rfl)
  generalize wellL (kids.map Fm.strip) = wv at *
  generalize nodeR op k (o, d) n = nr at *
  obtain ⟨e, he⟩ : ∃ v, roleEq (o, d) ([], []) = v := ⟨_, rfl⟩
  have heq := eqRole o d [] []
  rw [he] at HNR heq
  clear he hv hok ih hl
  have st := Own.startOld W
  unfold fmV S
  simp only
  (try simp only [nsl, Value.cells, unB] at st)
  (try clear hc); have hc := st.facts; (try simp only [nfl, nft, Nat.reduceAdd] at hc)
  go_enter Tryz.func34, Tryz.ntmps34
  by_cases o1 : op = 1
  · subst o1
    have HV2 : Hid (v = (roleR (o, d) && decide (n = 0) && decide (k = 0))) := Lib.hid (by
      rw [HV.out, HNR.out, if_pos rfl]
      by_cases q : n = 0
      · rw [HE0.out q]; simp [q]
      · simp [q])
    clear HV HNR heq HA HE0 HI
    have b1 : ((1 : Int) == 1) = true := rfl
    go_wp2_with ((first
          | ((with_reducible refine wl_box ?_ (fun K hK => ?_)); rfl; refine owp_box (o := ⟨some 1, _, _, _, _, _⟩) rfl st ?_; apply Exists.intro; refine ⟨?_, ?_⟩; (focus (go_simp; try rfl)); (clear st; intro b1 w hb st; clear hb))
          | ((with_reducible refine wl_alloc ?_ (fun K hK => ?_)); rfl; refine owp_alloc (o := ⟨some 5, _, _, _, _, _⟩) rfl st ?_; apply Exists.intro; apply Exists.intro; refine ⟨?_, ?_⟩; (focus (first | (go_simp; done) | (go_simp; rfl))); (clear st; intro b5 w hb st; clear hb))
          | ((with_reducible refine wl_store ?_ (fun K hK => ?_)); rfl; refine owp_store rfl st ?_; apply Exists.intro; apply Exists.intro; refine ⟨?_, ?_, ?_⟩; (focus (go_simp; try rfl)); (focus (go_simp; try rfl)); (first | (with_reducible refine ⟨0, _, _, _, _, get0, rfl, rfl, ?_, ?_, ?_, ?_⟩) | (with_reducible refine ⟨1, _, _, _, _, get1, rfl, rfl, ?_, ?_, ?_, ?_⟩) | (with_reducible refine ⟨2, _, _, _, _, get2, rfl, rfl, ?_, ?_, ?_, ?_⟩) | (with_reducible refine ⟨3, _, _, _, _, get3, rfl, rfl, ?_, ?_, ?_, ?_⟩)); (kernel_rfl); (simp [Value.cells]); (rfl); (clear st; intro w st))); (try simp only [nsl, Value.cells, unB] at st); (try clear hc); have hc := st.facts; (try simp only [nfl, nft, Nat.reduceAdd] at hc))
    refine (HRo.out _).mono ?_
    rintro en w ⟨rfl, hx⟩
    replace st := st.ext hx
    clear hx
    (try clear hc); have hc := st.facts; (try simp only [nfl, nft, Nat.reduceAdd] at hc)
    cases hr : roleR (o, d) with
    | false =>
      have H : Hid (v = false) := Lib.hid (by rw [HV2.out, hr]; rfl)
      clear hr
      (try simp only [nsl, Value.cells, unB] at st)
      (try clear hc); have hc := st.facts; (try simp only [nfl, nft, Nat.reduceAdd] at hc)
      go_wp2_with ((first
            | ((with_reducible refine wl_box ?_ (fun K hK => ?_)); rfl; refine owp_box (o := ⟨some 1, _, _, _, _, _⟩) rfl st ?_; apply Exists.intro; refine ⟨?_, ?_⟩; (focus (go_simp; try rfl)); (clear st; intro b1 w hb st; clear hb))
            | ((with_reducible refine wl_alloc ?_ (fun K hK => ?_)); rfl; refine owp_alloc (o := ⟨some 5, _, _, _, _, _⟩) rfl st ?_; apply Exists.intro; apply Exists.intro; refine ⟨?_, ?_⟩; (focus (first | (go_simp; done) | (go_simp; rfl))); (clear st; intro b5 w hb st; clear hb))
            | ((with_reducible refine wl_store ?_ (fun K hK => ?_)); rfl; refine owp_store rfl st ?_; apply Exists.intro; apply Exists.intro; refine ⟨?_, ?_, ?_⟩; (focus (go_simp; try rfl)); (focus (go_simp; try rfl)); (first | (with_reducible refine ⟨0, _, _, _, _, get0, rfl, rfl, ?_, ?_, ?_, ?_⟩) | (with_reducible refine ⟨1, _, _, _, _, get1, rfl, rfl, ?_, ?_, ?_, ?_⟩) | (with_reducible refine ⟨2, _, _, _, _, get2, rfl, rfl, ?_, ?_, ?_, ?_⟩) | (with_reducible refine ⟨3, _, _, _, _, get3, rfl, rfl, ?_, ?_, ?_, ?_⟩)); (kernel_rfl); (simp [Value.cells]); (rfl); (clear st; intro w st))); (try simp only [nsl, Value.cells, unB] at st); (try clear hc); have hc := st.facts; (try simp only [nfl, nft, Nat.reduceAdd] at hc))
      go_ret
      exact ⟨by rw [H.out] <;> rfl, st.ext0⟩
    | true =>
      by_cases n0 : n = 0
      · subst n0
        by_cases k0 : k = 0
        · subst k0
          have H : Hid (v = true) := Lib.hid (by rw [HV2.out, hr]; rfl)
          clear hr
          (try simp only [nsl, Value.cells, unB] at st)
          (try clear hc); have hc := st.facts; (try simp only [nfl, nft, Nat.reduceAdd] at hc)
          go_wp2_with ((first
                | ((with_reducible refine wl_box ?_ (fun K hK => ?_)); rfl; refine owp_box (o := ⟨some 1, _, _, _, _, _⟩) rfl st ?_; apply Exists.intro; refine ⟨?_, ?_⟩; (focus (go_simp; try rfl)); (clear st; intro b1 w hb st; clear hb))
                | ((with_reducible refine wl_alloc ?_ (fun K hK => ?_)); rfl; refine owp_alloc (o := ⟨some 5, _, _, _, _, _⟩) rfl st ?_; apply Exists.intro; apply Exists.intro; refine ⟨?_, ?_⟩; (focus (first | (go_simp; done) | (go_simp; rfl))); (clear st; intro b5 w hb st; clear hb))
                | ((with_reducible refine wl_store ?_ (fun K hK => ?_)); rfl; refine owp_store rfl st ?_; apply Exists.intro; apply Exists.intro; refine ⟨?_, ?_, ?_⟩; (focus (go_simp; try rfl)); (focus (go_simp; try rfl)); (first | (with_reducible refine ⟨0, _, _, _, _, get0, rfl, rfl, ?_, ?_, ?_, ?_⟩) | (with_reducible refine ⟨1, _, _, _, _, get1, rfl, rfl, ?_, ?_, ?_, ?_⟩) | (with_reducible refine ⟨2, _, _, _, _, get2, rfl, rfl, ?_, ?_, ?_, ?_⟩) | (with_reducible refine ⟨3, _, _, _, _, get3, rfl, rfl, ?_, ?_, ?_, ?_⟩)); (kernel_rfl); (simp [Value.cells]); (rfl); (clear st; intro w st))); (try simp only [nsl, Value.cells, unB] at st); (try clear hc); have hc := st.facts; (try simp only [nfl, nft, Nat.reduceAdd] at hc))
          go_ret
          exact ⟨by rw [H.out] <;> rfl, st.ext0⟩
        · have H : Hid (v = false) := Lib.hid (by rw [HV2.out, hr]; simp [k0])
          have hk0 : (k == 0) = false := by simpa using k0
          clear hr k0
          (try simp only [nsl, Value.cells, unB] at st)
          (try clear hc); have hc := st.facts; (try simp only [nfl, nft, Nat.reduceAdd] at hc)
          go_wp2_with ((first
                | ((with_reducible refine wl_box ?_ (fun K hK => ?_)); rfl; refine owp_box (o := ⟨some 1, _, _, _, _, _⟩) rfl st ?_; apply Exists.intro; refine ⟨?_, ?_⟩; (focus (go_simp; try rfl)); (clear st; intro b1 w hb st; clear hb))
                | ((with_reducible refine wl_alloc ?_ (fun K hK => ?_)); rfl; refine owp_alloc (o := ⟨some 5, _, _, _, _, _⟩) rfl st ?_; apply Exists.intro; apply Exists.intro; refine ⟨?_, ?_⟩; (focus (first | (go_simp; done) | (go_simp; rfl))); (clear st; intro b5 w hb st; clear hb))
                | ((with_reducible refine wl_store ?_ (fun K hK => ?_)); rfl; refine owp_store rfl st ?_; apply Exists.intro; apply Exists.intro; refine ⟨?_, ?_, ?_⟩; (focus (go_simp; try rfl)); (focus (go_simp; try rfl)); (first | (with_reducible refine ⟨0, _, _, _, _, get0, rfl, rfl, ?_, ?_, ?_, ?_⟩) | (with_reducible refine ⟨1, _, _, _, _, get1, rfl, rfl, ?_, ?_, ?_, ?_⟩) | (with_reducible refine ⟨2, _, _, _, _, get2, rfl, rfl, ?_, ?_, ?_, ?_⟩) | (with_reducible refine ⟨3, _, _, _, _, get3, rfl, rfl, ?_, ?_, ?_, ?_⟩)); (kernel_rfl); (simp [Value.cells]); (rfl); (clear st; intro w st))); (try simp only [nsl, Value.cells, unB] at st); (try clear hc); have hc := st.facts; (try simp only [nfl, nft, Nat.reduceAdd] at hc))
          go_ret
          exact ⟨by rw [H.out] <;> rfl, st.ext0⟩
      · have H : Hid (v = false) := Lib.hid (by rw [HV2.out, hr]; simp [n0])
        have hn0 : ((n : Int) == 0) = false := by simp; omega
        clear hr n0
        (try simp only [nsl, Value.cells, unB] at st)
        (try clear hc); have hc := st.facts; (try simp only [nfl, nft, Nat.reduceAdd] at hc)
        go_wp2_with ((first
              | ((with_reducible refine wl_box ?_ (fun K hK => ?_)); rfl; refine owp_box (o := ⟨some 1, _, _, _, _, _⟩) rfl st ?_; apply Exists.intro; refine ⟨?_, ?_⟩; (focus (go_simp; try rfl)); (clear st; intro b1 w hb st; clear hb))
              | ((with_reducible refine wl_alloc ?_ (fun K hK => ?_)); rfl; refine owp_alloc (o := ⟨some 5, _, _, _, _, _⟩) rfl st ?_; apply Exists.intro; apply Exists.intro; refine ⟨?_, ?_⟩; (focus (first | (go_simp; done) | (go_simp; rfl))); (clear st; intro b5 w hb st; clear hb))
              | ((with_reducible refine wl_store ?_ (fun K hK => ?_)); rfl; refine owp_store rfl st ?_; apply Exists.intro; apply Exists.intro; refine ⟨?_, ?_, ?_⟩; (focus (go_simp; try rfl)); (focus (go_simp; try rfl)); (first | (with_reducible refine ⟨0, _, _, _, _, get0, rfl, rfl, ?_, ?_, ?_, ?_⟩) | (with_reducible refine ⟨1, _, _, _, _, get1, rfl, rfl, ?_, ?_, ?_, ?_⟩) | (with_reducible refine ⟨2, _, _, _, _, get2, rfl, rfl, ?_, ?_, ?_, ?_⟩) | (with_reducible refine ⟨3, _, _, _, _, get3, rfl, rfl, ?_, ?_, ?_, ?_⟩)); (kernel_rfl); (simp [Value.cells]); (rfl); (clear st; intro w st))); (try simp only [nsl, Value.cells, unB] at st); (try clear hc); have hc := st.facts; (try simp only [nfl, nft, Nat.reduceAdd] at hc))
        go_ret
        exact ⟨by rw [H.out] <;> rfl, st.ext0⟩
  · have b1 : (op == 1) = false := by simpa using o1
    by_cases p1 : op < 1
    · have H : Hid (v = false) := Lib.hid (by rw [HV.out, HNR.out, if_neg o1, if_neg (by omega), decide_eq_false (show ¬ op = 4 by omega)]; rfl)
      clear HV HNR HRo HA HE0 HI
      (try simp only [nsl, Value.cells, unB] at st)
      (try clear hc); have hc := st.facts; (try simp only [nfl, nft, Nat.reduceAdd] at hc)
      go_wp2_with ((first
            | ((with_reducible refine wl_box ?_ (fun K hK => ?_)); rfl; refine owp_box (o := ⟨some 1, _, _, _, _, _⟩) rfl st ?_; apply Exists.intro; refine ⟨?_, ?_⟩; (focus (go_simp; try rfl)); (clear st; intro b1 w hb st; clear hb))
            | ((with_reducible refine wl_alloc ?_ (fun K hK => ?_)); rfl; refine owp_alloc (o := ⟨some 5, _, _, _, _, _⟩) rfl st ?_; apply Exists.intro; apply Exists.intro; refine ⟨?_, ?_⟩; (focus (first | (go_simp; done) | (go_simp; rfl))); (clear st; intro b5 w hb st; clear hb))
            | ((with_reducible refine wl_store ?_ (fun K hK => ?_)); rfl; refine owp_store rfl st ?_; apply Exists.intro; apply Exists.intro; refine ⟨?_, ?_, ?_⟩; (focus (go_simp; try rfl)); (focus (go_simp; try rfl)); (first | (with_reducible refine ⟨0, _, _, _, _, get0, rfl, rfl, ?_, ?_, ?_, ?_⟩) | (with_reducible refine ⟨1, _, _, _, _, get1, rfl, rfl, ?_, ?_, ?_, ?_⟩) | (with_reducible refine ⟨2, _, _, _, _, get2, rfl, rfl, ?_, ?_, ?_, ?_⟩) | (with_reducible refine ⟨3, _, _, _, _, get3, rfl, rfl, ?_, ?_, ?_, ?_⟩)); (kernel_rfl); (simp [Value.cells]); (rfl); (clear st; intro w st))); (try simp only [nsl, Value.cells, unB] at st); (try clear hc); have hc := st.facts; (try simp only [nfl, nft, Nat.reduceAdd] at hc))
      go_ret
      exact ⟨by rw [H.out] <;> rfl, st.ext0⟩
    by_cases p4 : 4 < op
    · have H : Hid (v = false) := Lib.hid (by rw [HV.out, HNR.out, if_neg o1, if_neg (by omega), decide_eq_false (show ¬ op = 4 by omega)]; rfl)
      clear HV HNR HRo HA HE0 HI
      (try simp only [nsl, Value.cells, unB] at st)
      (try clear hc); have hc := st.facts; (try simp only [nfl, nft, Nat.reduceAdd] at hc)
      go_wp2_with ((first
            | ((with_reducible refine wl_box ?_ (fun K hK => ?_)); rfl; refine owp_box (o := ⟨some 1, _, _, _, _, _⟩) rfl st ?_; apply Exists.intro; refine ⟨?_, ?_⟩; (focus (go_simp; try rfl)); (clear st; intro b1 w hb st; clear hb))
            | ((with_reducible refine wl_alloc ?_ (fun K hK => ?_)); rfl; refine owp_alloc (o := ⟨some 5, _, _, _, _, _⟩) rfl st ?_; apply Exists.intro; apply Exists.intro; refine ⟨?_, ?_⟩; (focus (first | (go_simp; done) | (go_simp; rfl))); (clear st; intro b5 w hb st; clear hb))
            | ((with_reducible refine wl_store ?_ (fun K hK => ?_)); rfl; refine owp_store rfl st ?_; apply Exists.intro; apply Exists.intro; refine ⟨?_, ?_, ?_⟩; (focus (go_simp; try rfl)); (focus (go_simp; try rfl)); (first | (with_reducible refine ⟨0, _, _, _, _, get0, rfl, rfl, ?_, ?_, ?_, ?_⟩) | (with_reducible refine ⟨1, _, _, _, _, get1, rfl, rfl, ?_, ?_, ?_, ?_⟩) | (with_reducible refine ⟨2, _, _, _, _, get2, rfl, rfl, ?_, ?_, ?_, ?_⟩) | (with_reducible refine ⟨3, _, _, _, _, get3, rfl, rfl, ?_, ?_, ?_, ?_⟩)); (kernel_rfl); (simp [Value.cells]); (rfl); (clear st; intro w st))); (try simp only [nsl, Value.cells, unB] at st); (try clear hc); have hc := st.facts; (try simp only [nfl, nft, Nat.reduceAdd] at hc))
      go_ret
      exact ⟨by rw [H.out] <;> rfl, st.ext0⟩
    cases e with
    | false =>
      have H : Hid (v = false) := Lib.hid (by rw [HV.out, HNR.out, if_neg o1]; simp)
      clear HV HNR HRo HA HE0 HI
      (try simp only [nsl, Value.cells, unB] at st)
      (try clear hc); have hc := st.facts; (try simp only [nfl, nft, Nat.reduceAdd] at hc)
      go_wp2_with ((first
            | ((with_reducible refine wl_box ?_ (fun K hK => ?_)); rfl; refine owp_box (o := ⟨some 1, _, _, _, _, _⟩) rfl st ?_; apply Exists.intro; refine ⟨?_, ?_⟩; (focus (go_simp; try rfl)); (clear st; intro b1 w hb st; clear hb))
            | ((with_reducible refine wl_alloc ?_ (fun K hK => ?_)); rfl; refine owp_alloc (o := ⟨some 5, _, _, _, _, _⟩) rfl st ?_; apply Exists.intro; apply Exists.intro; refine ⟨?_, ?_⟩; (focus (first | (go_simp; done) | (go_simp; rfl))); (clear st; intro b5 w hb st; clear hb))
            | ((with_reducible refine wl_store ?_ (fun K hK => ?_)); rfl; refine owp_store rfl st ?_; apply Exists.intro; apply Exists.intro; refine ⟨?_, ?_, ?_⟩; (focus (go_simp; try rfl)); (focus (go_simp; try rfl)); (first | (with_reducible refine ⟨0, _, _, _, _, get0, rfl, rfl, ?_, ?_, ?_, ?_⟩) | (with_reducible refine ⟨1, _, _, _, _, get1, rfl, rfl, ?_, ?_, ?_, ?_⟩) | (with_reducible refine ⟨2, _, _, _, _, get2, rfl, rfl, ?_, ?_, ?_, ?_⟩) | (with_reducible refine ⟨3, _, _, _, _, get3, rfl, rfl, ?_, ?_, ?_, ?_⟩)); (kernel_rfl); (simp [Value.cells]); (rfl); (clear st; intro w st))); (try simp only [nsl, Value.cells, unB] at st); (try clear hc); have hc := st.facts; (try simp only [nfl, nft, Nat.reduceAdd] at hc))
      go_ret
      exact ⟨by rw [H.out] <;> rfl, st.ext0⟩
    | true =>
      by_cases n8 : n ≤ 8
      · have n8i : ¬ (8 : Int) < (n : Int) := by omega
        by_cases o4 : op = 4
        · subst o4
          have b4 : ((4 : Int) == 4) = true := rfl
          by_cases n1 : 1 ≤ n
          · have n1i : ¬ (n : Int) < 1 := by omega
            by_cases k0 : k < 0
            · have H : Hid (v = false) := Lib.hid (by rw [HV.out, HNR.out, if_neg o1, if_neg (by omega), decide_eq_false (show ¬ 0 ≤ k by omega)]; simp)
              clear HV HNR HRo HA HE0 HI
              (try simp only [nsl, Value.cells, unB] at st)
              (try clear hc); have hc := st.facts; (try simp only [nfl, nft, Nat.reduceAdd] at hc)
              go_wp2_with ((first
                    | ((with_reducible refine wl_box ?_ (fun K hK => ?_)); rfl; refine owp_box (o := ⟨some 1, _, _, _, _, _⟩) rfl st ?_; apply Exists.intro; refine ⟨?_, ?_⟩; (focus (go_simp; try rfl)); (clear st; intro b1 w hb st; clear hb))
                    | ((with_reducible refine wl_alloc ?_ (fun K hK => ?_)); rfl; refine owp_alloc (o := ⟨some 5, _, _, _, _, _⟩) rfl st ?_; apply Exists.intro; apply Exists.intro; refine ⟨?_, ?_⟩; (focus (first | (go_simp; done) | (go_simp; rfl))); (clear st; intro b5 w hb st; clear hb))
                    | ((with_reducible refine wl_store ?_ (fun K hK => ?_)); rfl; refine owp_store rfl st ?_; apply Exists.intro; apply Exists.intro; refine ⟨?_, ?_, ?_⟩; (focus (go_simp; try rfl)); (focus (go_simp; try rfl)); (first | (with_reducible refine ⟨0, _, _, _, _, get0, rfl, rfl, ?_, ?_, ?_, ?_⟩) | (with_reducible refine ⟨1, _, _, _, _, get1, rfl, rfl, ?_, ?_, ?_, ?_⟩) | (with_reducible refine ⟨2, _, _, _, _, get2, rfl, rfl, ?_, ?_, ?_, ?_⟩) | (with_reducible refine ⟨3, _, _, _, _, get3, rfl, rfl, ?_, ?_, ?_, ?_⟩)); (kernel_rfl); (simp [Value.cells]); (rfl); (clear st; intro w st))); (try simp only [nsl, Value.cells, unB] at st); (try clear hc); have hc := st.facts; (try simp only [nfl, nft, Nat.reduceAdd] at hc))
              go_ret
              exact ⟨by rw [H.out] <;> rfl, st.ext0⟩
            · by_cases kn : (n : Int) < k
              · have H : Hid (v = false) := Lib.hid (by rw [HV.out, HNR.out, if_neg o1, if_neg (by omega), decide_eq_false (show ¬ k ≤ (n : Int) by omega)]; simp)
                clear HV HNR HRo HA HE0 HI
                (try simp only [nsl, Value.cells, unB] at st)
                (try clear hc); have hc := st.facts; (try simp only [nfl, nft, Nat.reduceAdd] at hc)
                go_wp2_with ((first
                      | ((with_reducible refine wl_box ?_ (fun K hK => ?_)); rfl; refine owp_box (o := ⟨some 1, _, _, _, _, _⟩) rfl st ?_; apply Exists.intro; refine ⟨?_, ?_⟩; (focus (go_simp; try rfl)); (clear st; intro b1 w hb st; clear hb))
                      | ((with_reducible refine wl_alloc ?_ (fun K hK => ?_)); rfl; refine owp_alloc (o := ⟨some 5, _, _, _, _, _⟩) rfl st ?_; apply Exists.intro; apply Exists.intro; refine ⟨?_, ?_⟩; (focus (first | (go_simp; done) | (go_simp; rfl))); (clear st; intro b5 w hb st; clear hb))
                      | ((with_reducible refine wl_store ?_ (fun K hK => ?_)); rfl; refine owp_store rfl st ?_; apply Exists.intro; apply Exists.intro; refine ⟨?_, ?_, ?_⟩; (focus (go_simp; try rfl)); (focus (go_simp; try rfl)); (first | (with_reducible refine ⟨0, _, _, _, _, get0, rfl, rfl, ?_, ?_, ?_, ?_⟩) | (with_reducible refine ⟨1, _, _, _, _, get1, rfl, rfl, ?_, ?_, ?_, ?_⟩) | (with_reducible refine ⟨2, _, _, _, _, get2, rfl, rfl, ?_, ?_, ?_, ?_⟩) | (with_reducible refine ⟨3, _, _, _, _, get3, rfl, rfl, ?_, ?_, ?_, ?_⟩)); (kernel_rfl); (simp [Value.cells]); (rfl); (clear st; intro w st))); (try simp only [nsl, Value.cells, unB] at st); (try clear hc); have hc := st.facts; (try simp only [nfl, nft, Nat.reduceAdd] at hc))
                go_ret
                exact ⟨by rw [H.out] <;> rfl, st.ext0⟩
              · have HW : Hid (v = wv) := Lib.hid (by rw [HV.out, HNR.out, if_neg o1, if_neg (by omega), decide_eq_true (show 0 ≤ k by omega), decide_eq_true (show k ≤ (n : Int) by omega), decide_eq_true n1, decide_eq_true n8]; simp)
                clear HV HNR HRo HE0
                (try simp only [nsl, Value.cells, unB] at st)
                (try clear hc); have hc := st.facts; (try simp only [nfl, nft, Nat.reduceAdd] at hc)
                go_wp2_with ((first
                      | ((with_reducible refine wl_box ?_ (fun K hK => ?_)); rfl; refine owp_box (o := ⟨some 1, _, _, _, _, _⟩) rfl st ?_; apply Exists.intro; refine ⟨?_, ?_⟩; (focus (go_simp; try rfl)); (clear st; intro b1 w hb st; clear hb))
                      | ((with_reducible refine wl_alloc ?_ (fun K hK => ?_)); rfl; refine owp_alloc (o := ⟨some 5, _, _, _, _, _⟩) rfl st ?_; apply Exists.intro; apply Exists.intro; refine ⟨?_, ?_⟩; (focus (first | (go_simp; done) | (go_simp; rfl))); (clear st; intro b5 w hb st; clear hb))
                      | ((with_reducible refine wl_store ?_ (fun K hK => ?_)); rfl; refine owp_store rfl st ?_; apply Exists.intro; apply Exists.intro; refine ⟨?_, ?_, ?_⟩; (focus (go_simp; try rfl)); (focus (go_simp; try rfl)); (first | (with_reducible refine ⟨0, _, _, _, _, get0, rfl, rfl, ?_, ?_, ?_, ?_⟩) | (with_reducible refine ⟨1, _, _, _, _, get1, rfl, rfl, ?_, ?_, ?_, ?_⟩) | (with_reducible refine ⟨2, _, _, _, _, get2, rfl, rfl, ?_, ?_, ?_, ?_⟩) | (with_reducible refine ⟨3, _, _, _, _, get3, rfl, rfl, ?_, ?_, ?_, ?_⟩)); (kernel_rfl); (simp [Value.cells]); (rfl); (clear st; intro w st))); (try simp only [nsl, Value.cells, unB] at st); (try clear hc); have hc := st.facts; (try simp only [nfl, nft, Nat.reduceAdd] at hc))
                go_loopg [73] n (fun q i wr => ∃ (j : Nat), j ≤ n ∧ q = n - j ∧ i = .int .i64 (j : Int) ∧ Hid (((kids.take j).all fun x => x.strip.well) = true) ∧ Own (fun _ => False) (fun _ => True) W [oldI W, blkI b1 [.int .i64 4, .int .i64 k, .string ⟨o.toArray⟩, .string ⟨d.toArray⟩, .slice a n c]] wr)
                case atStart => exact ⟨0, by omega, by omega, rfl, Lib.hid (by simp), st⟩
                case round =>
                  obtain ⟨j, hj, rfl, rfl, HG, st'⟩ := hrel
                  clear st hc
                  have st := st'
                  clear st'
                  by_cases hjn : j < n
                  · obtain ⟨b, off, ha, hcell⟩ := (st.oldFl (i := 0) get0 HOK.out.fl).fm (by omega)
                    have hjl : j < kids.length := by have := HN.out; omega
                    have HT : Hid (kids.take (j + 1) = kids.take j ++ [kids[j]]) := Lib.hid (List.take_append_getElem hjl).symm
                    have hok := HOK.out.kids _ (List.getElem_mem hjl)
                    have hih := HI.out _ (List.getElem_mem hjl)
                    have hgt := List.getElem?_eq_getElem hjl
                    have HM : Hid (kids[j] ∈ kids) := Lib.hid (List.getElem_mem hjl)
                    generalize kids[j] = x at *
                    obtain ⟨m, hm⟩ : ∃ v, x.strip.well = v := ⟨_, rfl⟩
                    have HC := Lib.hid (fun W' (hx : Ext W W') => hih W' (hok.ext hx))
                    rw [hm] at HC
                    have HX : Hid (x.strip.well = m) := Lib.hid hm
                    clear hih hjl hok hm
                    obtain ⟨xx, hxx⟩ : ∃ y, x = y := ⟨_, rfl⟩
                    rw [hxx] at HT HX HM
                    obtain ⟨op', k', ⟨o', d'⟩, a', n', c', kids'⟩ := x
                    obtain ⟨r0, r1, r2, r3, r4⟩ := hcell j op' k' (o', d') a' n' c' kids' hgt
                    unfold fmV S at HC
                    simp only at HC
                    clear hcell hgt hxx
                    subst ha
                    unfold S at r2 r3
                    simp only at r2 r3
                    (try simp only [nsl, Value.cells, unB] at st)
                    (try clear hc); have hc := st.facts; (try simp only [nfl, nft, Nat.reduceAdd] at hc)
                    go_wp2_with ((first
                          | ((with_reducible refine wl_box ?_ (fun K hK => ?_)); rfl; refine owp_box (o := ⟨some 1, _, _, _, _, _⟩) rfl st ?_; apply Exists.intro; refine ⟨?_, ?_⟩; (focus (go_simp; try rfl)); (clear st; intro b1 w hb st; clear hb))
                          | ((with_reducible refine wl_alloc ?_ (fun K hK => ?_)); rfl; refine owp_alloc (o := ⟨some 5, _, _, _, _, _⟩) rfl st ?_; apply Exists.intro; apply Exists.intro; refine ⟨?_, ?_⟩; (focus (first | (go_simp; done) | (go_simp; rfl))); (clear st; intro b5 w hb st; clear hb))
                          | ((with_reducible refine wl_store ?_ (fun K hK => ?_)); rfl; refine owp_store rfl st ?_; apply Exists.intro; apply Exists.intro; refine ⟨?_, ?_, ?_⟩; (focus (go_simp; try rfl)); (focus (go_simp; try rfl)); (first | (with_reducible refine ⟨0, _, _, _, _, get0, rfl, rfl, ?_, ?_, ?_, ?_⟩) | (with_reducible refine ⟨1, _, _, _, _, get1, rfl, rfl, ?_, ?_, ?_, ?_⟩) | (with_reducible refine ⟨2, _, _, _, _, get2, rfl, rfl, ?_, ?_, ?_, ?_⟩) | (with_reducible refine ⟨3, _, _, _, _, get3, rfl, rfl, ?_, ?_, ?_, ?_⟩)); (kernel_rfl); (simp [Value.cells]); (rfl); (clear st; intro w st))); (try simp only [nsl, Value.cells, unB] at st); (try clear hc); have hc := st.facts; (try simp only [nfl, nft, Nat.reduceAdd] at hc))
                    clear r0 r1 r2 r3 r4
                    refine (HC.out _ st.ext0).mono ?_
                    rintro en w ⟨rfl, hx⟩
                    replace st := st.ext hx
                    clear hx
                    cases m with
                    | false =>
                      have H : Hid (v = false) := Lib.hid (by
                        rw [HW.out, HA.out, Bool.eq_false_iff]
                        intro q
                        have := List.all_eq_true.1 q xx HM.out
                        rw [HX.out] at this
                        cases this)
                      (try simp only [nsl, Value.cells, unB] at st)
                      (try clear hc); have hc := st.facts; (try simp only [nfl, nft, Nat.reduceAdd] at hc)
                      go_wp2_with fail
                      go_ret
                      exact ⟨by rw [H.out] <;> rfl, st.ext0⟩
                    | true =>
                      have HG2 : Hid (((kids.take (j + 1)).all fun x => x.strip.well) = true) := Lib.hid (by rw [HT.out, List.all_append, HG.out]; simp [HX.out])
                      (try simp only [nsl, Value.cells, unB] at st)
                      (try clear hc); have hc := st.facts; (try simp only [nfl, nft, Nat.reduceAdd] at hc)
                      go_wp2_with fail
                      have st' := st.keep [0, 1] (by decide) (by simp)
                      go_roundg (n - (j + 1))
                      case measure => omega
                      case rel => exact ⟨j + 1, by omega, rfl, by go_num, HG2, by simpa [pick] using st'⟩
                  · obtain rfl : n = j := by omega
                    have H : Hid (v = true) := Lib.hid (by rw [HW.out, HA.out, ← HG.out, List.take_of_length_le (by have := HN.out; omega)])
                    (try simp only [nsl, Value.cells, unB] at st)
                    (try clear hc); have hc := st.facts; (try simp only [nfl, nft, Nat.reduceAdd] at hc)
                    go_wp2_with fail
                    go_ret
                    exact ⟨by rw [H.out] <;> rfl, st.ext0⟩
          · have n1i : (n : Int) < 1 := by omega
            have H : Hid (v = false) := Lib.hid (by rw [HV.out, HNR.out, if_neg o1, if_neg (by omega), decide_eq_false n1]; simp)
            clear HV HNR HRo HA HE0 HI n1
            (try simp only [nsl, Value.cells, unB] at st)
            (try clear hc); have hc := st.facts; (try simp only [nfl, nft, Nat.reduceAdd] at hc)
            go_wp2_with ((first
                  | ((with_reducible refine wl_box ?_ (fun K hK => ?_)); rfl; refine owp_box (o := ⟨some 1, _, _, _, _, _⟩) rfl st ?_; apply Exists.intro; refine ⟨?_, ?_⟩; (focus (go_simp; try rfl)); (clear st; intro b1 w hb st; clear hb))
                  | ((with_reducible refine wl_alloc ?_ (fun K hK => ?_)); rfl; refine owp_alloc (o := ⟨some 5, _, _, _, _, _⟩) rfl st ?_; apply Exists.intro; apply Exists.intro; refine ⟨?_, ?_⟩; (focus (first | (go_simp; done) | (go_simp; rfl))); (clear st; intro b5 w hb st; clear hb))
                  | ((with_reducible refine wl_store ?_ (fun K hK => ?_)); rfl; refine owp_store rfl st ?_; apply Exists.intro; apply Exists.intro; refine ⟨?_, ?_, ?_⟩; (focus (go_simp; try rfl)); (focus (go_simp; try rfl)); (first | (with_reducible refine ⟨0, _, _, _, _, get0, rfl, rfl, ?_, ?_, ?_, ?_⟩) | (with_reducible refine ⟨1, _, _, _, _, get1, rfl, rfl, ?_, ?_, ?_, ?_⟩) | (with_reducible refine ⟨2, _, _, _, _, get2, rfl, rfl, ?_, ?_, ?_, ?_⟩) | (with_reducible refine ⟨3, _, _, _, _, get3, rfl, rfl, ?_, ?_, ?_, ?_⟩)); (kernel_rfl); (simp [Value.cells]); (rfl); (clear st; intro w st))); (try simp only [nsl, Value.cells, unB] at st); (try clear hc); have hc := st.facts; (try simp only [nfl, nft, Nat.reduceAdd] at hc))
            go_ret
            exact ⟨by rw [H.out] <;> rfl, st.ext0⟩
        · have b4 : (op == 4) = false := by simpa using o4
          have o4i : op < 4 := by omega
          have o23 : op = 2 ∨ op = 3 := by omega
          by_cases k0 : k = 0
          · have HW : Hid (v = wv) := Lib.hid (by rw [HV.out, HNR.out, if_neg o1, if_pos o23, decide_eq_true k0, decide_eq_true n8]; simp)
            clear HV HNR HRo HE0 o23 o4
            subst k0
            (try simp only [nsl, Value.cells, unB] at st)
            (try clear hc); have hc := st.facts; (try simp only [nfl, nft, Nat.reduceAdd] at hc)
            go_wp2_with ((first
                  | ((with_reducible refine wl_box ?_ (fun K hK => ?_)); rfl; refine owp_box (o := ⟨some 1, _, _, _, _, _⟩) rfl st ?_; apply Exists.intro; refine ⟨?_, ?_⟩; (focus (go_simp; try rfl)); (clear st; intro b1 w hb st; clear hb))
                  | ((with_reducible refine wl_alloc ?_ (fun K hK => ?_)); rfl; refine owp_alloc (o := ⟨some 5, _, _, _, _, _⟩) rfl st ?_; apply Exists.intro; apply Exists.intro; refine ⟨?_, ?_⟩; (focus (first | (go_simp; done) | (go_simp; rfl))); (clear st; intro b5 w hb st; clear hb))
                  | ((with_reducible refine wl_store ?_ (fun K hK => ?_)); rfl; refine owp_store rfl st ?_; apply Exists.intro; apply Exists.intro; refine ⟨?_, ?_, ?_⟩; (focus (go_simp; try rfl)); (focus (go_simp; try rfl)); (first | (with_reducible refine ⟨0, _, _, _, _, get0, rfl, rfl, ?_, ?_, ?_, ?_⟩) | (with_reducible refine ⟨1, _, _, _, _, get1, rfl, rfl, ?_, ?_, ?_, ?_⟩) | (with_reducible refine ⟨2, _, _, _, _, get2, rfl, rfl, ?_, ?_, ?_, ?_⟩) | (with_reducible refine ⟨3, _, _, _, _, get3, rfl, rfl, ?_, ?_, ?_, ?_⟩)); (kernel_rfl); (simp [Value.cells]); (rfl); (clear st; intro w st))); (try simp only [nsl, Value.cells, unB] at st); (try clear hc); have hc := st.facts; (try simp only [nfl, nft, Nat.reduceAdd] at hc))
            go_loopg [73] n (fun q i wr => ∃ (j : Nat), j ≤ n ∧ q = n - j ∧ i = .int .i64 (j : Int) ∧ Hid (((kids.take j).all fun x => x.strip.well) = true) ∧ Own (fun _ => False) (fun _ => True) W [oldI W, blkI b1 [.int .i64 op, .int .i64 0, .string ⟨o.toArray⟩, .string ⟨d.toArray⟩, .slice a n c]] wr)
            case atStart => exact ⟨0, by omega, by omega, rfl, Lib.hid (by simp), st⟩
            case round =>
              obtain ⟨j, hj, rfl, rfl, HG, st'⟩ := hrel
              clear st hc
              have st := st'
              clear st'
              by_cases hjn : j < n
              · obtain ⟨b, off, ha, hcell⟩ := (st.oldFl (i := 0) get0 HOK.out.fl).fm (by omega)
                have hjl : j < kids.length := by have := HN.out; omega
                have HT : Hid (kids.take (j + 1) = kids.take j ++ [kids[j]]) := Lib.hid (List.take_append_getElem hjl).symm
                have hok := HOK.out.kids _ (List.getElem_mem hjl)
                have hih := HI.out _ (List.getElem_mem hjl)
                have hgt := List.getElem?_eq_getElem hjl
                have HM : Hid (kids[j] ∈ kids) := Lib.hid (List.getElem_mem hjl)
                generalize kids[j] = x at *
                obtain ⟨m, hm⟩ : ∃ v, x.strip.well = v := ⟨_, rfl⟩
                have HC := Lib.hid (fun W' (hx : Ext W W') => hih W' (hok.ext hx))
                rw [hm] at HC
                have HX : Hid (x.strip.well = m) := Lib.hid hm
                clear hih hjl hok hm
                obtain ⟨xx, hxx⟩ : ∃ y, x = y := ⟨_, rfl⟩
                rw [hxx] at HT HX HM
                obtain ⟨op', k', ⟨o', d'⟩, a', n', c', kids'⟩ := x
                obtain ⟨r0, r1, r2, r3, r4⟩ := hcell j op' k' (o', d') a' n' c' kids' hgt
                unfold fmV S at HC
                simp only at HC
                clear hcell hgt hxx
                subst ha
                unfold S at r2 r3
                simp only at r2 r3
                (try simp only [nsl, Value.cells, unB] at st)
                (try clear hc); have hc := st.facts; (try simp only [nfl, nft, Nat.reduceAdd] at hc)
                go_wp2_with ((first
                      | ((with_reducible refine wl_box ?_ (fun K hK => ?_)); rfl; refine owp_box (o := ⟨some 1, _, _, _, _, _⟩) rfl st ?_; apply Exists.intro; refine ⟨?_, ?_⟩; (focus (go_simp; try rfl)); (clear st; intro b1 w hb st; clear hb))
                      | ((with_reducible refine wl_alloc ?_ (fun K hK => ?_)); rfl; refine owp_alloc (o := ⟨some 5, _, _, _, _, _⟩) rfl st ?_; apply Exists.intro; apply Exists.intro; refine ⟨?_, ?_⟩; (focus (first | (go_simp; done) | (go_simp; rfl))); (clear st; intro b5 w hb st; clear hb))
                      | ((with_reducible refine wl_store ?_ (fun K hK => ?_)); rfl; refine owp_store rfl st ?_; apply Exists.intro; apply Exists.intro; refine ⟨?_, ?_, ?_⟩; (focus (go_simp; try rfl)); (focus (go_simp; try rfl)); (first | (with_reducible refine ⟨0, _, _, _, _, get0, rfl, rfl, ?_, ?_, ?_, ?_⟩) | (with_reducible refine ⟨1, _, _, _, _, get1, rfl, rfl, ?_, ?_, ?_, ?_⟩) | (with_reducible refine ⟨2, _, _, _, _, get2, rfl, rfl, ?_, ?_, ?_, ?_⟩) | (with_reducible refine ⟨3, _, _, _, _, get3, rfl, rfl, ?_, ?_, ?_, ?_⟩)); (kernel_rfl); (simp [Value.cells]); (rfl); (clear st; intro w st))); (try simp only [nsl, Value.cells, unB] at st); (try clear hc); have hc := st.facts; (try simp only [nfl, nft, Nat.reduceAdd] at hc))
                clear r0 r1 r2 r3 r4
                refine (HC.out _ st.ext0).mono ?_
                rintro en w ⟨rfl, hx⟩
                replace st := st.ext hx
                clear hx
                cases m with
                | false =>
                  have H : Hid (v = false) := Lib.hid (by
                    rw [HW.out, HA.out, Bool.eq_false_iff]
                    intro q
                    have := List.all_eq_true.1 q xx HM.out
                    rw [HX.out] at this
                    cases this)
                  (try simp only [nsl, Value.cells, unB] at st)
                  (try clear hc); have hc := st.facts; (try simp only [nfl, nft, Nat.reduceAdd] at hc)
                  go_wp2_with fail
                  go_ret
                  exact ⟨by rw [H.out] <;> rfl, st.ext0⟩
                | true =>
                  have HG2 : Hid (((kids.take (j + 1)).all fun x => x.strip.well) = true) := Lib.hid (by rw [HT.out, List.all_append, HG.out]; simp [HX.out])
                  (try simp only [nsl, Value.cells, unB] at st)
                  (try clear hc); have hc := st.facts; (try simp only [nfl, nft, Nat.reduceAdd] at hc)
                  go_wp2_with fail
                  have st' := st.keep [0, 1] (by decide) (by simp)
                  go_roundg (n - (j + 1))
                  case measure => omega
                  case rel => exact ⟨j + 1, by omega, rfl, by go_num, HG2, by simpa [pick] using st'⟩
              · obtain rfl : n = j := by omega
                have H : Hid (v = true) := Lib.hid (by rw [HW.out, HA.out, ← HG.out, List.take_of_length_le (by have := HN.out; omega)])
                (try simp only [nsl, Value.cells, unB] at st)
                (try clear hc); have hc := st.facts; (try simp only [nfl, nft, Nat.reduceAdd] at hc)
                go_wp2_with fail
                go_ret
                exact ⟨by rw [H.out] <;> rfl, st.ext0⟩
          · have H : Hid (v = false) := Lib.hid (by rw [HV.out, HNR.out, if_neg o1, if_pos o23]; simp [k0])
            clear HV HNR HRo HA HE0 HI o23 o4
            (try simp only [nsl, Value.cells, unB] at st)
            (try clear hc); have hc := st.facts; (try simp only [nfl, nft, Nat.reduceAdd] at hc)
            go_wp2_with ((first
                  | ((with_reducible refine wl_box ?_ (fun K hK => ?_)); rfl; refine owp_box (o := ⟨some 1, _, _, _, _, _⟩) rfl st ?_; apply Exists.intro; refine ⟨?_, ?_⟩; (focus (go_simp; try rfl)); (clear st; intro b1 w hb st; clear hb))
                  | ((with_reducible refine wl_alloc ?_ (fun K hK => ?_)); rfl; refine owp_alloc (o := ⟨some 5, _, _, _, _, _⟩) rfl st ?_; apply Exists.intro; apply Exists.intro; refine ⟨?_, ?_⟩; (focus (first | (go_simp; done) | (go_simp; rfl))); (clear st; intro b5 w hb st; clear hb))
                  | ((with_reducible refine wl_store ?_ (fun K hK => ?_)); rfl; refine owp_store rfl st ?_; apply Exists.intro; apply Exists.intro; refine ⟨?_, ?_, ?_⟩; (focus (go_simp; try rfl)); (focus (go_simp; try rfl)); (first | (with_reducible refine ⟨0, _, _, _, _, get0, rfl, rfl, ?_, ?_, ?_, ?_⟩) | (with_reducible refine ⟨1, _, _, _, _, get1, rfl, rfl, ?_, ?_, ?_, ?_⟩) | (with_reducible refine ⟨2, _, _, _, _, get2, rfl, rfl, ?_, ?_, ?_, ?_⟩) | (with_reducible refine ⟨3, _, _, _, _, get3, rfl, rfl, ?_, ?_, ?_, ?_⟩)); (kernel_rfl); (simp [Value.cells]); (rfl); (clear st; intro w st))); (try simp only [nsl, Value.cells, unB] at st); (try clear hc); have hc := st.facts; (try simp only [nfl, nft, Nat.reduceAdd] at hc))
            go_ret
            exact ⟨by rw [H.out] <;> rfl, st.ext0⟩
      · have n8i : (8 : Int) < (n : Int) := by omega
        have H : Hid (v = false) := Lib.hid (by rw [HV.out, decide_eq_false n8]; simp)
        clear HV HNR HRo HA HE0 HI n8
        (try simp only [nsl, Value.cells, unB] at st)
        (try clear hc); have hc := st.facts; (try simp only [nfl, nft, Nat.reduceAdd] at hc)
        go_wp2_with ((first
              | ((with_reducible refine wl_box ?_ (fun K hK => ?_)); rfl; refine owp_box (o := ⟨some 1, _, _, _, _, _⟩) rfl st ?_; apply Exists.intro; refine ⟨?_, ?_⟩; (focus (go_simp; try rfl)); (clear st; intro b1 w hb st; clear hb))
              | ((with_reducible refine wl_alloc ?_ (fun K hK => ?_)); rfl; refine owp_alloc (o := ⟨some 5, _, _, _, _, _⟩) rfl st ?_; apply Exists.intro; apply Exists.intro; refine ⟨?_, ?_⟩; (focus (first | (go_simp; done) | (go_simp; rfl))); (clear st; intro b5 w hb st; clear hb))
              | ((with_reducible refine wl_store ?_ (fun K hK => ?_)); rfl; refine owp_store rfl st ?_; apply Exists.intro; apply Exists.intro; refine ⟨?_, ?_, ?_⟩; (focus (go_simp; try rfl)); (focus (go_simp; try rfl)); (first | (with_reducible refine ⟨0, _, _, _, _, get0, rfl, rfl, ?_, ?_, ?_, ?_⟩) | (with_reducible refine ⟨1, _, _, _, _, get1, rfl, rfl, ?_, ?_, ?_, ?_⟩) | (with_reducible refine ⟨2, _, _, _, _, get2, rfl, rfl, ?_, ?_, ?_, ?_⟩) | (with_reducible refine ⟨3, _, _, _, _, get3, rfl, rfl, ?_, ?_, ?_, ?_⟩)); (kernel_rfl); (simp [Value.cells]); (rfl); (clear st; intro w st))); (try simp only [nsl, Value.cells, unB] at st); (try clear hc); have hc := st.facts; (try simp only [nfl, nft, Nat.reduceAdd] at hc))
        go_ret
        exact ⟨by rw [H.out] <;> rfl, st.ext0⟩
set_option maxRecDepth 100000 in
set_option maxHeartbeats 2000000 in
theorem refRight11_any (f : Fm) (W : World) (h : FmOk W f) (hs : f.strip.nodes ≤ 1000000000) (hl : FoL 100000 f.strip) :
    Calls Tryz.prog 12 #[fmV f] W fun e w' => e = .returned (.bool (foR f.strip)) ∧ Ext W w' := by
  have HN := Lib.hid (fun W' (hx : Ext W W') => refNodes_any f W' (h.ext hx) hs)
  have HD := Lib.hid (fun W' (hx : Ext W W') => refDeep_any f W' (h.ext hx) hs)
  have HW := Lib.hid (fun W' (hx : Ext W W') => refWell_any f W' (h.ext hx) hl)
  have HV : Hid (foR f.strip = (decide (f.strip.nodes ≤ 64) && decide (f.strip.deep ≤ 6) && f.strip.well)) := Lib.hid rfl
  obtain ⟨op, k, ⟨o, d⟩, a, n, c, kids⟩ := f
  generalize foR (Fm.mk op k (o, d) a n c kids).strip = v at *
  generalize (Fm.mk op k (o, d) a n c kids).strip.nodes = N1 at *
  generalize (Fm.mk op k (o, d) a n c kids).strip.deep = D1 at *
  generalize (Fm.mk op k (o, d) a n c kids).strip.well = wv at *
  clear h hs hl
  have st := Own.startOld W
  unfold fmV S at HN HD HW ⊢
  simp only at HN HD HW ⊢
  (try simp only [nsl, Value.cells, unB] at st)
  (try clear hc); have hc := st.facts; (try simp only [nfl, nft, Nat.reduceAdd] at hc)
  go_enter Tryz.func12, Tryz.ntmps12
  go_wp2_with ((((with_reducible refine wl_box ?_ (fun K hK => ?_)); rfl; refine owp_box (o := ⟨some 1, _, _, _, _, _⟩) rfl st ?_; apply Exists.intro; refine ⟨?_, ?_⟩; (focus (go_simp; try rfl)); (clear st; intro b1 w hb st; clear hb))); (try simp only [nsl, Value.cells, unB] at st); (try clear hc); have hc := st.facts; (try simp only [nfl, nft, Nat.reduceAdd] at hc))
  refine (HN.out _ st.ext0).mono ?_
  rintro en w ⟨rfl, hx⟩
  replace st := st.ext hx
  clear hx
  by_cases h1 : N1 ≤ 64
  · have h1i : (N1 : Int) ≤ 64 := by omega
    (try simp only [nsl, Value.cells, unB] at st)
    (try clear hc); have hc := st.facts; (try simp only [nfl, nft, Nat.reduceAdd] at hc)
    go_wp2_with ((((with_reducible refine wl_box ?_ (fun K hK => ?_)); rfl; refine owp_box (o := ⟨some 1, _, _, _, _, _⟩) rfl st ?_; apply Exists.intro; refine ⟨?_, ?_⟩; (focus (go_simp; try rfl)); (clear st; intro b1 w hb st; clear hb))); (try simp only [nsl, Value.cells, unB] at st); (try clear hc); have hc := st.facts; (try simp only [nfl, nft, Nat.reduceAdd] at hc))
    refine (HD.out _ st.ext0).mono ?_
    rintro en w ⟨rfl, hx⟩
    replace st := st.ext hx
    clear hx
    by_cases h2 : D1 ≤ 6
    · have h2i : (D1 : Int) ≤ 6 := by omega
      have H : Hid (v = wv) := Lib.hid (by rw [HV.out]; simp [h1, h2])
      (try simp only [nsl, Value.cells, unB] at st)
      (try clear hc); have hc := st.facts; (try simp only [nfl, nft, Nat.reduceAdd] at hc)
      go_wp2_with ((((with_reducible refine wl_box ?_ (fun K hK => ?_)); rfl; refine owp_box (o := ⟨some 1, _, _, _, _, _⟩) rfl st ?_; apply Exists.intro; refine ⟨?_, ?_⟩; (focus (go_simp; try rfl)); (clear st; intro b1 w hb st; clear hb))); (try simp only [nsl, Value.cells, unB] at st); (try clear hc); have hc := st.facts; (try simp only [nfl, nft, Nat.reduceAdd] at hc))
      refine (HW.out _ st.ext0).mono ?_
      rintro en w ⟨rfl, hx⟩
      replace st := st.ext hx
      clear hx
      (try simp only [nsl, Value.cells, unB] at st)
      (try clear hc); have hc := st.facts; (try simp only [nfl, nft, Nat.reduceAdd] at hc)
      go_wp2_with ((((with_reducible refine wl_box ?_ (fun K hK => ?_)); rfl; refine owp_box (o := ⟨some 1, _, _, _, _, _⟩) rfl st ?_; apply Exists.intro; refine ⟨?_, ?_⟩; (focus (go_simp; try rfl)); (clear st; intro b1 w hb st; clear hb))); (try simp only [nsl, Value.cells, unB] at st); (try clear hc); have hc := st.facts; (try simp only [nfl, nft, Nat.reduceAdd] at hc))
      go_ret
      exact ⟨by rw [H.out] <;> rfl, st.ext0⟩
    · have h2i : ¬ (D1 : Int) ≤ 6 := by omega
      have H : Hid (v = false) := Lib.hid (by rw [HV.out]; simp [h2])
      clear h2
      (try simp only [nsl, Value.cells, unB] at st)
      (try clear hc); have hc := st.facts; (try simp only [nfl, nft, Nat.reduceAdd] at hc)
      go_wp2_with ((((with_reducible refine wl_box ?_ (fun K hK => ?_)); rfl; refine owp_box (o := ⟨some 1, _, _, _, _, _⟩) rfl st ?_; apply Exists.intro; refine ⟨?_, ?_⟩; (focus (go_simp; try rfl)); (clear st; intro b1 w hb st; clear hb))); (try simp only [nsl, Value.cells, unB] at st); (try clear hc); have hc := st.facts; (try simp only [nfl, nft, Nat.reduceAdd] at hc))
      go_ret
      exact ⟨by rw [H.out] <;> rfl, st.ext0⟩
  · have h1i : ¬ (N1 : Int) ≤ 64 := by omega
    have H : Hid (v = false) := Lib.hid (by rw [HV.out]; simp [h1])
    clear h1
    (try simp only [nsl, Value.cells, unB] at st)
    (try clear hc); have hc := st.facts; (try simp only [nfl, nft, Nat.reduceAdd] at hc)
    go_wp2_with ((((with_reducible refine wl_box ?_ (fun K hK => ?_)); rfl; refine owp_box (o := ⟨some 1, _, _, _, _, _⟩) rfl st ?_; apply Exists.intro; refine ⟨?_, ?_⟩; (focus (go_simp; try rfl)); (clear st; intro b1 w hb st; clear hb))); (try simp only [nsl, Value.cells, unB] at st); (try clear hc); have hc := st.facts; (try simp only [nfl, nft, Nat.reduceAdd] at hc))
    go_ret
    exact ⟨by rw [H.out] <;> rfl, st.ext0⟩
end Go.Proofs.YtcihjohgmhebiaaGreat

namespace Go.Proofs.YtcihjohgmhebiaaGreat
set_option linter.unusedSimpArgs false
set_option linter.unusedVariables false
open Go Go.RowKit
def foC : Fo := .mk 1 0 ([99], [114]) []
def fo3 : Fo := .mk 4 2 ([], []) [foA, foB, foC]
def fmC' : Fm := .mk 1 0 ([99], [114]) none 0 0 []
def roA : Role := ([97], [114])
def roB : Role := ([98], [114])
def roC : Role := ([99], [114])
theorem fo3_R : foR fo3 = true := by decide +kernel
theorem fo3_nodes : fo3.nodes = 4 := by decide +kernel
theorem fo3_atoms : fo3.atoms = [roA, roB, roC] := by decide +kernel
theorem foC_L : FoL 100000 foC := L_fo (by decide) (by decide) (by simp)
theorem fo3_L : FoL 100000 fo3 := L_fo (by decide) (by decide) (fun x hx => by
  rcases List.mem_cons.1 hx with e | hx
  · rw [e]; exact foA_L
  · rcases List.mem_cons.1 hx with e | hx
    · rw [e]; exact foB_L
    · rw [List.mem_singleton.1 hx]; exact foC_L)
theorem abc_set : roleSet [roA, roB, roC] = [roA, roB, roC] := by
  have h := roleSet_set [roA, roB, roC]
  have h2 : SSet roleLt roleR [roA, roB, roC] [roA, roB, roC] := ⟨by decide +kernel, fun x => by
    constructor
    · intro q
      refine ⟨q, ?_⟩
      rcases List.mem_cons.1 q with e | q
      · rw [e]; decide +kernel
      · rcases List.mem_cons.1 q with e | q
        · rw [e]; decide +kernel
        · rw [List.mem_singleton.1 q]; decide +kernel
    · exact fun q => q.1⟩
  exact SSet.uniq (roleOrd roleR) h h2
theorem fo3_msk : mskF fo3 = [3, 5, 6] := by unfold mskF; rw [fo3_atoms, abc_set]; decide +kernel
theorem fo3_E : leastE fo3 = 0 := leastE_ok fo3_R (by rw [fo3_atoms, abc_set]; decide) (by rw [fo3_msk]; decide)
theorem fo3_sets : ([3, 5, 6] : List Nat).map (pk [roA, roB, roC]) = [[roA, roB], [roA, roC], [roB, roC]] := by decide +kernel
theorem fo3_pw : ([[roA, roB], [roA, roC], [roB, roC]] : List (List Role)).Pairwise fun x y => setLe x y = true := by
  refine List.Pairwise.cons ?_ (List.Pairwise.cons ?_ (List.Pairwise.cons (by simp) List.Pairwise.nil))
  · intro x hx
    rcases List.mem_cons.1 hx with e | hx
    · rw [e]; decide +kernel
    · rw [List.mem_singleton.1 hx]; decide +kernel
  · intro x hx
    rw [List.mem_singleton.1 hx]; decide +kernel
theorem fo3_l : lsL fo3 = [[roA, roB], [roA, roC], [roB, roC]] := by
  rw [lsL_yes fo3_E]
  unfold lsS
  rw [fo3_msk, fo3_atoms, abc_set, fo3_sets]
  exact (setSort_is (List.Perm.refl _) fo3_pw).symm
theorem fo3_find : ([[roA, roB], [roA, roC], [roB, roC]] : List (List Role)).find? (fun z => z.all fun r => !(r.1 == [97])) = some [roB, roC] := by decide +kernel
theorem fo3_s1 : suF fo3 [roB, roC] = true := by decide +kernel
theorem fo3_s2 : suF fo3 [roB] = false := by decide +kernel
theorem fo3_w : wiL [roB] [roB, roC] = true := by decide +kernel
theorem map3 {ys : List RsT} {x y z : List Role} (h : ys.map (·.xs) = [x, y, z]) : ∃ y0 y1 y2 : RsT, ys = [y0, y1, y2] ∧ y0.xs = x ∧ y1.xs = y ∧ y2.xs = z := by
  match ys, h with
  | [y0, y1, y2], h =>
    simp only [List.map_cons, List.map_nil, List.cons.injEq, and_true] at h
    exact ⟨y0, y1, y2, rfl, h.1, h.2.1, h.2.2⟩
set_option maxRecDepth 100000 in
set_option maxHeartbeats 1000000 in
theorem atom14_any (s : Array UInt8) (W : World) : Calls Tryz.prog 20 #[.string ⟨s⟩] W fun e w' => e = .returned (.agg #[.int .i64 1, .int .i64 0, .string ⟨s⟩, .string ⟨#[114]⟩, .slice none 0 0]) ∧ Ext W w' := by
  have st := Own.startOld W
  (try simp only [nsl, Value.cells, unB] at st)
  (try clear hc); have hc := st.facts; (try simp only [nfl, nft, Nat.reduceAdd] at hc)
  go_enter Tryz.func20, Tryz.ntmps20
  go_wp2_with ((first
        | ((with_reducible refine wl_alloc ?_ (fun K hK => ?_)); rfl; refine owp_alloc (o := ⟨some 2, _, _, _, _, _⟩) rfl st ?_; apply Exists.intro; apply Exists.intro; refine ⟨?_, ?_⟩; (focus (first | (go_simp; done) | (go_simp; rfl))); (clear st; intro b2 w hb st; clear hb))
        | ((with_reducible refine wl_store ?_ (fun K hK => ?_)); rfl; refine owp_store rfl st ?_; apply Exists.intro; apply Exists.intro; refine ⟨?_, ?_, ?_⟩; (focus (go_simp; try rfl)); (focus (go_simp; try rfl)); (first | (with_reducible refine ⟨0, _, _, _, _, get0, rfl, rfl, ?_, ?_, ?_, ?_⟩) | (with_reducible refine ⟨1, _, _, _, _, get1, rfl, rfl, ?_, ?_, ?_, ?_⟩) | (with_reducible refine ⟨2, _, _, _, _, get2, rfl, rfl, ?_, ?_, ?_, ?_⟩) | (with_reducible refine ⟨3, _, _, _, _, get3, rfl, rfl, ?_, ?_, ?_, ?_⟩)); (kernel_rfl); (simp [Value.cells]); (rfl); (clear st; intro w st))); (try simp only [nsl, Value.cells, unB] at st); (try clear hc); have hc := st.facts; (try simp only [nfl, nft, Nat.reduceAdd] at hc))
  (try simp only [Exit.inBlock, Exit.then])
  refine bodyPost_cell rfl rfl (st.blk (i := 1) get1) Tryz.underlying26 rfl (by kernel_rfl) rfl ?_
  exact ⟨rfl, st.ext0⟩
set_option maxRecDepth 100000 in
set_option maxHeartbeats 1000000 in
theorem first14Is_any (r : Role) (W : World) : Calls Tryz.prog 21 #[rV r] W fun e w' => e = .returned (.bool (!(r.1 == [97]))) ∧ Ext W w' := by
  obtain ⟨o, d⟩ := r
  have st := Own.startOld W
  unfold rV S
  simp only
  (try simp only [nsl, Value.cells, unB] at st)
  (try clear hc); have hc := st.facts; (try simp only [nfl, nft, Nat.reduceAdd] at hc)
  go_enter Tryz.func21, Tryz.ntmps21
  go_wp2_with ((((with_reducible refine wl_box ?_ (fun K hK => ?_)); rfl; refine owp_box (o := ⟨some 1, _, _, _, _, _⟩) rfl st ?_; apply Exists.intro; refine ⟨?_, ?_⟩; (focus (go_simp; try rfl)); (clear st; intro b1 w hb st; clear hb))); (try simp only [nsl, Value.cells, unB] at st); (try clear hc); have hc := st.facts; (try simp only [nfl, nft, Nat.reduceAdd] at hc))
  go_ret
  exact ⟨rfl, st.ext0⟩
set_option maxRecDepth 100000 in
set_option maxHeartbeats 1000000 in
theorem usual14_any (f : Fm) (W : World) (hf : FmOk W f) (hs : f.strip.nodes ≤ 1000000) (hl : FoL 100000 f.strip) :
    Calls Tryz.prog 15 #[fmV f] W fun e w' => e = .returned (.bool (foR f.strip && decide ((roleSet f.strip.atoms).length ≤ 8))) ∧ Ext W w' := by
  have HR := Lib.hid (fun W' (hx : Ext W W') => refRight11_any f W' (hf.ext hx) (by omega) hl)
  have HA := Lib.hid (fun W' (hx : Ext W W') => refAtoms_f f W' (hf.ext hx) hs hl)
  generalize foR f.strip = rv at *
  generalize roleSet f.strip.atoms = A at *
  generalize A.length = m at *
  clear hf hs hl
  obtain ⟨op, k, ⟨o, d⟩, fa, fn, fc, kids⟩ := f
  unfold fmV S at HR HA ⊢
  simp only at HR HA ⊢
  have st := Own.startOld W
  (try simp only [nsl, Value.cells, unB] at st)
  (try clear hc); have hc := st.facts; (try simp only [nfl, nft, Nat.reduceAdd] at hc)
  go_enter Tryz.func15, Tryz.ntmps15
  go_wp2_with ((((with_reducible refine wl_box ?_ (fun K hK => ?_)); rfl; refine owp_box (o := ⟨some 1, _, _, _, _, _⟩) rfl st ?_; apply Exists.intro; refine ⟨?_, ?_⟩; (focus (go_simp; try rfl)); (clear st; intro b1 w hb st; clear hb))); (try simp only [nsl, Value.cells, unB] at st); (try clear hc); have hc := st.facts; (try simp only [nfl, nft, Nat.reduceAdd] at hc))
  refine (HR.out _ st.ext0).mono ?_
  rintro en w ⟨rfl, hx⟩
  replace st := st.ext hx
  clear hx
  (try clear hc); have hc := st.facts; (try simp only [nfl, nft, Nat.reduceAdd] at hc)
  cases rv with
  | false =>
    go_wp2_with ((((with_reducible refine wl_box ?_ (fun K hK => ?_)); rfl; refine owp_box (o := ⟨some 1, _, _, _, _, _⟩) rfl st ?_; apply Exists.intro; refine ⟨?_, ?_⟩; (focus (go_simp; try rfl)); (clear st; intro b1 w hb st; clear hb))); (try simp only [nsl, Value.cells, unB] at st); (try clear hc); have hc := st.facts; (try simp only [nfl, nft, Nat.reduceAdd] at hc))
    go_ret
    exact ⟨rfl, st.ext0⟩
  | true =>
    go_wp2_with ((((with_reducible refine wl_box ?_ (fun K hK => ?_)); rfl; refine owp_box (o := ⟨some 1, _, _, _, _, _⟩) rfl st ?_; apply Exists.intro; refine ⟨?_, ?_⟩; (focus (go_simp; try rfl)); (clear st; intro b1 w hb st; clear hb))); (try simp only [nsl, Value.cells, unB] at st); (try clear hc); have hc := st.facts; (try simp only [nfl, nft, Nat.reduceAdd] at hc))
    refine (HA.out _ st.ext0).mono ?_
    rintro en w ⟨va, vc, rfl, h2⟩
    replace st := st.join h2
    clear h2
    simp only [List.cons_append, List.nil_append] at st
    by_cases hm : m ≤ 8
    · have hmi : (m : Int) ≤ 8 := by omega
      (try simp only [nsl, Value.cells, unB] at st)
      (try clear hc); have hc := st.facts; (try simp only [nfl, nft, Nat.reduceAdd] at hc)
      go_wp2_with fail
      go_ret
      exact ⟨by simp <;> omega, st.ext0⟩
    · have hmi : ¬ (m : Int) ≤ 8 := by omega
      (try simp only [nsl, Value.cells, unB] at st)
      (try clear hc); have hc := st.facts; (try simp only [nfl, nft, Nat.reduceAdd] at hc)
      go_wp2_with fail
      go_ret
      exact ⟨by simp <;> omega, st.ext0⟩
set_option maxRecDepth 100000 in
set_option maxHeartbeats 8000000 in
theorem first14_any (W : World) : Calls Tryz.prog 4 #[] W fun e w' => e = .returned (.bool true) ∧ Ext W w' := by
  have st := Own.startOld W
  (try simp only [nsl, Value.cells, unB] at st)
  (try clear hc); have hc := st.facts; (try simp only [nfl, nft, elI, elF, Nat.reduceAdd] at hc)
  go_enter Tryz.func4, Tryz.ntmps4
  go_wp2_with ((first
        | ((with_reducible refine wl_buildSlice ?_ (fun K hK => ?_)); rfl; refine owp_buildSlice (o := ⟨some 15, _, _, _, _, _⟩) rfl st ?_; apply Exists.intro; apply Exists.intro; apply Exists.intro; apply Exists.intro; refine ⟨?_, ?_⟩; (focus (go_simp; (first | done | exact ⟨⟨rfl, rfl⟩, rfl⟩ | rfl))); (clear st; intro b15 w hb st; clear hb))
        | ((with_reducible refine wl_alloc ?_ (fun K hK => ?_)); rfl; refine owp_alloc (o := ⟨some 2, _, _, _, _, _⟩) rfl st ?_; apply Exists.intro; apply Exists.intro; refine ⟨?_, ?_⟩; (focus (first | (go_simp; done) | (go_simp; rfl))); (clear st; intro b2 w hb st; clear hb))
        | ((with_reducible refine wl_store ?_ (fun K hK => ?_)); rfl; refine owp_store rfl st ?_; apply Exists.intro; apply Exists.intro; refine ⟨?_, ?_, ?_⟩; (focus (go_simp; try rfl)); (focus (go_simp; try rfl)); (first | (with_reducible refine ⟨0, _, _, _, _, get0, rfl, rfl, ?_, ?_, ?_, ?_⟩) | (with_reducible refine ⟨1, _, _, _, _, get1, rfl, rfl, ?_, ?_, ?_, ?_⟩) | (with_reducible refine ⟨2, _, _, _, _, get2, rfl, rfl, ?_, ?_, ?_, ?_⟩) | (with_reducible refine ⟨3, _, _, _, _, get3, rfl, rfl, ?_, ?_, ?_, ?_⟩) | (with_reducible refine ⟨4, _, _, _, _, get4, rfl, rfl, ?_, ?_, ?_, ?_⟩) | (with_reducible refine ⟨5, _, _, _, _, get5, rfl, rfl, ?_, ?_, ?_, ?_⟩) | (with_reducible refine ⟨6, _, _, _, _, get6, rfl, rfl, ?_, ?_, ?_, ?_⟩) | (with_reducible refine ⟨7, _, _, _, _, get7, rfl, rfl, ?_, ?_, ?_, ?_⟩) | (with_reducible refine ⟨8, _, _, _, _, get8, rfl, rfl, ?_, ?_, ?_, ?_⟩) | (with_reducible refine ⟨9, _, _, _, _, get9, rfl, rfl, ?_, ?_, ?_, ?_⟩)); (kernel_rfl); (simp [Value.cells]); (rfl); (clear st; intro w st))); (try simp only [nsl, Value.cells, unB] at st); (try clear hc); have hc := st.facts; (try simp only [nfl, nft, elI, elF, Nat.reduceAdd] at hc))
  refine (atom14_any #[97] _).mono ?_
  rintro en w ⟨rfl, hx⟩
  replace st := st.ext hx
  clear hx
  (try clear hc); have hc := st.facts; (try simp only [nfl, nft, elI, elF, Nat.reduceAdd] at hc)
  go_wp2_with ((first
        | ((with_reducible refine wl_buildSlice ?_ (fun K hK => ?_)); rfl; refine owp_buildSlice (o := ⟨some 15, _, _, _, _, _⟩) rfl st ?_; apply Exists.intro; apply Exists.intro; apply Exists.intro; apply Exists.intro; refine ⟨?_, ?_⟩; (focus (go_simp; (first | done | exact ⟨⟨rfl, rfl⟩, rfl⟩ | rfl))); (clear st; intro b15 w hb st; clear hb))
        | ((with_reducible refine wl_alloc ?_ (fun K hK => ?_)); rfl; refine owp_alloc (o := ⟨some 2, _, _, _, _, _⟩) rfl st ?_; apply Exists.intro; apply Exists.intro; refine ⟨?_, ?_⟩; (focus (first | (go_simp; done) | (go_simp; rfl))); (clear st; intro b2 w hb st; clear hb))
        | ((with_reducible refine wl_store ?_ (fun K hK => ?_)); rfl; refine owp_store rfl st ?_; apply Exists.intro; apply Exists.intro; refine ⟨?_, ?_, ?_⟩; (focus (go_simp; try rfl)); (focus (go_simp; try rfl)); (first | (with_reducible refine ⟨0, _, _, _, _, get0, rfl, rfl, ?_, ?_, ?_, ?_⟩) | (with_reducible refine ⟨1, _, _, _, _, get1, rfl, rfl, ?_, ?_, ?_, ?_⟩) | (with_reducible refine ⟨2, _, _, _, _, get2, rfl, rfl, ?_, ?_, ?_, ?_⟩) | (with_reducible refine ⟨3, _, _, _, _, get3, rfl, rfl, ?_, ?_, ?_, ?_⟩) | (with_reducible refine ⟨4, _, _, _, _, get4, rfl, rfl, ?_, ?_, ?_, ?_⟩) | (with_reducible refine ⟨5, _, _, _, _, get5, rfl, rfl, ?_, ?_, ?_, ?_⟩) | (with_reducible refine ⟨6, _, _, _, _, get6, rfl, rfl, ?_, ?_, ?_, ?_⟩) | (with_reducible refine ⟨7, _, _, _, _, get7, rfl, rfl, ?_, ?_, ?_, ?_⟩) | (with_reducible refine ⟨8, _, _, _, _, get8, rfl, rfl, ?_, ?_, ?_, ?_⟩) | (with_reducible refine ⟨9, _, _, _, _, get9, rfl, rfl, ?_, ?_, ?_, ?_⟩)); (kernel_rfl); (simp [Value.cells]); (rfl); (clear st; intro w st))); (try simp only [nsl, Value.cells, unB] at st); (try clear hc); have hc := st.facts; (try simp only [nfl, nft, elI, elF, Nat.reduceAdd] at hc))
  refine (atom14_any #[98] _).mono ?_
  rintro en w ⟨rfl, hx⟩
  replace st := st.ext hx
  clear hx
  (try clear hc); have hc := st.facts; (try simp only [nfl, nft, elI, elF, Nat.reduceAdd] at hc)
  go_wp2_with ((first
        | ((with_reducible refine wl_buildSlice ?_ (fun K hK => ?_)); rfl; refine owp_buildSlice (o := ⟨some 15, _, _, _, _, _⟩) rfl st ?_; apply Exists.intro; apply Exists.intro; apply Exists.intro; apply Exists.intro; refine ⟨?_, ?_⟩; (focus (go_simp; (first | done | exact ⟨⟨rfl, rfl⟩, rfl⟩ | rfl))); (clear st; intro b15 w hb st; clear hb))
        | ((with_reducible refine wl_alloc ?_ (fun K hK => ?_)); rfl; refine owp_alloc (o := ⟨some 2, _, _, _, _, _⟩) rfl st ?_; apply Exists.intro; apply Exists.intro; refine ⟨?_, ?_⟩; (focus (first | (go_simp; done) | (go_simp; rfl))); (clear st; intro b2 w hb st; clear hb))
        | ((with_reducible refine wl_store ?_ (fun K hK => ?_)); rfl; refine owp_store rfl st ?_; apply Exists.intro; apply Exists.intro; refine ⟨?_, ?_, ?_⟩; (focus (go_simp; try rfl)); (focus (go_simp; try rfl)); (first | (with_reducible refine ⟨0, _, _, _, _, get0, rfl, rfl, ?_, ?_, ?_, ?_⟩) | (with_reducible refine ⟨1, _, _, _, _, get1, rfl, rfl, ?_, ?_, ?_, ?_⟩) | (with_reducible refine ⟨2, _, _, _, _, get2, rfl, rfl, ?_, ?_, ?_, ?_⟩) | (with_reducible refine ⟨3, _, _, _, _, get3, rfl, rfl, ?_, ?_, ?_, ?_⟩) | (with_reducible refine ⟨4, _, _, _, _, get4, rfl, rfl, ?_, ?_, ?_, ?_⟩) | (with_reducible refine ⟨5, _, _, _, _, get5, rfl, rfl, ?_, ?_, ?_, ?_⟩) | (with_reducible refine ⟨6, _, _, _, _, get6, rfl, rfl, ?_, ?_, ?_, ?_⟩) | (with_reducible refine ⟨7, _, _, _, _, get7, rfl, rfl, ?_, ?_, ?_, ?_⟩) | (with_reducible refine ⟨8, _, _, _, _, get8, rfl, rfl, ?_, ?_, ?_, ?_⟩) | (with_reducible refine ⟨9, _, _, _, _, get9, rfl, rfl, ?_, ?_, ?_, ?_⟩)); (kernel_rfl); (simp [Value.cells]); (rfl); (clear st; intro w st))); (try simp only [nsl, Value.cells, unB] at st); (try clear hc); have hc := st.facts; (try simp only [nfl, nft, elI, elF, Nat.reduceAdd] at hc))
  refine (atom14_any #[99] _).mono ?_
  rintro en w ⟨rfl, hx⟩
  replace st := st.ext hx
  clear hx
  (try clear hc); have hc := st.facts; (try simp only [nfl, nft, elI, elF, Nat.reduceAdd] at hc)
  go_wp2_with ((first
        | ((with_reducible refine wl_buildSlice ?_ (fun K hK => ?_)); rfl; refine owp_buildSlice (o := ⟨some 15, _, _, _, _, _⟩) rfl st ?_; apply Exists.intro; apply Exists.intro; apply Exists.intro; apply Exists.intro; refine ⟨?_, ?_⟩; (focus (go_simp; (first | done | exact ⟨⟨rfl, rfl⟩, rfl⟩ | rfl))); (clear st; intro b15 w hb st; clear hb))
        | ((with_reducible refine wl_alloc ?_ (fun K hK => ?_)); rfl; refine owp_alloc (o := ⟨some 2, _, _, _, _, _⟩) rfl st ?_; apply Exists.intro; apply Exists.intro; refine ⟨?_, ?_⟩; (focus (first | (go_simp; done) | (go_simp; rfl))); (clear st; intro b2 w hb st; clear hb))
        | ((with_reducible refine wl_store ?_ (fun K hK => ?_)); rfl; refine owp_store rfl st ?_; apply Exists.intro; apply Exists.intro; refine ⟨?_, ?_, ?_⟩; (focus (go_simp; try rfl)); (focus (go_simp; try rfl)); (first | (with_reducible refine ⟨0, _, _, _, _, get0, rfl, rfl, ?_, ?_, ?_, ?_⟩) | (with_reducible refine ⟨1, _, _, _, _, get1, rfl, rfl, ?_, ?_, ?_, ?_⟩) | (with_reducible refine ⟨2, _, _, _, _, get2, rfl, rfl, ?_, ?_, ?_, ?_⟩) | (with_reducible refine ⟨3, _, _, _, _, get3, rfl, rfl, ?_, ?_, ?_, ?_⟩) | (with_reducible refine ⟨4, _, _, _, _, get4, rfl, rfl, ?_, ?_, ?_, ?_⟩) | (with_reducible refine ⟨5, _, _, _, _, get5, rfl, rfl, ?_, ?_, ?_, ?_⟩) | (with_reducible refine ⟨6, _, _, _, _, get6, rfl, rfl, ?_, ?_, ?_, ?_⟩) | (with_reducible refine ⟨7, _, _, _, _, get7, rfl, rfl, ?_, ?_, ?_, ?_⟩) | (with_reducible refine ⟨8, _, _, _, _, get8, rfl, rfl, ?_, ?_, ?_, ?_⟩) | (with_reducible refine ⟨9, _, _, _, _, get9, rfl, rfl, ?_, ?_, ?_, ?_⟩)); (kernel_rfl); (simp [Value.cells]); (rfl); (clear st; intro w st))); (try simp only [nsl, Value.cells, unB] at st); (try clear hc); have hc := st.facts; (try simp only [nfl, nft, elI, elF, Nat.reduceAdd] at hc))
  replace st := (st.blkToFl (i := 1) (n := 3) [fmA, fmB, fmC'] get1 rfl rfl).bare (I := fmsI [fmA, fmB, fmC']) (fun f hf => by
    rcases List.mem_cons.1 hf with e | hf
    · rw [e]; exact FmIn.mk ⟨Nat.le_refl _, by simp [maxLen]⟩ (Fl.nil _ _) (fun h => by omega) (by simp)
    · rcases List.mem_cons.1 hf with e | hf
      · rw [e]; exact FmIn.mk ⟨Nat.le_refl _, by simp [maxLen]⟩ (Fl.nil _ _) (fun h => by omega) (by simp)
      · rw [List.mem_singleton.1 hf]; exact FmIn.mk ⟨Nat.le_refl _, by simp [maxLen]⟩ (Fl.nil _ _) (fun h => by omega) (by simp))
  simp only [List.set, List.cons_append, List.nil_append] at st
  replace st := st.mkFm (i := 1) (j := 3) get1 get3 4 2 ([], []) 3 ⟨Nat.le_refl _, by simp [maxLen]⟩
  simp only [List.cons_append, List.nil_append] at st
  obtain ⟨fx, hfx⟩ : ∃ g, Fm.mk 4 2 ([], []) (some ⟨b15, 0, none⟩) 3 3 [fmA, fmB, fmC'] = g := ⟨_, rfl⟩
  have hsx : fx.strip = fo3 := by rw [← hfx]; rfl
  have HV : Hid (fmV fx = .agg #[.int .i64 4, .int .i64 2, .string ⟨#[]⟩, .string ⟨#[]⟩, .slice (some ⟨b15, 0, none⟩) 3 3]) := Lib.hid (by rw [← hfx]; rfl)
  rw [hfx] at st
  clear hfx
  have HL := Lib.hid (fun W' (h : FmOk W' fx) => leastSets_f fx W' h (by rw [hsx, fo3_nodes]; omega) (by rw [hsx]; exact fo3_L))
  have HF := Lib.hid (fun W' (h : FmOk W' fx) => setsFirst_f 21 #[] (fun r => !(r.1 == [97])) (fun _ _ => by kernel_rfl) fx W' h (by rw [hsx, fo3_nodes]; omega) (by rw [hsx]; exact fo3_L) (fun r w _ => first14Is_any r w))
  have HS := Lib.hid (fun a n c l W' (h : FmOk W' fx) (hl : Fl W' a n l) (hn : n ≤ 2000000) => setsSuffices_any fx a n c l W' h hl hn (by rw [hsx, fo3_nodes]; omega) (by rw [hsx]; exact fo3_L))
  have HL0 := Lib.hid (fun W' => leastSets_f (.mk 0 0 ([], []) none 0 0 []) W' (ok_leaf _ _ _ _) (by decide +kernel) (L_fo (by decide) (by decide) (by simp [stripL])))
  rw [show (Fm.mk 0 0 ([], []) none 0 0 []).strip = .mk 0 0 ([], []) [] from rfl, leastE_no fo0_R, lsL_no (by rw [leastE_no fo0_R]; decide)] at HL0
  rw [show fmV (Fm.mk 0 0 ([], []) none 0 0 []) = .agg #[.int .i64 0, .int .i64 0, .string ⟨#[]⟩, .string ⟨#[]⟩, .slice none 0 0] from rfl] at HL0
  rw [hsx] at HL HF HS
  rw [fo3_E, fo3_l] at HL
  rw [fo3_l, fo3_find] at HF
  rw [HV.out] at HL HF HS
  have HS1 := Lib.hid (fun a c W' h hl => HS.out a 2 c [roB, roC] W' h hl (by omega))
  have HS2 := Lib.hid (fun a c W' h hl => HS.out a 1 c [roB] W' h hl (by omega))
  have HW := Lib.hid (fun a c a2 c2 W' h1 h2 => setsWithin_any a 1 c [roB] a2 2 c2 [roB, roC] W' h1 h2 (by omega) (by omega))
  rw [fo3_s1] at HS1
  rw [fo3_s2] at HS2
  rw [fo3_w] at HW
  clear HS HV hsx
  (try simp only [nsl, Value.cells, unB] at st)
  (try clear hc); have hc := st.facts; (try simp only [nfl, nft, elI, elF, Nat.reduceAdd] at hc)
  go_wp2_with ((first
        | ((with_reducible refine wl_buildSlice ?_ (fun K hK => ?_)); rfl; refine owp_buildSlice (o := ⟨some 15, _, _, _, _, _⟩) rfl st ?_; apply Exists.intro; apply Exists.intro; apply Exists.intro; apply Exists.intro; refine ⟨?_, ?_⟩; (focus (go_simp; (first | done | exact ⟨⟨rfl, rfl⟩, rfl⟩ | rfl))); (clear st; intro b15 w hb st; clear hb))
        | ((with_reducible refine wl_alloc ?_ (fun K hK => ?_)); rfl; refine owp_alloc (o := ⟨some 2, _, _, _, _, _⟩) rfl st ?_; apply Exists.intro; apply Exists.intro; refine ⟨?_, ?_⟩; (focus (first | (go_simp; done) | (go_simp; rfl))); (clear st; intro b2 w hb st; clear hb))
        | ((with_reducible refine wl_store ?_ (fun K hK => ?_)); rfl; refine owp_store rfl st ?_; apply Exists.intro; apply Exists.intro; refine ⟨?_, ?_, ?_⟩; (focus (go_simp; try rfl)); (focus (go_simp; try rfl)); (first | (with_reducible refine ⟨0, _, _, _, _, get0, rfl, rfl, ?_, ?_, ?_, ?_⟩) | (with_reducible refine ⟨1, _, _, _, _, get1, rfl, rfl, ?_, ?_, ?_, ?_⟩) | (with_reducible refine ⟨2, _, _, _, _, get2, rfl, rfl, ?_, ?_, ?_, ?_⟩) | (with_reducible refine ⟨3, _, _, _, _, get3, rfl, rfl, ?_, ?_, ?_, ?_⟩) | (with_reducible refine ⟨4, _, _, _, _, get4, rfl, rfl, ?_, ?_, ?_, ?_⟩) | (with_reducible refine ⟨5, _, _, _, _, get5, rfl, rfl, ?_, ?_, ?_, ?_⟩) | (with_reducible refine ⟨6, _, _, _, _, get6, rfl, rfl, ?_, ?_, ?_, ?_⟩) | (with_reducible refine ⟨7, _, _, _, _, get7, rfl, rfl, ?_, ?_, ?_, ?_⟩) | (with_reducible refine ⟨8, _, _, _, _, get8, rfl, rfl, ?_, ?_, ?_, ?_⟩) | (with_reducible refine ⟨9, _, _, _, _, get9, rfl, rfl, ?_, ?_, ?_, ?_⟩)); (kernel_rfl); (simp [Value.cells]); (rfl); (clear st; intro w st))); (try simp only [nsl, Value.cells, unB] at st); (try clear hc); have hc := st.facts; (try simp only [nfl, nft, elI, elF, Nat.reduceAdd] at hc))
  refine (HL.out _ (st.fm (i := 4) get4)).mono ?_
  rintro en w ⟨va, n, vc, ys, rfl, hvc, hy, h2⟩
  replace st := st.join h2
  clear h2 hvc
  simp only [List.cons_append, List.nil_append] at st
  obtain ⟨⟨a0, n0, c0, x0⟩, ⟨a1, n1, c1, x1⟩, ⟨a2, n2, c2, x2⟩, rfl, e0, e1, e2⟩ := map3 hy
  simp only at e0 e1 e2
  subst e0 e1 e2
  clear hy
  obtain rfl : n = 3 := (st.flAt (i := 5) get5).1
  obtain ⟨bv, ov, rfl⟩ := (st.flAt (i := 5) get5).at (by omega)
  replace st := st.rsOf (i := 6) get6 (x := ⟨a0, n0, c0, [roA, roB]⟩) (by simp)
  simp only [List.cons_append, List.nil_append] at st
  obtain rfl : n0 = 2 := (st.flAt (i := 7) get7).1
  obtain ⟨b0, o0, rfl⟩ := (st.flAt (i := 7) get7).at (by omega)
  replace st := st.flToEl (i := 5) [(ov, .slice (some ⟨b0, o0, none⟩) 2 c0)] get5 (by omega) (by intro p hp; simp at hp; subst hp; exact ⟨0, rfl, rfl⟩)
  simp only [List.cons_append, List.nil_append] at st
  replace st := st.flToEl (i := 7) [(o0 + 2, .string ⟨#[98]⟩)] get7 (by omega) (by intro p hp; simp at hp; subst hp; exact ⟨2, rfl, rfl⟩)
  simp only [List.cons_append, List.nil_append] at st
  have st9 := st.keep [0, 2, 4, 8, 9] (by decide) (by simp)
  simp only [pick, List.map_cons, List.map_nil, List.getElem?_cons_zero, List.getElem?_cons_succ, Option.getD_some] at st9
  clear st
  have st := st9
  clear st9
  (try simp only [nsl, Value.cells, unB] at st)
  (try clear hc); have hc := st.facts; (try simp only [nfl, nft, elI, elF, Nat.reduceAdd] at hc)
  go_wp2_with ((first
        | ((with_reducible refine wl_buildSlice ?_ (fun K hK => ?_)); rfl; refine owp_buildSlice (o := ⟨some 15, _, _, _, _, _⟩) rfl st ?_; apply Exists.intro; apply Exists.intro; apply Exists.intro; apply Exists.intro; refine ⟨?_, ?_⟩; (focus (go_simp; (first | done | exact ⟨⟨rfl, rfl⟩, rfl⟩ | rfl))); (clear st; intro b15 w hb st; clear hb))
        | ((with_reducible refine wl_alloc ?_ (fun K hK => ?_)); rfl; refine owp_alloc (o := ⟨some 2, _, _, _, _, _⟩) rfl st ?_; apply Exists.intro; apply Exists.intro; refine ⟨?_, ?_⟩; (focus (first | (go_simp; done) | (go_simp; rfl))); (clear st; intro b2 w hb st; clear hb))
        | ((with_reducible refine wl_store ?_ (fun K hK => ?_)); rfl; refine owp_store rfl st ?_; apply Exists.intro; apply Exists.intro; refine ⟨?_, ?_, ?_⟩; (focus (go_simp; try rfl)); (focus (go_simp; try rfl)); (first | (with_reducible refine ⟨0, _, _, _, _, get0, rfl, rfl, ?_, ?_, ?_, ?_⟩) | (with_reducible refine ⟨1, _, _, _, _, get1, rfl, rfl, ?_, ?_, ?_, ?_⟩) | (with_reducible refine ⟨2, _, _, _, _, get2, rfl, rfl, ?_, ?_, ?_, ?_⟩) | (with_reducible refine ⟨3, _, _, _, _, get3, rfl, rfl, ?_, ?_, ?_, ?_⟩) | (with_reducible refine ⟨4, _, _, _, _, get4, rfl, rfl, ?_, ?_, ?_, ?_⟩) | (with_reducible refine ⟨5, _, _, _, _, get5, rfl, rfl, ?_, ?_, ?_, ?_⟩) | (with_reducible refine ⟨6, _, _, _, _, get6, rfl, rfl, ?_, ?_, ?_, ?_⟩) | (with_reducible refine ⟨7, _, _, _, _, get7, rfl, rfl, ?_, ?_, ?_, ?_⟩) | (with_reducible refine ⟨8, _, _, _, _, get8, rfl, rfl, ?_, ?_, ?_, ?_⟩) | (with_reducible refine ⟨9, _, _, _, _, get9, rfl, rfl, ?_, ?_, ?_, ?_⟩)); (kernel_rfl); (simp [Value.cells]); (rfl); (clear st; intro w st))); (try simp only [nsl, Value.cells, unB] at st); (try clear hc); have hc := st.facts; (try simp only [nfl, nft, elI, elF, Nat.reduceAdd] at hc))
  refine (HL0.out _).mono ?_
  rintro en w ⟨va', n', vc', ys', rfl, hvc, hy, h2⟩
  replace st := st.join h2
  clear h2 hvc hy
  have st9 := st.keep [0, 1, 2, 3, 4] (by decide) (by simp)
  simp only [pick, List.map_cons, List.map_nil, List.getElem?_cons_zero, List.getElem?_cons_succ, Option.getD_some, List.cons_append, List.nil_append] at st9
  clear st
  have st := st9
  clear st9
  (try simp only [nsl, Value.cells, unB] at st)
  (try clear hc); have hc := st.facts; (try simp only [nfl, nft, elI, elF, Nat.reduceAdd] at hc)
  go_wp2_with ((first
        | ((with_reducible refine wl_buildSlice ?_ (fun K hK => ?_)); rfl; refine owp_buildSlice (o := ⟨some 15, _, _, _, _, _⟩) rfl st ?_; apply Exists.intro; apply Exists.intro; apply Exists.intro; apply Exists.intro; refine ⟨?_, ?_⟩; (focus (go_simp; (first | done | exact ⟨⟨rfl, rfl⟩, rfl⟩ | rfl))); (clear st; intro b15 w hb st; clear hb))
        | ((with_reducible refine wl_alloc ?_ (fun K hK => ?_)); rfl; refine owp_alloc (o := ⟨some 2, _, _, _, _, _⟩) rfl st ?_; apply Exists.intro; apply Exists.intro; refine ⟨?_, ?_⟩; (focus (first | (go_simp; done) | (go_simp; rfl))); (clear st; intro b2 w hb st; clear hb))
        | ((with_reducible refine wl_store ?_ (fun K hK => ?_)); rfl; refine owp_store rfl st ?_; apply Exists.intro; apply Exists.intro; refine ⟨?_, ?_, ?_⟩; (focus (go_simp; try rfl)); (focus (go_simp; try rfl)); (first | (with_reducible refine ⟨0, _, _, _, _, get0, rfl, rfl, ?_, ?_, ?_, ?_⟩) | (with_reducible refine ⟨1, _, _, _, _, get1, rfl, rfl, ?_, ?_, ?_, ?_⟩) | (with_reducible refine ⟨2, _, _, _, _, get2, rfl, rfl, ?_, ?_, ?_, ?_⟩) | (with_reducible refine ⟨3, _, _, _, _, get3, rfl, rfl, ?_, ?_, ?_, ?_⟩) | (with_reducible refine ⟨4, _, _, _, _, get4, rfl, rfl, ?_, ?_, ?_, ?_⟩) | (with_reducible refine ⟨5, _, _, _, _, get5, rfl, rfl, ?_, ?_, ?_, ?_⟩) | (with_reducible refine ⟨6, _, _, _, _, get6, rfl, rfl, ?_, ?_, ?_, ?_⟩) | (with_reducible refine ⟨7, _, _, _, _, get7, rfl, rfl, ?_, ?_, ?_, ?_⟩) | (with_reducible refine ⟨8, _, _, _, _, get8, rfl, rfl, ?_, ?_, ?_, ?_⟩) | (with_reducible refine ⟨9, _, _, _, _, get9, rfl, rfl, ?_, ?_, ?_, ?_⟩)); (kernel_rfl); (simp [Value.cells]); (rfl); (clear st; intro w st))); (try simp only [nsl, Value.cells, unB] at st); (try clear hc); have hc := st.facts; (try simp only [nfl, nft, elI, elF, Nat.reduceAdd] at hc))
  refine (HF.out _ (st.fm (i := 2) get2)).mono ?_
  rintro en w ⟨sa, sn, sc, rfl, hsc, h2⟩
  replace st := st.join h2
  clear h2
  simp only [List.cons_append, List.nil_append, Option.getD_some] at st
  obtain rfl : sn = 2 := (st.flAt (i := 5) get5).1
  have hsc1 : 1 ≤ sc := by omega
  have hsc2 : sc ≤ 9223372036854775807 := by have := hsc.2; simp only [maxLen] at this; omega
  clear hsc
  obtain ⟨bs, os, rfl⟩ := (st.flAt (i := 5) get5).at (by omega)
  replace st := st.flToEl (i := 5) [(os, .string ⟨#[98]⟩)] get5 (by omega) (by intro p hp; simp at hp; subst hp; exact ⟨0, rfl, rfl⟩)
  simp only [List.cons_append, List.nil_append, Option.isSome_some] at st ⊢
  (try simp only [nsl, Value.cells, unB] at st)
  (try clear hc); have hc := st.facts; (try simp only [nfl, nft, elI, elF, Nat.reduceAdd] at hc)
  go_wp2_with fail
  refine Rg4.wp_region4_eq #[0, 1, 3, 7, 15, 31, 63, 127, 255, 511, 1023, 2047, 4095, 8191, 16383, 32767, 65535, 131071, 262143, 524287, 1048575, 2097151, 4194303, 8388607, 16777215, 33554431, 67108863, 134217727, 268435455, 536870911, 1073741823, 2147483647, 4294967295, 8589934591, 17179869183, 34359738367, 68719476735, 137438953471, 274877906943, 549755813887, 1099511627775, 2199023255551, 4398046511103, 8796093022207, 8796093022207, 35184372088831, 70368744177663, 140737488355327, 281474976710655, 281474976710655, 844424930131967, 2251799813685247, 4503599627370495, 9007199254740991, 18014398509481983, 36028797018963967, 72057594037927935, 36028797018963967, 288230376151711743, 576460752303423487, 1152921504606846975] [45, 51, 58] [10, 17, 20, 39, 43, 48] (fun _ => True) [0, 1, 2, 3, 4, 5, 6, 7, 8, 9, 10, 11, 12, 13, 14, 15, 16, 17, 18, 19, 20, 21, 22, 23, 24, 25, 26, 27, 28, 29, 30, 31, 32, 33, 34, 35, 36, 37, 38, 39, 40, 41, 42, 43, 44, 45, 46, 47, 48, 49, 50, 51, 52, 53, 54, 55, 56, 57, 58, 59, 60] (by kernel_rfl) (by kernel_rfl) (by kernel_rfl) (by kernel_rfl) (show Rg4.PB _ by repeat (first | with_reducible exact Rg4.pb_body | with_reducible exact Rg4.pb_bodyD rfl | with_reducible refine Rg4.pb_then ?_ | with_reducible refine Rg4.pb_inBlock ?_ | with_reducible refine Rg4.pb_noGoto ?_)) (trivial) ?_
  replace st := st.drew
  change Rg4.wp4 _ _ _ _ _ _ _ _ _ (World.drew _) _ _
  generalize World.drew _ = w at st ⊢
  (try clear hc); have hc := st.facts; (try simp only [nfl, nft, elI, elF, Nat.reduceAdd] at hc)
  iterate 3 (refine Rg4.w4_any (Rg4.want_none rfl) rfl ?_; apply Exists.intro; refine ⟨fun w' => ?_, ?_⟩; (focus (first | (go_simp; done) | (go_simp; first | rfl | (rw [if_neg] <;> first | rfl | omega) | (rw [if_pos] <;> first | rfl | omega)))); (try simp only [Rg4.nrm]))
  iterate 3 (first | (refine Rg4.w4_any (Rg4.wt rfl rfl rfl) rfl ?_; apply Exists.intro; refine ⟨fun w' => ?_, ?_⟩; (focus (first | (go_simp; done) | (go_simp; first | rfl | (rw [if_neg] <;> first | rfl | omega) | (rw [if_pos] <;> first | rfl | omega)))); (try simp only [Rg4.nrm])) | (refine Rg4.w4_skip (Rg4.uw rfl rfl rfl) ?_; (try simp only [Rg4.nrm])) | (refine Rg4.w4_skip (Rg4.un rfl rfl rfl) ?_; (try simp only [Rg4.nrm])))
  iterate 2 (refine Rg4.w4_any (Rg4.want_none rfl) rfl ?_; apply Exists.intro; refine ⟨fun w' => ?_, ?_⟩; (focus (first | (go_simp; done) | (go_simp; first | rfl | (rw [if_neg] <;> first | rfl | omega) | (rw [if_pos] <;> first | rfl | omega)))); (try simp only [Rg4.nrm]))
  iterate 2 (first | (refine Rg4.w4_any (Rg4.wt rfl rfl rfl) rfl ?_; apply Exists.intro; refine ⟨fun w' => ?_, ?_⟩; (focus (first | (go_simp; done) | (go_simp; first | rfl | (rw [if_neg] <;> first | rfl | omega) | (rw [if_pos] <;> first | rfl | omega)))); (try simp only [Rg4.nrm])) | (refine Rg4.w4_skip (Rg4.uw rfl rfl rfl) ?_; (try simp only [Rg4.nrm])) | (refine Rg4.w4_skip (Rg4.un rfl rfl rfl) ?_; (try simp only [Rg4.nrm])))
  (first | (refine Rg4.w4_read (Rg4.wt rfl rfl rfl) rfl rfl ?_; apply Exists.intro; refine ⟨fun w' hw' hcl' => ?_, ?_⟩; focus (subst hw'; (focus (first | (go_simp; done) | (go_simp; first | rfl | (rw [if_neg] <;> first | rfl | omega) | (rw [if_pos] <;> first | rfl | omega))))); (try simp only [Rg4.nrm])) | (refine Rg4.w4_skip (Rg4.uw rfl rfl rfl) ?_; (try simp only [Rg4.nrm])) | (refine Rg4.w4_skip (Rg4.un rfl rfl rfl) ?_; (try simp only [Rg4.nrm])))
  iterate 2 (first | (refine Rg4.w4_any (Rg4.wt rfl rfl rfl) rfl ?_; apply Exists.intro; refine ⟨fun w' => ?_, ?_⟩; (focus (first | (go_simp; done) | (go_simp; first | rfl | (rw [if_neg] <;> first | rfl | omega) | (rw [if_pos] <;> first | rfl | omega)))); (try simp only [Rg4.nrm])) | (refine Rg4.w4_skip (Rg4.uw rfl rfl rfl) ?_; (try simp only [Rg4.nrm])) | (refine Rg4.w4_skip (Rg4.un rfl rfl rfl) ?_; (try simp only [Rg4.nrm])))
  iterate 2 (refine Rg4.w4_any (Rg4.want_none rfl) rfl ?_; apply Exists.intro; refine ⟨fun w' => ?_, ?_⟩; (focus (first | (go_simp; done) | (go_simp; first | rfl | (rw [if_neg] <;> first | rfl | omega) | (rw [if_pos] <;> first | rfl | omega)))); (try simp only [Rg4.nrm]))
  iterate 2 (first | (refine Rg4.w4_any (Rg4.wt rfl rfl rfl) rfl ?_; apply Exists.intro; refine ⟨fun w' => ?_, ?_⟩; (focus (first | (go_simp; done) | (go_simp; first | rfl | (rw [if_neg] <;> first | rfl | omega) | (rw [if_pos] <;> first | rfl | omega)))); (try simp only [Rg4.nrm])) | (refine Rg4.w4_skip (Rg4.uw rfl rfl rfl) ?_; (try simp only [Rg4.nrm])) | (refine Rg4.w4_skip (Rg4.un rfl rfl rfl) ?_; (try simp only [Rg4.nrm])))
  (first | (refine Rg4.w4_read (Rg4.wt rfl rfl rfl) rfl rfl ?_; apply Exists.intro; refine ⟨fun w' hw' hcl' => ?_, ?_⟩; focus (subst hw'; (focus (first | (go_simp; done) | (go_simp; first | rfl | (rw [if_neg] <;> first | rfl | omega) | (rw [if_pos] <;> first | rfl | omega))))); (try simp only [Rg4.nrm])) | (refine Rg4.w4_skip (Rg4.uw rfl rfl rfl) ?_; (try simp only [Rg4.nrm])) | (refine Rg4.w4_skip (Rg4.un rfl rfl rfl) ?_; (try simp only [Rg4.nrm])))
  iterate 2 (first | (refine Rg4.w4_any (Rg4.wt rfl rfl rfl) rfl ?_; apply Exists.intro; refine ⟨fun w' => ?_, ?_⟩; (focus (first | (go_simp; done) | (go_simp; first | rfl | (rw [if_neg] <;> first | rfl | omega) | (rw [if_pos] <;> first | rfl | omega)))); (try simp only [Rg4.nrm])) | (refine Rg4.w4_skip (Rg4.uw rfl rfl rfl) ?_; (try simp only [Rg4.nrm])) | (refine Rg4.w4_skip (Rg4.un rfl rfl rfl) ?_; (try simp only [Rg4.nrm])))
  (first | (refine Rg4.w4_read (Rg4.wt rfl rfl rfl) rfl rfl ?_; apply Exists.intro; refine ⟨fun w' hw' hcl' => ?_, ?_⟩; focus (subst hw'; (focus (first | (go_simp; done) | (go_simp; first | rfl | (rw [if_neg] <;> first | rfl | omega) | (rw [if_pos] <;> first | rfl | omega))))); (try simp only [Rg4.nrm])) | (refine Rg4.w4_skip (Rg4.uw rfl rfl rfl) ?_; (try simp only [Rg4.nrm])) | (refine Rg4.w4_skip (Rg4.un rfl rfl rfl) ?_; (try simp only [Rg4.nrm])))
  (first | (refine Rg4.w4_any (Rg4.wt rfl rfl rfl) rfl ?_; apply Exists.intro; refine ⟨fun w' => ?_, ?_⟩; (focus (first | (go_simp; done) | (go_simp; first | rfl | (rw [if_neg] <;> first | rfl | omega) | (rw [if_pos] <;> first | rfl | omega)))); (try simp only [Rg4.nrm])) | (refine Rg4.w4_skip (Rg4.uw rfl rfl rfl) ?_; (try simp only [Rg4.nrm])) | (refine Rg4.w4_skip (Rg4.un rfl rfl rfl) ?_; (try simp only [Rg4.nrm])))
  iterate 2 (refine Rg4.w4_any (Rg4.want_none rfl) rfl ?_; apply Exists.intro; refine ⟨fun w' => ?_, ?_⟩; (focus (first | (go_simp; done) | (go_simp; first | rfl | (rw [if_neg] <;> first | rfl | omega) | (rw [if_pos] <;> first | rfl | omega)))); (try simp only [Rg4.nrm]))
  iterate 2 (first | (refine Rg4.w4_any (Rg4.wt rfl rfl rfl) rfl ?_; apply Exists.intro; refine ⟨fun w' => ?_, ?_⟩; (focus (first | (go_simp; done) | (go_simp; first | rfl | (rw [if_neg] <;> first | rfl | omega) | (rw [if_pos] <;> first | rfl | omega)))); (try simp only [Rg4.nrm])) | (refine Rg4.w4_skip (Rg4.uw rfl rfl rfl) ?_; (try simp only [Rg4.nrm])) | (refine Rg4.w4_skip (Rg4.un rfl rfl rfl) ?_; (try simp only [Rg4.nrm])))
  iterate 2 (refine Rg4.w4_any (Rg4.want_none rfl) rfl ?_; apply Exists.intro; refine ⟨fun w' => ?_, ?_⟩; (focus (first | (go_simp; done) | (go_simp; first | rfl | (rw [if_neg] <;> first | rfl | omega) | (rw [if_pos] <;> first | rfl | omega)))); (try simp only [Rg4.nrm]))
  (first | (refine Rg4.w4_any (Rg4.wt rfl rfl rfl) rfl ?_; apply Exists.intro; refine ⟨fun w' => ?_, ?_⟩; (focus (first | (go_simp; done) | (go_simp; first | rfl | (rw [if_neg] <;> first | rfl | omega) | (rw [if_pos] <;> first | rfl | omega)))); (try simp only [Rg4.nrm])) | (refine Rg4.w4_skip (Rg4.uw rfl rfl rfl) ?_; (try simp only [Rg4.nrm])) | (refine Rg4.w4_skip (Rg4.un rfl rfl rfl) ?_; (try simp only [Rg4.nrm])))
  iterate 2 (refine Rg4.w4_any (Rg4.want_none rfl) rfl ?_; apply Exists.intro; refine ⟨fun w' => ?_, ?_⟩; (focus (first | (go_simp; done) | (go_simp; first | rfl | (rw [if_neg] <;> first | rfl | omega) | (rw [if_pos] <;> first | rfl | omega)))); (try simp only [Rg4.nrm]))
  iterate 3 (first | (refine Rg4.w4_any (Rg4.wt rfl rfl rfl) rfl ?_; apply Exists.intro; refine ⟨fun w' => ?_, ?_⟩; (focus (first | (go_simp; done) | (go_simp; first | rfl | (rw [if_neg] <;> first | rfl | omega) | (rw [if_pos] <;> first | rfl | omega)))); (try simp only [Rg4.nrm])) | (refine Rg4.w4_skip (Rg4.uw rfl rfl rfl) ?_; (try simp only [Rg4.nrm])) | (refine Rg4.w4_skip (Rg4.un rfl rfl rfl) ?_; (try simp only [Rg4.nrm])))
  iterate 2 (refine Rg4.w4_any (Rg4.want_none rfl) rfl ?_; apply Exists.intro; refine ⟨fun w' => ?_, ?_⟩; (focus (first | (go_simp; done) | (go_simp; first | rfl | (rw [if_neg] <;> first | rfl | omega) | (rw [if_pos] <;> first | rfl | omega)))); (try simp only [Rg4.nrm]))
  iterate 3 (first | (refine Rg4.w4_any (Rg4.wt rfl rfl rfl) rfl ?_; apply Exists.intro; refine ⟨fun w' => ?_, ?_⟩; (focus (first | (go_simp; done) | (go_simp; first | rfl | (rw [if_neg] <;> first | rfl | omega) | (rw [if_pos] <;> first | rfl | omega)))); (try simp only [Rg4.nrm])) | (refine Rg4.w4_skip (Rg4.uw rfl rfl rfl) ?_; (try simp only [Rg4.nrm])) | (refine Rg4.w4_skip (Rg4.un rfl rfl rfl) ?_; (try simp only [Rg4.nrm])))
  (first | (refine Rg4.w4_read (Rg4.wt rfl rfl rfl) rfl rfl ?_; apply Exists.intro; refine ⟨fun w' hw' hcl' => ?_, ?_⟩; focus (subst hw'; (focus (first | (go_simp; done) | (go_simp; first | rfl | (rw [if_neg] <;> first | rfl | omega) | (rw [if_pos] <;> first | rfl | omega))))); (try simp only [Rg4.nrm])) | (refine Rg4.w4_skip (Rg4.uw rfl rfl rfl) ?_; (try simp only [Rg4.nrm])) | (refine Rg4.w4_skip (Rg4.un rfl rfl rfl) ?_; (try simp only [Rg4.nrm])))
  (first | (refine Rg4.w4_any (Rg4.wt rfl rfl rfl) rfl ?_; apply Exists.intro; refine ⟨fun w' => ?_, ?_⟩; (focus (first | (go_simp; done) | (go_simp; first | rfl | (rw [if_neg] <;> first | rfl | omega) | (rw [if_pos] <;> first | rfl | omega)))); (try simp only [Rg4.nrm])) | (refine Rg4.w4_skip (Rg4.uw rfl rfl rfl) ?_; (try simp only [Rg4.nrm])) | (refine Rg4.w4_skip (Rg4.un rfl rfl rfl) ?_; (try simp only [Rg4.nrm])))
  iterate 2 (refine Rg4.w4_any (Rg4.want_none rfl) rfl ?_; apply Exists.intro; refine ⟨fun w' => ?_, ?_⟩; (focus (first | (go_simp; done) | (go_simp; first | rfl | (rw [if_neg] <;> first | rfl | omega) | (rw [if_pos] <;> first | rfl | omega)))); (try simp only [Rg4.nrm]))
  (first | (refine Rg4.w4_read (Rg4.wt rfl rfl rfl) rfl rfl ?_; apply Exists.intro; refine ⟨fun w' hw' hcl' => ?_, ?_⟩; focus (subst hw'; (focus (first | (go_simp; done) | (go_simp; first | rfl | (rw [if_neg] <;> first | rfl | omega) | (rw [if_pos] <;> first | rfl | omega))))); (try simp only [Rg4.nrm])) | (refine Rg4.w4_skip (Rg4.uw rfl rfl rfl) ?_; (try simp only [Rg4.nrm])) | (refine Rg4.w4_skip (Rg4.un rfl rfl rfl) ?_; (try simp only [Rg4.nrm])))
  (first | (refine Rg4.w4_any (Rg4.wt rfl rfl rfl) rfl ?_; apply Exists.intro; refine ⟨fun w' => ?_, ?_⟩; (focus (first | (go_simp; done) | (go_simp; first | rfl | (rw [if_neg] <;> first | rfl | omega) | (rw [if_pos] <;> first | rfl | omega)))); (try simp only [Rg4.nrm])) | (refine Rg4.w4_skip (Rg4.uw rfl rfl rfl) ?_; (try simp only [Rg4.nrm])) | (refine Rg4.w4_skip (Rg4.un rfl rfl rfl) ?_; (try simp only [Rg4.nrm])))
  refine Rg4.w4_bar (Rg4.want_of 42 74 true rfl rfl rfl) rfl (fun w' hw' hcl _ K hK => ?_)
  subst hw'
  go_wp2_with fail
  refine (HS1.out _ _ _ (st.fm (i := 2) get2) (st.flAt (i := 5) get5)).mono ?_
  rintro en w ⟨rfl, hx⟩
  replace st := st.ext hx
  clear hx
  (try clear hc); have hc := st.facts; (try simp only [nfl, nft, elI, elF, Nat.reduceAdd] at hc)
  refine hK _ _ ⟨trivial, ?_⟩
  clear hK
  (try simp only [Rg4.nrm])
  iterate 2 (refine Rg4.w4_any (Rg4.want_none rfl) rfl ?_; apply Exists.intro; refine ⟨fun w' => ?_, ?_⟩; (focus (first | (go_simp; done) | (go_simp; first | rfl | (rw [if_neg] <;> first | rfl | omega) | (rw [if_pos] <;> first | rfl | omega)))); (try simp only [Rg4.nrm]))
  (first | (refine Rg4.w4_read (Rg4.wt rfl rfl rfl) rfl rfl ?_; apply Exists.intro; refine ⟨fun w' hw' hcl' => ?_, ?_⟩; focus (subst hw'; (focus (first | (go_simp; done) | (go_simp; first | rfl | (rw [if_neg] <;> first | rfl | omega) | (rw [if_pos] <;> first | rfl | omega))))); (try simp only [Rg4.nrm])) | (refine Rg4.w4_skip (Rg4.uw rfl rfl rfl) ?_; (try simp only [Rg4.nrm])) | (refine Rg4.w4_skip (Rg4.un rfl rfl rfl) ?_; (try simp only [Rg4.nrm])))
  iterate 2 (first | (refine Rg4.w4_any (Rg4.wt rfl rfl rfl) rfl ?_; apply Exists.intro; refine ⟨fun w' => ?_, ?_⟩; (focus (first | (go_simp; done) | (go_simp; first | rfl | (rw [if_neg] <;> first | rfl | omega) | (rw [if_pos] <;> first | rfl | omega)))); (try simp only [Rg4.nrm])) | (refine Rg4.w4_skip (Rg4.uw rfl rfl rfl) ?_; (try simp only [Rg4.nrm])) | (refine Rg4.w4_skip (Rg4.un rfl rfl rfl) ?_; (try simp only [Rg4.nrm])))
  refine Rg4.w4_bar (Rg4.want_of 47 79 true rfl rfl rfl) rfl (fun w' hw' hcl _ K hK => ?_)
  subst hw'
  go_wp2_with fail
  refine (HS2.out _ _ _ (st.fm (i := 2) get2) ((st.flAt (i := 5) get5).part 0 1 (by omega))).mono ?_
  rintro en w ⟨rfl, hx⟩
  replace st := st.ext hx
  clear hx
  (try clear hc); have hc := st.facts; (try simp only [nfl, nft, elI, elF, Nat.reduceAdd] at hc)
  refine hK _ _ ⟨trivial, ?_⟩
  clear hK
  (try simp only [Rg4.nrm])
  (first | (refine Rg4.w4_any (Rg4.wt rfl rfl rfl) rfl ?_; apply Exists.intro; refine ⟨fun w' => ?_, ?_⟩; (focus (first | (go_simp; done) | (go_simp; first | rfl | (rw [if_neg] <;> first | rfl | omega) | (rw [if_pos] <;> first | rfl | omega)))); (try simp only [Rg4.nrm])) | (refine Rg4.w4_skip (Rg4.uw rfl rfl rfl) ?_; (try simp only [Rg4.nrm])) | (refine Rg4.w4_skip (Rg4.un rfl rfl rfl) ?_; (try simp only [Rg4.nrm])))
  iterate 2 (refine Rg4.w4_any (Rg4.want_none rfl) rfl ?_; apply Exists.intro; refine ⟨fun w' => ?_, ?_⟩; (focus (first | (go_simp; done) | (go_simp; first | rfl | (rw [if_neg] <;> first | rfl | omega) | (rw [if_pos] <;> first | rfl | omega)))); (try simp only [Rg4.nrm]))
  iterate 3 (first | (refine Rg4.w4_any (Rg4.wt rfl rfl rfl) rfl ?_; apply Exists.intro; refine ⟨fun w' => ?_, ?_⟩; (focus (first | (go_simp; done) | (go_simp; first | rfl | (rw [if_neg] <;> first | rfl | omega) | (rw [if_pos] <;> first | rfl | omega)))); (try simp only [Rg4.nrm])) | (refine Rg4.w4_skip (Rg4.uw rfl rfl rfl) ?_; (try simp only [Rg4.nrm])) | (refine Rg4.w4_skip (Rg4.un rfl rfl rfl) ?_; (try simp only [Rg4.nrm])))
  refine Rg4.w4_bar (Rg4.want_of 54 86 true rfl rfl rfl) rfl (fun w' hw' hcl _ K hK => ?_)
  subst hw'
  go_wp2_with fail
  refine (HW.out _ _ _ _ _ ((st.flAt (i := 5) get5).part 0 1 (by omega)) (st.flAt (i := 5) get5)).mono ?_
  rintro en w ⟨rfl, hx⟩
  replace st := st.ext hx
  clear hx
  (try clear hc); have hc := st.facts; (try simp only [nfl, nft, elI, elF, Nat.reduceAdd] at hc)
  refine hK _ _ ⟨trivial, ?_⟩
  clear hK
  (try simp only [Rg4.nrm])
  iterate 2 (refine Rg4.w4_any (Rg4.want_none rfl) rfl ?_; apply Exists.intro; refine ⟨fun w' => ?_, ?_⟩; (focus (first | (go_simp; done) | (go_simp; first | rfl | (rw [if_neg] <;> first | rfl | omega) | (rw [if_pos] <;> first | rfl | omega)))); (try simp only [Rg4.nrm]))
  refine Rg4.w4_nil (fun w' hw' hcl' _ => ?_); subst hw'; clear hcl'
  go_wp2_with fail
  go_ret
  exact ⟨rfl, st.ext0⟩
end Go.Proofs.YtcihjohgmhebiaaGreat

namespace Go.Proofs.YtcihjohgmhebiaaGreat
set_option linter.unusedSimpArgs false
set_option linter.unusedVariables false
open Go Go.RowKit
theorem fmV_cells (x : Fm) : Value.agg (Flt.cells x).toArray = fmV x := by cases x; rfl
end Go.Proofs.YtcihjohgmhebiaaGreat

namespace Go.Proofs.YtcihjohgmhebiaaGreat
set_option linter.unusedSimpArgs false
set_option linter.unusedVariables false
open Go Go.RowKit
theorem run_equalIn_nil_nil {P : Program} (w : World) (d : Nat) (t : TypeId) {ps rs : Array TypeId} {v : Bool} (h : P.underlying t = some (.func ps rs v)) :
    (Op.equalIn (d + 1) t .nilFunc .nilFunc).run P w = .ok true w := by simp [Op.equalIn, run_underlying h]
@[go_sem high] theorem eqlNilNil (w : World) : (binOp .eql 35 .nilFunc .nilFunc).run Tryz.prog w = .ok (.bool true) w := by
  simp only [binOp]
  simp [Op.equal, Op.maxDepth, run_equalIn_nil_nil w 9999 35 Tryz.underlying35]
set_option maxRecDepth 100000 in
set_option maxHeartbeats 2000000 in
theorem tellIs_any (b : Nat) (a : Option Addr) (n c : Nat) (la : List Role) (r : Role) (W : World) (hb : Blk W b [.slice a n c]) (h : Fl W a n la) (hn : n ≤ 2000000) :
    Calls Tryz.prog 7 #[rV r, .pointer (some ⟨b, 0, none⟩)] W fun e w' => e = .returned (.bool (decide (r ∈ la))) ∧ Ext W w' := by
  have HH := Lib.hid (fun W' (hx : Ext W W') => refRoleHas_any a n c la r W' (Arr.ext h hx) hn)
  have HB := Lib.hid hb
  clear hb h hn
  obtain ⟨v, hv⟩ : ∃ v, decide (r ∈ la) = v := ⟨_, rfl⟩
  rw [hv] at HH ⊢
  clear hv
  obtain ⟨o, d⟩ := r
  have st := Own.startOld W
  unfold rV S at HH ⊢
  simp only at HH ⊢
  have r0 := HB.out.cell 0
  simp only [List.getElem?_cons_zero] at r0
  have hr0 := st.addEl (i := 0) get0 b 0 (.slice a n c) [] ⟨r0, trivial⟩
  replace st := hr0
  clear r0 hr0
  simp only [List.cons_append, List.nil_append] at st
  (try simp only [nsl, Value.cells, unB] at st)
  (try clear hc); have hc := st.facts; (try simp only [nfl, nft, elI, elF, Nat.reduceAdd] at hc)
  go_enter Tryz.func7, Tryz.ntmps7
  go_wp2_with ((((with_reducible refine wl_box ?_ (fun K hK => ?_)); rfl; refine owp_box (o := ⟨some 2, _, _, _, _, _⟩) rfl st ?_; apply Exists.intro; refine ⟨?_, ?_⟩; (focus (go_simp; try rfl)); (clear st; intro b2 w hb st; clear hb))); (try simp only [nsl, Value.cells, unB] at st); (try clear hc); have hc := st.facts; (try simp only [nfl, nft, elI, elF, Nat.reduceAdd] at hc))
  refine (HH.out _ st.ext0).mono ?_
  rintro en w ⟨rfl, hx⟩
  replace st := st.ext hx
  clear hx
  (try clear hc); have hc := st.facts; (try simp only [nfl, nft, elI, elF, Nat.reduceAdd] at hc)
  go_wp2_with ((((with_reducible refine wl_box ?_ (fun K hK => ?_)); rfl; refine owp_box (o := ⟨some 2, _, _, _, _, _⟩) rfl st ?_; apply Exists.intro; refine ⟨?_, ?_⟩; (focus (go_simp; try rfl)); (clear st; intro b2 w hb st; clear hb))); (try simp only [nsl, Value.cells, unB] at st); (try clear hc); have hc := st.facts; (try simp only [nfl, nft, elI, elF, Nat.reduceAdd] at hc))
  go_ret
  exact ⟨rfl, st.ext0⟩
set_option maxRecDepth 100000 in
set_option maxHeartbeats 2000000 in
theorem setsFirstNil_any (f : Fm) (W : World) (hf : FmOk W f) (hs : f.strip.nodes ≤ 1000000) (hl : FoL 100000 f.strip) :
    Calls Tryz.prog 9 #[fmV f, .nilFunc] W fun e w' => e = .returned (.tuple #[.slice none 0 0, .bool false]) ∧ Ext W w' := by
  have HL := Lib.hid (fun W' (hx : Ext W W') => leastSets_f f W' (hf.ext hx) hs hl)
  generalize leastE f.strip = er at *
  generalize lsL f.strip = ll at *
  clear hf hs hl
  obtain ⟨op, k, ⟨o, d⟩, fa, fn, fc, kids⟩ := f
  unfold fmV S at HL ⊢
  simp only at HL ⊢
  have st := Own.start (fun _ => False) (fun _ => False) W
  (try simp only [nsl, Value.cells, unB] at st)
  (try clear hc); have hc := st.facts; (try simp only [nfl, nft, elI, elF, Nat.reduceAdd] at hc)
  go_enter Tryz.func9, Tryz.ntmps9
  go_wp2_with ((first
        | ((with_reducible refine wl_box ?_ (fun K hK => ?_)); rfl; refine owp_box (o := ⟨some 2, _, _, _, _, _⟩) rfl st ?_; apply Exists.intro; refine ⟨?_, ?_⟩; (focus (go_simp; try rfl)); (clear st; intro b2 w hb st; clear hb))
        | ((with_reducible refine wl_box ?_ (fun K hK => ?_)); rfl; refine owp_box (o := ⟨some 3, _, _, _, _, _⟩) rfl st ?_; apply Exists.intro; refine ⟨?_, ?_⟩; (focus (go_simp; try rfl)); (clear st; intro b3 w hb st; clear hb))); (try simp only [nsl, Value.cells, unB] at st); (try clear hc); have hc := st.facts; (try simp only [nfl, nft, elI, elF, Nat.reduceAdd] at hc))
  refine (HL.out _ st.ext0).mono ?_
  rintro en w ⟨va, n, vc, ys, rfl, hvc, hy, h2⟩
  replace st := st.join h2
  clear h2 hvc hy
  simp only [List.cons_append, List.nil_append] at st
  by_cases her : er = 0
  · subst her
    (try simp only [nsl, Value.cells, unB] at st)
    (try clear hc); have hc := st.facts; (try simp only [nfl, nft, elI, elF, Nat.reduceAdd] at hc)
    go_wp2_with fail
    go_ret2
    exact ⟨rfl, st.ext0⟩
  · have herb : (er == 0) = false := by simpa using her
    (try simp only [nsl, Value.cells, unB] at st)
    (try clear hc); have hc := st.facts; (try simp only [nfl, nft, elI, elF, Nat.reduceAdd] at hc)
    go_wp2_with fail
    go_ret2
    exact ⟨rfl, st.ext0⟩
theorem find_wi {ll : List (List Role)} {zs : List RsT} {la : List Role} {j : Nat} {z : RsT} (h : ∀ x ∈ zs.take j, wiL x.xs la = false) (hz : zs.map (·.xs) = ll) (hj : zs[j]? = some z) (hy : wiL z.xs la = true) : (ll.find? fun z => z.all fun r => decide (r ∈ la)) = some z.xs := by
  rw [← hz]; exact find_hit (p := fun z => z.all fun r => decide (r ∈ la)) h hj hy
theorem find_no {ll : List (List Role)} {zs : List RsT} {la : List Role} (h : ∀ x ∈ zs, wiL x.xs la = false) (hz : zs.map (·.xs) = ll) : (ll.find? fun z => z.all fun r => decide (r ∈ la)) = none := by
  rw [← hz]; exact find_miss (p := fun z => z.all fun r => decide (r ∈ la)) h
theorem suF_find {f : Fo} (h : foR f = true) (la : List Role) : suF f la = ((lsS f).find? fun z => z.all fun r => decide (r ∈ la)).isSome := by
  rw [lsS_has h, Bool.eq_iff_iff, List.any_eq_true, List.find?_isSome]
  exact Iff.rfl
set_option maxRecDepth 100000 in
set_option maxHeartbeats 8000000 in
theorem setsTell_all (f : Fm) (a : Option Addr) (n c : Nat) (la : List Role) (a2 : Option Addr) (n2 c2 : Nat) (lb : List Role) (W : World) (hf : FmOk W f) (ha : Fl W a n la) (hb : Fl W a2 n2 lb) (hs : f.strip.great ≤ 2000000) (hn : n ≤ 2000000) (hn2 : n2 ≤ 2000000) :
    Calls Tryz.prog 3 #[fmV f, .slice a n c, .slice a2 n2 c2] W fun e w' => e = .returned (.bool true) ∧ Ext W w' := by
  have HFA := Lib.hid ha
  have HGR := Lib.hid (fun W' b (h : Fl W' (some ⟨b, 0, none⟩) 1 [f]) (hx : Ext W W') => fmGreat_any [f] _ 1 1 W' h (fun x hx' => by rw [List.mem_singleton.1 hx']; exact hf.ext hx) (by simp [greatL]; omega))
  rw [show greatL ([f].map Fm.strip) = f.strip.great by simp [greatL]] at HGR
  have HNL : Hid (f.strip.great ≤ 200 → f.strip.nodes ≤ 200 ∧ FoL 3200 f.strip) := Lib.hid (fun h => ⟨by have := great_nodes f.strip; omega, great_L f.strip 200 h⟩)
  have HL := Lib.hid (fun W' (hx : Ext W W') hs hl => leastSets_f f W' (hf.ext hx) hs hl)
  have HFI := Lib.hid (fun b W' (hx : Ext W W') (hbk : Blk W' b [.slice a n c]) hs hl => setsFirst_f 7 #[.pointer (some ⟨b, 0, none⟩)] (fun r => decide (r ∈ la)) (fun _ _ => by kernel_rfl) f W' (hf.ext hx) hs hl (fun r w hw => tellIs_any b a n c la r w (hbk.ext hw) (Arr.ext ha (hx.trans hw)) hn))
  have HFN := Lib.hid (fun W' (hx : Ext W W') hs hl => setsFirstNil_any f W' (hf.ext hx) hs hl)
  have HWI := Lib.hid (fun W' (hx : Ext W W') => setsWithin_any a n c la a2 n2 c2 lb W' (Arr.ext ha hx) (Arr.ext hb hx) hn hn2)
  have HWR := Lib.hid (fun W' (hx : Ext W W') => refWithin_any a n c la a2 n2 c2 lb W' (Arr.ext ha hx) (Arr.ext hb hx) hn hn2)
  have HR := Lib.hid (fun W' (hx : Ext W W') hs hl => refRight11_any f W' (hf.ext hx) hs hl)
  have HSA := Lib.hid (fun W' (hx : Ext W W') (h : Fl W' a n la) hs hL => setsSuffices_any f a n c la W' (hf.ext hx) h hn hs hL)
  have HTR := Lib.hid (fun (hr : foR f.strip = true) W' (hx : Ext W W') (h : Fl W' a n la) => (show (f.strip.holds fun r => decide (r ∈ la)) = suF f.strip la by unfold suF; rw [hr]; rfl) ▸ refTrue11_any f a n c la hn W' (hf.ext hx) h)
  have HAT := Lib.hid (fun W' (hx : Ext W W') hs hl => refAtoms_f f W' (hf.ext hx) hs hl)
  have HU := Lib.hid (fun W' (hx : Ext W W') hs hl => usual14_any f W' (hf.ext hx) hs hl)
  have HRL := Lib.hid (fun W' (hx : Ext W W') hs hl hr h8 => refLeast_any f W' (hf.ext hx) hs hl hr h8)
  have HEN := Lib.hid (@leastE_no f.strip)
  have HEL := Lib.hid (@leastE_long f.strip)
  have HLN := Lib.hid (@lsL_no f.strip)
  have HOK : Hid (foR f.strip = true → (roleSet f.strip.atoms).length ≤ 8 → leastE f.strip = 0 ∧ lsL f.strip = lsS f.strip) := Lib.hid (fun h h8 => by
    have h0 := leastE_ok h (by omega) (mskF_le f.strip h8)
    exact ⟨h0, lsL_yes h0⟩)
  have HSF := Lib.hid (fun h => @suF_find f.strip h la)
  have HSN : Hid (foR f.strip = false → suF f.strip la = false) := Lib.hid (fun h => by unfold suF; rw [h]; rfl)
  have HXS := Lib.hid (fun z => lsL_xs (f := f.strip) (z := z))
  have HLEN := Lib.hid (lsL_128 f.strip)
  generalize f.strip = fo at *
  generalize suF fo la = sv at *
  generalize wiL la lb = wv at *
  obtain ⟨gr, hgr⟩ : ∃ g, fo.great = g := ⟨_, rfl⟩
  rw [hgr] at HGR HNL hs
  clear hgr hf ha hb
  obtain ⟨op, k, ⟨o, d⟩, fa, fn, fc, kids⟩ := f
  have HC : Hid ([Value.int .i64 op, .int .i64 k, .string ⟨o.toArray⟩, .string ⟨d.toArray⟩, .slice fa fn fc] = cellsL [Fm.mk op k (o, d) fa fn fc kids]) := Lib.hid rfl
  unfold fmV S at HL HFI HFN HR HSA HTR HAT HU HRL ⊢
  simp only at HL HFI HFN HR HSA HTR HAT HU HRL ⊢
  have st := Own.startOld W
  (try simp only [nsl, Value.cells, unB] at st)
  (try clear hc); have hc := st.facts; (try simp only [nfl, nft, Nat.reduceAdd] at hc)
  go_enter Tryz.func3, Tryz.ntmps3
  go_wp2_with ((first
        | ((with_reducible refine wl_box ?_ (fun K hK => ?_)); rfl; refine owp_box (o := ⟨some 3, _, _, _, _, _⟩) rfl st ?_; apply Exists.intro; refine ⟨?_, ?_⟩; (focus (go_simp; try rfl)); (clear st; intro b3 w hb st; clear hb))
        | ((with_reducible refine wl_box ?_ (fun K hK => ?_)); rfl; refine owp_box (o := ⟨some 4, _, _, _, _, _⟩) rfl st ?_; apply Exists.intro; refine ⟨?_, ?_⟩; (focus (go_simp; try rfl)); (clear st; intro b4 w hb st; clear hb))
        | ((with_reducible refine wl_buildSlice ?_ (fun K hK => ?_)); rfl; refine owp_buildSlice (o := ⟨some 21, _, _, _, _, _⟩) rfl st ?_; apply Exists.intro; apply Exists.intro; apply Exists.intro; apply Exists.intro; refine ⟨?_, ?_⟩; (focus (go_simp; (first | done | exact ⟨⟨rfl, rfl⟩, rfl⟩ | rfl))); (clear st; intro b21 w hb st; clear hb))); (try simp only [nsl, Value.cells, unB] at st); (try clear hc); have hc := st.facts; (try simp only [nfl, nft, Nat.reduceAdd] at hc))
  refine (first14_any _).mono ?_
  rintro en w ⟨rfl, hx⟩
  replace st := st.ext hx
  clear hx
  (try clear hc); have hc := st.facts; (try simp only [nfl, nft, Nat.reduceAdd] at hc)
  go_wp2_with ((first
        | ((with_reducible refine wl_box ?_ (fun K hK => ?_)); rfl; refine owp_box (o := ⟨some 3, _, _, _, _, _⟩) rfl st ?_; apply Exists.intro; refine ⟨?_, ?_⟩; (focus (go_simp; try rfl)); (clear st; intro b3 w hb st; clear hb))
        | ((with_reducible refine wl_box ?_ (fun K hK => ?_)); rfl; refine owp_box (o := ⟨some 4, _, _, _, _, _⟩) rfl st ?_; apply Exists.intro; refine ⟨?_, ?_⟩; (focus (go_simp; try rfl)); (clear st; intro b4 w hb st; clear hb))
        | ((with_reducible refine wl_buildSlice ?_ (fun K hK => ?_)); rfl; refine owp_buildSlice (o := ⟨some 21, _, _, _, _, _⟩) rfl st ?_; apply Exists.intro; apply Exists.intro; apply Exists.intro; apply Exists.intro; refine ⟨?_, ?_⟩; (focus (go_simp; (first | done | exact ⟨⟨rfl, rfl⟩, rfl⟩ | rfl))); (clear st; intro b21 w hb st; clear hb))); (try simp only [nsl, Value.cells, unB] at st); (try clear hc); have hc := st.facts; (try simp only [nfl, nft, Nat.reduceAdd] at hc))
  have hfl := fl_lit (st.blk (i := 3) get3) [Fm.mk op k (o, d) fa fn fc kids] HC.out
  refine (HGR.out _ _ hfl st.ext0).mono ?_
  rintro en w ⟨rfl, hx⟩
  replace st := st.ext hx
  clear hx hfl HGR HC
  by_cases h1 : 200 < gr
  · have h1i : (200 : Int) < (gr : Int) := by omega
    (try simp only [nsl, Value.cells, unB] at st)
    (try clear hc); have hc := st.facts; (try simp only [nfl, nft, Nat.reduceAdd] at hc)
    go_wp2_with ((first
          | ((with_reducible refine wl_box ?_ (fun K hK => ?_)); rfl; refine owp_box (o := ⟨some 3, _, _, _, _, _⟩) rfl st ?_; apply Exists.intro; refine ⟨?_, ?_⟩; (focus (go_simp; try rfl)); (clear st; intro b3 w hb st; clear hb))
          | ((with_reducible refine wl_box ?_ (fun K hK => ?_)); rfl; refine owp_box (o := ⟨some 4, _, _, _, _, _⟩) rfl st ?_; apply Exists.intro; refine ⟨?_, ?_⟩; (focus (go_simp; try rfl)); (clear st; intro b4 w hb st; clear hb))
          | ((with_reducible refine wl_buildSlice ?_ (fun K hK => ?_)); rfl; refine owp_buildSlice (o := ⟨some 21, _, _, _, _, _⟩) rfl st ?_; apply Exists.intro; apply Exists.intro; apply Exists.intro; apply Exists.intro; refine ⟨?_, ?_⟩; (focus (go_simp; (first | done | exact ⟨⟨rfl, rfl⟩, rfl⟩ | rfl))); (clear st; intro b21 w hb st; clear hb))); (try simp only [nsl, Value.cells, unB] at st); (try clear hc); have hc := st.facts; (try simp only [nfl, nft, Nat.reduceAdd] at hc))
    go_ret
    exact ⟨rfl, st.ext0⟩
  have h1i : ¬ (200 : Int) < (gr : Int) := by omega
  have z1 : IntKind.i64.wrap ((n : Int) + (n2 : Int)) = (n : Int) + (n2 : Int) := IntWalk.i64_in _ ⟨by omega, by omega⟩
  by_cases h2 : 40 < n + n2
  · have h2i : (40 : Int) < (n : Int) + (n2 : Int) := by omega
    (try simp only [nsl, Value.cells, unB] at st)
    (try clear hc); have hc := st.facts; (try simp only [nfl, nft, Nat.reduceAdd] at hc)
    go_wp2_with ((first
          | ((with_reducible refine wl_box ?_ (fun K hK => ?_)); rfl; refine owp_box (o := ⟨some 3, _, _, _, _, _⟩) rfl st ?_; apply Exists.intro; refine ⟨?_, ?_⟩; (focus (go_simp; try rfl)); (clear st; intro b3 w hb st; clear hb))
          | ((with_reducible refine wl_box ?_ (fun K hK => ?_)); rfl; refine owp_box (o := ⟨some 4, _, _, _, _, _⟩) rfl st ?_; apply Exists.intro; refine ⟨?_, ?_⟩; (focus (go_simp; try rfl)); (clear st; intro b4 w hb st; clear hb))
          | ((with_reducible refine wl_buildSlice ?_ (fun K hK => ?_)); rfl; refine owp_buildSlice (o := ⟨some 21, _, _, _, _, _⟩) rfl st ?_; apply Exists.intro; apply Exists.intro; apply Exists.intro; apply Exists.intro; refine ⟨?_, ?_⟩; (focus (go_simp; (first | done | exact ⟨⟨rfl, rfl⟩, rfl⟩ | rfl))); (clear st; intro b21 w hb st; clear hb))); (try simp only [nsl, Value.cells, unB] at st); (try clear hc); have hc := st.facts; (try simp only [nfl, nft, Nat.reduceAdd] at hc))
    go_ret
    exact ⟨rfl, st.ext0⟩
  have h2i : ¬ (40 : Int) < (n : Int) + (n2 : Int) := by omega
  obtain ⟨hnd, hfl⟩ := HNL.out (by omega)
  have hfl5 : FoL 100000 fo := FoL.mono (by omega) hfl
  clear HNL hs h1 hfl
  have st9 := st.keep [0, 1, 2] (by decide) (by simp)
  simp only [pick, List.map_cons, List.map_nil, List.getElem?_cons_zero, List.getElem?_cons_succ, Option.getD_some] at st9
  clear st
  have st := st9
  clear st9
  have HL2 := Lib.hid (fun W' hx => HL.out W' hx (by omega) hfl5)
  have HFI2 := Lib.hid (fun b W' hx hb => HFI.out b W' hx hb (by omega) hfl5)
  have HFN2 := Lib.hid (fun W' hx => HFN.out W' hx (by omega) hfl5)
  have HR2 := Lib.hid (fun W' hx => HR.out W' hx (by omega) hfl5)
  have HSA2 := Lib.hid (fun W' hx h => HSA.out W' hx h (by omega) hfl5)
  have HAT2 := Lib.hid (fun W' hx => HAT.out W' hx (by omega) hfl5)
  have HU2 := Lib.hid (fun W' hx => HU.out W' hx (by omega) hfl5)
  have HRL2 := Lib.hid (fun W' hx => HRL.out W' hx (by omega) hfl5)
  clear HL HFI HFN HR HSA HAT HU HRL hfl5 hnd
  obtain ⟨rv, hrv⟩ : ∃ v, foR fo = v := ⟨_, rfl⟩
  obtain ⟨m8, hm8⟩ : ∃ v, (roleSet fo.atoms).length = v := ⟨_, rfl⟩
  rw [hrv] at HTR HU2 HOK HR2 HRL2 HEN HEL HSF HSN
  rw [hm8] at HU2 HOK HRL2 HAT2 HEL
  clear hrv hm8
  generalize leastE fo = er at *
  generalize lsL fo = ll at *
  generalize lsS fo = Z at *
  obtain ⟨fr, hfr⟩ : ∃ r, (ll.find? fun z => z.all fun r => decide (r ∈ la)) = r := ⟨_, rfl⟩
  rw [hfr] at HFI2
  have HFR := Lib.hid hfr
  clear hfr
  have HOK2 : Hid (er = 0 ∨ ¬ er = 0) := Lib.hid (Classical.em _)
  (try simp only [nsl, Value.cells, unB] at st)
  (try clear hc); have hc := st.facts; (try simp only [nfl, nft, Nat.reduceAdd] at hc)
  go_wp2_with ((first
        | ((with_reducible refine wl_box ?_ (fun K hK => ?_)); rfl; refine owp_box (o := ⟨some 3, _, _, _, _, _⟩) rfl st ?_; apply Exists.intro; refine ⟨?_, ?_⟩; (focus (go_simp; try rfl)); (clear st; intro b3 w hb st; clear hb))
        | ((with_reducible refine wl_box ?_ (fun K hK => ?_)); rfl; refine owp_box (o := ⟨some 4, _, _, _, _, _⟩) rfl st ?_; apply Exists.intro; refine ⟨?_, ?_⟩; (focus (go_simp; try rfl)); (clear st; intro b4 w hb st; clear hb))
        | ((with_reducible refine wl_buildSlice ?_ (fun K hK => ?_)); rfl; refine owp_buildSlice (o := ⟨some 21, _, _, _, _, _⟩) rfl st ?_; apply Exists.intro; apply Exists.intro; apply Exists.intro; apply Exists.intro; refine ⟨?_, ?_⟩; (focus (go_simp; (first | done | exact ⟨⟨rfl, rfl⟩, rfl⟩ | rfl))); (clear st; intro b21 w hb st; clear hb))); (try simp only [nsl, Value.cells, unB] at st); (try clear hc); have hc := st.facts; (try simp only [nfl, nft, Nat.reduceAdd] at hc))
  refine (HL2.out _ st.ext0).mono ?_
  rintro en w ⟨va, m, vc, ys, rfl, hvc, hy, h3⟩
  replace st := st.join h3
  clear h3 hvc
  simp only [List.cons_append, List.nil_append] at st
  have HY := Lib.hid hy
  have hM := (st.flAt (i := 3) get3).1
  have HM : Hid (m = ll.length) := Lib.hid (by rw [← HY.out, List.length_map]; exact hM)
  have hm128 : m ≤ 128 := by have := HLEN.out; have := HM.out; omega
  clear hy hM
  (try simp only [nsl, Value.cells, unB] at st)
  (try clear hc); have hc := st.facts; (try simp only [nfl, nft, Nat.reduceAdd] at hc)
  go_wp2_with ((first
        | ((with_reducible refine wl_box ?_ (fun K hK => ?_)); rfl; refine owp_box (o := ⟨some 3, _, _, _, _, _⟩) rfl st ?_; apply Exists.intro; refine ⟨?_, ?_⟩; (focus (go_simp; try rfl)); (clear st; intro b3 w hb st; clear hb))
        | ((with_reducible refine wl_box ?_ (fun K hK => ?_)); rfl; refine owp_box (o := ⟨some 4, _, _, _, _, _⟩) rfl st ?_; apply Exists.intro; refine ⟨?_, ?_⟩; (focus (go_simp; try rfl)); (clear st; intro b4 w hb st; clear hb))
        | ((with_reducible refine wl_buildSlice ?_ (fun K hK => ?_)); rfl; refine owp_buildSlice (o := ⟨some 21, _, _, _, _, _⟩) rfl st ?_; apply Exists.intro; apply Exists.intro; apply Exists.intro; apply Exists.intro; refine ⟨?_, ?_⟩; (focus (go_simp; (first | done | exact ⟨⟨rfl, rfl⟩, rfl⟩ | rfl))); (clear st; intro b21 w hb st; clear hb))); (try simp only [nsl, Value.cells, unB] at st); (try clear hc); have hc := st.facts; (try simp only [nfl, nft, Nat.reduceAdd] at hc))
  refine (HFI2.out _ _ st.ext0 (st.blk (i := 2) get2)).mono ?_
  rintro en w ⟨sa, sn, sc, rfl, hsc, h3⟩
  replace st := st.join h3
  clear h3
  simp only [List.cons_append, List.nil_append] at st
  have HSC := Lib.hid hsc
  have HSL := Lib.hid (st.flAt (i := 5) get5).1
  clear hsc
  (try simp only [nsl, Value.cells, unB] at st)
  (try clear hc); have hc := st.facts; (try simp only [nfl, nft, Nat.reduceAdd] at hc)
  go_wp2_with ((first
        | ((with_reducible refine wl_box ?_ (fun K hK => ?_)); rfl; refine owp_box (o := ⟨some 3, _, _, _, _, _⟩) rfl st ?_; apply Exists.intro; refine ⟨?_, ?_⟩; (focus (go_simp; try rfl)); (clear st; intro b3 w hb st; clear hb))
        | ((with_reducible refine wl_box ?_ (fun K hK => ?_)); rfl; refine owp_box (o := ⟨some 4, _, _, _, _, _⟩) rfl st ?_; apply Exists.intro; refine ⟨?_, ?_⟩; (focus (go_simp; try rfl)); (clear st; intro b4 w hb st; clear hb))
        | ((with_reducible refine wl_buildSlice ?_ (fun K hK => ?_)); rfl; refine owp_buildSlice (o := ⟨some 21, _, _, _, _, _⟩) rfl st ?_; apply Exists.intro; apply Exists.intro; apply Exists.intro; apply Exists.intro; refine ⟨?_, ?_⟩; (focus (go_simp; (first | done | exact ⟨⟨rfl, rfl⟩, rfl⟩ | rfl))); (clear st; intro b21 w hb st; clear hb))); (try simp only [nsl, Value.cells, unB] at st); (try clear hc); have hc := st.facts; (try simp only [nfl, nft, Nat.reduceAdd] at hc))
  refine (HFN2.out _ st.ext0).mono ?_
  rintro en w ⟨rfl, hx⟩
  replace st := st.ext hx
  clear hx
  (try clear hc); have hc := st.facts; (try simp only [nfl, nft, Nat.reduceAdd] at hc)
  go_wp2_with fail
  refine Rg4.wp_region4 (Rel := Ext) #[0, 0, 3, 0, 0, 31, 63, 127, 255, 511]
    [(2, .val (.bool wv)), (5, .val (.bool wv))] [] [0, 3] (fun _ => True) [0, 1, 2, 3, 4, 5, 6, 7, 8, 9] (by kernel_rfl) (by kernel_rfl) (by kernel_rfl) (by kernel_rfl) Ext.refl (fun _ _ _ => Ext.trans) (show Rg4.PB _ by repeat (first | with_reducible exact Rg4.pb_body | with_reducible exact Rg4.pb_bodyD rfl | with_reducible refine Rg4.pb_then ?_ | with_reducible refine Rg4.pb_inBlock ?_ | with_reducible refine Rg4.pb_noGoto ?_)) (trivial) ?_
  replace st := st.drew
  change Rg4.wp4 _ _ _ _ _ _ _ _ _ (World.drew _) _ _
  generalize World.drew _ = w at st ⊢
  (try clear hc); have hc := st.facts; (try simp only [nfl, nft, Nat.reduceAdd] at hc)
  (refine Rg4.w4_read (Rg4.want_none rfl) rfl rfl ?_; apply Exists.intro; refine ⟨fun w' hw' hcl' => ?_, ?_⟩; focus (have st' := st.ext hw'; have hc' := st'.facts; (try simp only [nfl, nft, Nat.reduceAdd] at hc'); (focus (first | (go_simp; done) | (go_simp; first | rfl | (rw [if_neg] <;> first | rfl | omega) | (rw [if_pos] <;> first | rfl | omega))))); (try simp only [Rg4.nrm]))
  (refine Rg4.w4_any (Rg4.want_none rfl) rfl ?_; apply Exists.intro; refine ⟨fun w' => ?_, ?_⟩; (focus (first | (go_simp; done) | (go_simp; first | rfl | (rw [if_neg] <;> first | rfl | omega) | (rw [if_pos] <;> first | rfl | omega)))); (try simp only [Rg4.nrm]))
  refine Rg4.w4_some (Rg4.want_none rfl) rfl (fun w' hw' hcl' _ => ?_) ?_
  · refine Rg.relAt_call (by go_simp; exact ⟨rfl, rfl⟩) ?_
    have st' := st.ext hw'
    refine (HWI.out _ st'.ext0).mono ?_
    rintro en w'' ⟨rfl, hx⟩
    exact ⟨_, rfl, hx, trivial, rfl⟩
  rintro v ⟨_, _, _, rfl⟩
  (try simp only [Rg4.nrm])
  (refine Rg4.w4_read (Rg4.want_none rfl) rfl rfl ?_; apply Exists.intro; refine ⟨fun w' hw' hcl' => ?_, ?_⟩; focus (have st' := st.ext hw'; have hc' := st'.facts; (try simp only [nfl, nft, Nat.reduceAdd] at hc'); (focus (first | (go_simp; done) | (go_simp; first | rfl | (rw [if_neg] <;> first | rfl | omega) | (rw [if_pos] <;> first | rfl | omega))))); (try simp only [Rg4.nrm]))
  (refine Rg4.w4_any (Rg4.want_none rfl) rfl ?_; apply Exists.intro; refine ⟨fun w' => ?_, ?_⟩; (focus (first | (go_simp; done) | (go_simp; first | rfl | (rw [if_neg] <;> first | rfl | omega) | (rw [if_pos] <;> first | rfl | omega)))); (try simp only [Rg4.nrm]))
  refine Rg4.w4_some (Rg4.want_none rfl) rfl (fun w' hw' hcl' _ => ?_) ?_
  · refine Rg.relAt_call (by go_simp; exact ⟨rfl, rfl⟩) ?_
    have st' := st.ext hw'
    refine (HWR.out _ st'.ext0).mono ?_
    rintro en w'' ⟨rfl, hx⟩
    exact ⟨_, rfl, hx, trivial, rfl⟩
  rintro v ⟨_, _, _, rfl⟩
  (try simp only [Rg4.nrm])
  iterate 2 (refine Rg4.w4_any (Rg4.want_none rfl) rfl ?_; apply Exists.intro; refine ⟨fun w' => ?_, ?_⟩; (focus (first | (go_simp; done) | (go_simp; first | rfl | (rw [if_neg] <;> first | rfl | omega) | (rw [if_pos] <;> first | rfl | omega)))); (try simp only [Rg4.nrm]))
  (first | (refine Rg4.w4_any (Rg4.wt rfl rfl rfl) rfl ?_; apply Exists.intro; refine ⟨fun w' => ?_, ?_⟩; (focus (first | (go_simp; done) | (go_simp; first | rfl | (rw [if_neg] <;> first | rfl | omega) | (rw [if_pos] <;> first | rfl | omega)))); (try simp only [Rg4.nrm])) | (refine Rg4.w4_skip (Rg4.uw rfl rfl rfl) ?_; (try simp only [Rg4.nrm])) | (refine Rg4.w4_skip (Rg4.un rfl rfl rfl) ?_; (try simp only [Rg4.nrm])))
  (refine Rg4.w4_any (Rg4.want_none rfl) rfl ?_; apply Exists.intro; refine ⟨fun w' => ?_, ?_⟩; (focus (first | (go_simp; done) | (go_simp; first | rfl | (rw [if_neg] <;> first | rfl | omega) | (rw [if_pos] <;> first | rfl | omega)))); (try simp only [Rg4.nrm]))
  refine Rg4.w4_nil (fun w' hw' hcl' _ => ?_); replace st := st.ext hw'; clear hw' hcl'; (try clear hc); have hc := st.facts; (try simp only [nfl, nft, Nat.reduceAdd] at hc)
  go_wp2_with fail
  refine (HR2.out _ st.ext0).mono ?_
  rintro en w ⟨rfl, hx⟩
  replace st := st.ext hx
  clear hx
  (try clear hc); have hc := st.facts; (try simp only [nfl, nft, Nat.reduceAdd] at hc)
  cases rv with
  | false =>
    have he := HEN.out (by simp)
    subst he
    have hll := HLN.out (by omega)
    have hm0 : m = 0 := by rw [HM.out, hll]; rfl
    have hfr0 : fr = none := by rw [← HFR.out, hll]; rfl
    have hsv : sv = false := HSN.out (by simp)
    subst hfr0 hsv
    subst hm0
    (try simp only [nsl, Value.cells, unB] at st)
    (try clear hc); have hc := st.facts; (try simp only [nfl, nft, Nat.reduceAdd] at hc)
    go_wp2_with fail
    refine (HSA2.out _ st.ext0 (Arr.ext HFA.out st.ext0)).mono ?_
    rintro en w ⟨rfl, hx⟩
    replace st := st.ext hx
    clear hx
    (try clear hc); have hc := st.facts; (try simp only [nfl, nft, Nat.reduceAdd] at hc)
    go_wp2_with fail
    go_ret
    exact ⟨rfl, st.ext0⟩
  | true =>
    (try simp only [nsl, Value.cells, unB] at st)
    (try clear hc); have hc := st.facts; (try simp only [nfl, nft, Nat.reduceAdd] at hc)
    go_wp2_with fail
    refine (HAT2.out _ st.ext0).mono ?_
    rintro en w ⟨ra, rc, rfl, h3⟩
    replace st := st.join h3
    clear h3
    simp only [List.cons_append, List.nil_append] at st
    have st9 := st.keep [0, 1, 2, 3, 4, 5] (by decide) (by simp)
    simp only [pick, List.map_cons, List.map_nil, List.getElem?_cons_zero, List.getElem?_cons_succ, Option.getD_some] at st9
    clear st
    have st := st9
    clear st9
    by_cases h12 : 12 < m8
    · have he := HEL.out (by simp) (.inl h12)
      subst he
      have hll := HLN.out (by omega)
      have hm0 : m = 0 := by rw [HM.out, hll]; rfl
      have hfr0 : fr = none := by rw [← HFR.out, hll]; rfl
      subst hfr0
      subst hm0
      have h12i : (12 : Int) < (m8 : Int) := by omega
      (try simp only [nsl, Value.cells, unB] at st)
      (try clear hc); have hc := st.facts; (try simp only [nfl, nft, Nat.reduceAdd] at hc)
      go_wp2_with fail
      go_ret
      exact ⟨rfl, st.ext0⟩
    have h12i : ¬ (12 : Int) < (m8 : Int) := by omega
    by_cases h8 : m8 ≤ 8
    case neg =>
      have hd : decide (m8 ≤ 8) = false := decide_eq_false h8
      rw [hd] at HU2
      simp only [Bool.and_false] at HU2
      (try simp only [nsl, Value.cells, unB] at st)
      (try clear hc); have hc := st.facts; (try simp only [nfl, nft, Nat.reduceAdd] at hc)
      go_wp2_with fail
      refine (HU2.out _ st.ext0).mono ?_
      rintro en w ⟨rfl, hx⟩
      replace st := st.ext hx
      clear hx
      (try clear hc); have hc := st.facts; (try simp only [nfl, nft, Nat.reduceAdd] at hc)
      go_wp2_with fail
      go_ret
      exact ⟨rfl, st.ext0⟩
    have hd : decide (m8 ≤ 8) = true := decide_eq_true h8
    rw [hd] at HU2
    simp only [Bool.and_true] at HU2
    obtain ⟨rfl, rfl⟩ := HOK.out (by simp) h8
    have HTR2 := Lib.hid (HTR.out (by simp))
    have hsv := HSF.out (by simp)
    have HSV := Lib.hid hsv
    clear hd hsv
    (try simp only [nsl, Value.cells, unB] at st)
    (try clear hc); have hc := st.facts; (try simp only [nfl, nft, Nat.reduceAdd] at hc)
    go_wp2_with fail
    refine (HU2.out _ st.ext0).mono ?_
    rintro en w ⟨rfl, hx⟩
    replace st := st.ext hx
    clear hx
    (try clear hc); have hc := st.facts; (try simp only [nfl, nft, Nat.reduceAdd] at hc)
    go_wp2_with fail
    refine (HRL2.out _ st.ext0 (by simp) h8).mono ?_
    rintro en w ⟨wa, wn, wc, zs, rfl, hwc, hz, h3⟩
    replace st := st.join h3
    clear h3 hwc
    simp only [List.cons_append, List.nil_append] at st
    have HZ := Lib.hid hz
    clear hz
    have hWN := (st.flAt (i := 6) get6).1
    have HWN := Lib.hid hWN
    have hw128 : wn ≤ 128 := by
      have h3 := HLEN.out
      rw [← HZ.out, List.length_map] at h3
      omega
    clear hWN
    have HZB : Hid (∀ x ∈ zs, x.xs.length ≤ 12) := Lib.hid (fun x hx => HXS.out _ (by rw [← HZ.out]; exact List.mem_map_of_mem hx))
    have HYB : Hid (∀ x ∈ ys, x.xs.length ≤ 12) := Lib.hid (fun x hx => HXS.out _ (by rw [← HY.out]; exact List.mem_map_of_mem hx))
    have HSM := Lib.hid (fun W' h1 h2 (q1 : ∀ x ∈ ys, Fl W' x.a x.n x.xs) (q2 : ∀ x ∈ zs, Fl W' x.a x.n x.xs) => refSetsSame_any va m vc ys wa wn wc zs W' h1 h2 (fun x hx => ⟨q1 x hx, by have := (q1 x hx).1; have := HYB.out x hx; omega⟩) (fun x hx => ⟨q2 x hx, by have := (q2 x hx).1; have := HZB.out x hx; omega⟩) (by omega) (by omega))
    rw [decide_eq_true (show ys.map (·.xs) = zs.map (·.xs) by rw [HY.out, HZ.out])] at HSM
    (try simp only [nsl, Value.cells, unB] at st)
    (try clear hc); have hc := st.facts; (try simp only [nfl, nft, Nat.reduceAdd] at hc)
    go_wp2_with fail
    go_loopg [15, 101] wn (fun q fv i wr => ∃ (j : Nat), j ≤ wn ∧ q = wn - j ∧ fv = .bool false ∧ i = .int .i64 (j : Int) ∧ Hid (∀ x ∈ zs.take j, wiL x.xs la = false) ∧ Own (fun _ => False) (fun _ => True) W [oldI W, blkI b3 [.int .i64 op, .int .i64 k, .string ⟨o.toArray⟩, .string ⟨d.toArray⟩, .slice fa fn fc], blkI b4 [.slice a n c], flI va m ys, rssI ys, flI sa sn (fr.getD []), flI wa wn zs, rssI zs] wr)
    case atStart => exact ⟨0, by omega, by omega, rfl, rfl, Lib.hid (by simp), st⟩
    case round =>
      obtain ⟨j, hj, rfl, rfl, rfl, HT, st'⟩ := hrel
      clear st hc
      have st := st'
      clear st'
      by_cases hjn : j < wn
      · obtain ⟨lb', loff, hla, hcell⟩ := Fl.rs (st.flAt (i := 6) get6) (by omega)
        have hjl : j < zs.length := by have := HWN.out; omega
        have hgt := List.getElem?_eq_getElem hjl
        have hmem := List.getElem_mem hjl
        have htk : zs.take (j + 1) = zs.take j ++ [zs[j]] := (List.take_append_getElem hjl).symm
        generalize zs[j] = z at *
        have r0 := hcell j z hgt
        have HZM := Lib.hid hmem
        have HTK := Lib.hid htk
        have hzl := HZB.out z hmem
        have hzn := (st.rss (i := 7) get7 z hmem).2.1
        have HHIT := Lib.hid (fun (q : wiL z.xs la = true) => (HFR.out.symm.trans (find_wi HT.out HZ.out hgt q)))
        obtain ⟨za, zn, zc, zx⟩ := z
        simp only at r0 hzl hzn HHIT
        have hz12 : zn ≤ 12 := by omega
        have HWZ := Lib.hid (fun W' h1 (h2 : Fl W' a n la) => refWithin_any za zn zc zx a n c la W' h1 h2 (by omega) hn)
        obtain ⟨v, hv⟩ : ∃ v, wiL zx la = v := ⟨_, rfl⟩
        rw [hv] at HWZ HHIT
        have HV := Lib.hid hv
        clear hcell hgt hjl hmem htk hzl hzn hv
        subst hla
        (try simp only [nsl, Value.cells, unB] at st)
        (try clear hc); have hc := st.facts; (try simp only [nfl, nft, Nat.reduceAdd] at hc)
        go_wp2_with fail
        refine (HWZ.out _ (st.rss (i := 7) get7 _ HZM.out).2 (Arr.ext HFA.out st.ext0)).mono ?_
        rintro en w ⟨rfl, hx⟩
        replace st := st.ext hx
        clear hx
        (try clear hc); have hc := st.facts; (try simp only [nfl, nft, Nat.reduceAdd] at hc)
        clear r0
        cases v with
        | false =>
          have HT3 : Hid (∀ x ∈ zs.take (j + 1), wiL x.xs la = false) := Lib.hid (fun x hx => by
            rw [HTK.out] at hx
            rcases List.mem_append.1 hx with q | q
            · exact HT.out x q
            · rw [List.mem_singleton.1 q]; exact HV.out)
          go_wp2_with fail
          go_roundg (wn - (j + 1))
          case measure => omega
          case rel => exact ⟨j + 1, by omega, by omega, rfl, by go_num, HT3, st⟩
        | true =>
          have hfr := HHIT.out rfl
          rw [hfr] at st HSL
          have hsv : sv = true := by rw [HSV.out, HFR.out, hfr]; rfl
          simp only [Option.getD_some] at st HSL
          have hsn12 : sn ≤ 12 := by have := HSL.out; have := (st.rss (i := 7) get7 _ HZM.out).2.1; simp only at this; omega
          have HSZ := Lib.hid (fun W' h1 h2 => refRoleSame_any za zn zc zx sa sn sc zx W' h1 h2 (by omega) (by omega))
          rw [decide_eq_true rfl] at HSZ
          subst hfr
          subst hsv
          clear hz12
          go_wp2_with fail
          refine (HSZ.out _ (st.rss (i := 7) get7 _ HZM.out).2 (st.flAt (i := 5) get5)).mono ?_
          rintro en w ⟨rfl, hx⟩
          replace st := st.ext hx
          clear hx
          (try clear hc); have hc := st.facts; (try simp only [nfl, nft, Nat.reduceAdd] at hc)
          (try simp only [nsl, Value.cells, unB] at st)
          (try clear hc); have hc := st.facts; (try simp only [nfl, nft, Nat.reduceAdd] at hc)
          go_wp2_with fail
          refine Rg4.wp_region4 (Rel := Ext) #[0, 1, 3, 7, 7, 31, 63, 127, 255, 255, 1023, 255, 255, 8191, 16383, 32767, 65535, 131071, 131071, 131071, 917503, 2097151, 4194303, 8388607, 16777215, 33554431, 67108863, 134217727, 268435455, 536870911, 1073741823]
            [(5, .val (.bool true)), (10, .val (.bool true)), (13, .val (.bool true)), (20, .val (.bool true))] [] [8, 9, 11, 12, 18, 19] (fun _ => True) [0, 1, 2, 3, 4, 5, 6, 7, 8, 9, 10, 11, 12, 13, 14, 15, 16, 17, 18, 19, 20, 21, 22, 23, 24, 25, 26, 27, 28, 29, 30] (by kernel_rfl) (by kernel_rfl) (by kernel_rfl) (by kernel_rfl) Ext.refl (fun _ _ _ => Ext.trans) (show Rg4.PB _ by repeat (first | with_reducible exact Rg4.pb_body | with_reducible exact Rg4.pb_bodyD rfl | with_reducible refine Rg4.pb_then ?_ | with_reducible refine Rg4.pb_inBlock ?_ | with_reducible refine Rg4.pb_noGoto ?_)) (trivial) ?_
          replace st := st.drew
          change Rg4.wp4 _ _ _ _ _ _ _ _ _ (World.drew _) _ _
          generalize World.drew _ = w at st ⊢
          (try clear hc); have hc := st.facts; (try simp only [nfl, nft, Nat.reduceAdd] at hc)
          iterate 3 (refine Rg4.w4_any (Rg4.want_none rfl) rfl ?_; apply Exists.intro; refine ⟨fun w' => ?_, ?_⟩; (focus (first | (go_simp; done) | (go_simp; first | rfl | (rw [if_neg] <;> first | rfl | omega) | (rw [if_pos] <;> first | rfl | omega)))); (try simp only [Rg4.nrm]))
          iterate 2 (first | (refine Rg4.w4_any (Rg4.wt rfl rfl rfl) rfl ?_; apply Exists.intro; refine ⟨fun w' => ?_, ?_⟩; (focus (first | (go_simp; done) | (go_simp; first | rfl | (rw [if_neg] <;> first | rfl | omega) | (rw [if_pos] <;> first | rfl | omega)))); (try simp only [Rg4.nrm])) | (refine Rg4.w4_skip (Rg4.uw rfl rfl rfl) ?_; (try simp only [Rg4.nrm])) | (refine Rg4.w4_skip (Rg4.un rfl rfl rfl) ?_; (try simp only [Rg4.nrm])))
          refine Rg4.w4_some (Rg4.want_of 2 114 true rfl rfl rfl) rfl (fun w' hw' hcl' _ => ?_) ?_
          · refine Rg.relAt_call (by go_simp; exact ⟨rfl, rfl⟩) ?_
            have st' := st.ext hw'
            refine (HSM.out _ (st'.flAt (i := 3) get3) (st'.flAt (i := 6) get6) (fun x hx => (st'.rss (i := 4) get4 x hx).2) (fun x hx => (st'.rss (i := 7) get7 x hx).2)).mono ?_
            rintro en w'' ⟨rfl, hx⟩
            exact ⟨_, rfl, hx, trivial, rfl⟩
          rintro v ⟨_, _, _, rfl⟩
          (try simp only [Rg4.nrm])
          iterate 2 (refine Rg4.w4_any (Rg4.want_none rfl) rfl ?_; apply Exists.intro; refine ⟨fun w' => ?_, ?_⟩; (focus (first | (go_simp; done) | (go_simp; first | rfl | (rw [if_neg] <;> first | rfl | omega) | (rw [if_pos] <;> first | rfl | omega)))); (try simp only [Rg4.nrm]))
          iterate 2 (first | (refine Rg4.w4_read (Rg4.wt rfl rfl rfl) rfl rfl ?_; apply Exists.intro; refine ⟨fun w' hw' hcl' => ?_, ?_⟩; focus (have st' := st.ext hw'; have hc' := st'.facts; (try simp only [nfl, nft, Nat.reduceAdd] at hc'); (focus (first | (go_simp; done) | (go_simp; first | rfl | (rw [if_neg] <;> first | rfl | omega) | (rw [if_pos] <;> first | rfl | omega))))); (try simp only [Rg4.nrm])) | (refine Rg4.w4_skip (Rg4.uw rfl rfl rfl) ?_; (try simp only [Rg4.nrm])) | (refine Rg4.w4_skip (Rg4.un rfl rfl rfl) ?_; (try simp only [Rg4.nrm])))
          refine Rg4.w4_some (Rg4.want_of 7 119 true rfl rfl rfl) rfl (fun w' hw' hcl' _ => ?_) ?_
          · refine Rg.relAt_call (by go_simp; exact ⟨rfl, rfl⟩) ?_
            have st' := st.ext hw'
            refine (HSA2.out _ st'.ext0 (Arr.ext HFA.out st'.ext0)).mono ?_
            rintro en w'' ⟨rfl, hx⟩
            exact ⟨_, rfl, hx, trivial, rfl⟩
          rintro v ⟨_, _, _, rfl⟩
          (try simp only [Rg4.nrm])
          iterate 2 (first | (refine Rg4.w4_read (Rg4.wt rfl rfl rfl) rfl rfl ?_; apply Exists.intro; refine ⟨fun w' hw' hcl' => ?_, ?_⟩; focus (have st' := st.ext hw'; have hc' := st'.facts; (try simp only [nfl, nft, Nat.reduceAdd] at hc'); (focus (first | (go_simp; done) | (go_simp; first | rfl | (rw [if_neg] <;> first | rfl | omega) | (rw [if_pos] <;> first | rfl | omega))))); (try simp only [Rg4.nrm])) | (refine Rg4.w4_skip (Rg4.uw rfl rfl rfl) ?_; (try simp only [Rg4.nrm])) | (refine Rg4.w4_skip (Rg4.un rfl rfl rfl) ?_; (try simp only [Rg4.nrm])))
          refine Rg4.w4_some (Rg4.want_of 7 119 true rfl rfl rfl) rfl (fun w' hw' hcl' _ => ?_) ?_
          · refine Rg.relAt_call (by go_simp; exact ⟨rfl, rfl⟩) ?_
            have st' := st.ext hw'
            refine (HTR2.out _ st'.ext0 (Arr.ext HFA.out st'.ext0)).mono ?_
            rintro en w'' ⟨rfl, hx⟩
            exact ⟨_, rfl, hx, trivial, rfl⟩
          rintro v ⟨_, _, _, rfl⟩
          (try simp only [Rg4.nrm])
          (first | (refine Rg4.w4_any (Rg4.wt rfl rfl rfl) rfl ?_; apply Exists.intro; refine ⟨fun w' => ?_, ?_⟩; (focus (first | (go_simp; done) | (go_simp; first | rfl | (rw [if_neg] <;> first | rfl | omega) | (rw [if_pos] <;> first | rfl | omega)))); (try simp only [Rg4.nrm])) | (refine Rg4.w4_skip (Rg4.uw rfl rfl rfl) ?_; (try simp only [Rg4.nrm])) | (refine Rg4.w4_skip (Rg4.un rfl rfl rfl) ?_; (try simp only [Rg4.nrm])))
          iterate 2 (refine Rg4.w4_any (Rg4.want_none rfl) rfl ?_; apply Exists.intro; refine ⟨fun w' => ?_, ?_⟩; (focus (first | (go_simp; done) | (go_simp; first | rfl | (rw [if_neg] <;> first | rfl | omega) | (rw [if_pos] <;> first | rfl | omega)))); (try simp only [Rg4.nrm]))
          (first | (refine Rg4.w4_any (Rg4.wt rfl rfl rfl) rfl ?_; apply Exists.intro; refine ⟨fun w' => ?_, ?_⟩; (focus (first | (go_simp; done) | (go_simp; first | rfl | (rw [if_neg] <;> first | rfl | omega) | (rw [if_pos] <;> first | rfl | omega)))); (try simp only [Rg4.nrm])) | (refine Rg4.w4_skip (Rg4.uw rfl rfl rfl) ?_; (try simp only [Rg4.nrm])) | (refine Rg4.w4_skip (Rg4.un rfl rfl rfl) ?_; (try simp only [Rg4.nrm])))
          iterate 2 (first | (refine Rg4.w4_read (Rg4.wt rfl rfl rfl) rfl rfl ?_; apply Exists.intro; refine ⟨fun w' hw' hcl' => ?_, ?_⟩; focus (have st' := st.ext hw'; have hc' := st'.facts; (try simp only [nfl, nft, Nat.reduceAdd] at hc'); (focus (first | (go_simp; done) | (go_simp; first | rfl | (rw [if_neg] <;> first | rfl | omega) | (rw [if_pos] <;> first | rfl | omega))))); (try simp only [Rg4.nrm])) | (refine Rg4.w4_skip (Rg4.uw rfl rfl rfl) ?_; (try simp only [Rg4.nrm])) | (refine Rg4.w4_skip (Rg4.un rfl rfl rfl) ?_; (try simp only [Rg4.nrm])))
          refine Rg4.w4_some (Rg4.want_of 16 128 true rfl rfl rfl) rfl (fun w' hw' hcl' _ => ?_) ?_
          · refine Rg.relAt_call (by go_simp; exact ⟨rfl, rfl⟩) ?_
            have st' := st.ext hw'
            refine (HTR2.out _ st'.ext0 (Arr.ext HFA.out st'.ext0)).mono ?_
            rintro en w'' ⟨rfl, hx⟩
            exact ⟨_, rfl, hx, trivial, rfl⟩
          rintro v ⟨_, _, _, rfl⟩
          (try simp only [Rg4.nrm])
          (first | (refine Rg4.w4_any (Rg4.wt rfl rfl rfl) rfl ?_; apply Exists.intro; refine ⟨fun w' => ?_, ?_⟩; (focus (first | (go_simp; done) | (go_simp; first | rfl | (rw [if_neg] <;> first | rfl | omega) | (rw [if_pos] <;> first | rfl | omega)))); (try simp only [Rg4.nrm])) | (refine Rg4.w4_skip (Rg4.uw rfl rfl rfl) ?_; (try simp only [Rg4.nrm])) | (refine Rg4.w4_skip (Rg4.un rfl rfl rfl) ?_; (try simp only [Rg4.nrm])))
          iterate 2 (refine Rg4.w4_any (Rg4.want_none rfl) rfl ?_; apply Exists.intro; refine ⟨fun w' => ?_, ?_⟩; (focus (first | (go_simp; done) | (go_simp; first | rfl | (rw [if_neg] <;> first | rfl | omega) | (rw [if_pos] <;> first | rfl | omega)))); (try simp only [Rg4.nrm]))
          iterate 5 (first | (refine Rg4.w4_any (Rg4.wt rfl rfl rfl) rfl ?_; apply Exists.intro; refine ⟨fun w' => ?_, ?_⟩; (focus (first | (go_simp; done) | (go_simp; first | rfl | (rw [if_neg] <;> first | rfl | omega) | (rw [if_pos] <;> first | rfl | omega)))); (try simp only [Rg4.nrm])) | (refine Rg4.w4_skip (Rg4.uw rfl rfl rfl) ?_; (try simp only [Rg4.nrm])) | (refine Rg4.w4_skip (Rg4.un rfl rfl rfl) ?_; (try simp only [Rg4.nrm])))
          iterate 2 (refine Rg4.w4_any (Rg4.want_none rfl) rfl ?_; apply Exists.intro; refine ⟨fun w' => ?_, ?_⟩; (focus (first | (go_simp; done) | (go_simp; first | rfl | (rw [if_neg] <;> first | rfl | omega) | (rw [if_pos] <;> first | rfl | omega)))); (try simp only [Rg4.nrm]))
          refine Rg4.w4_nil (fun w' hw' hcl' _ => ?_); replace st := st.ext hw'; clear hw' hcl'; (try clear hc); have hc := st.facts; (try simp only [nfl, nft, Nat.reduceAdd] at hc)
          go_wp2_with fail
          go_ret
          exact ⟨by simp, st.ext0⟩
      · obtain rfl : j = wn := by omega
        have hfr : fr = none := by rw [← HFR.out]; exact find_no (fun x hx => HT.out x (by rw [List.take_of_length_le (by have := HWN.out; omega)]; exact hx)) HZ.out
        have hsv : sv = false := by rw [HSV.out, HFR.out, hfr]; rfl
        subst hfr hsv
        (try simp only [nsl, Value.cells, unB] at st)
        (try clear hc); have hc := st.facts; (try simp only [nfl, nft, Nat.reduceAdd] at hc)
        go_wp2_with fail
        refine Rg4.wp_region4 (Rel := Ext) #[0, 1, 3, 7, 7, 31, 63, 127, 255, 255, 1023, 255, 255, 8191, 16383, 32767, 65535, 131071, 131071, 131071, 917503, 2097151, 4194303, 8388607, 16777215, 33554431, 67108863, 134217727, 268435455, 536870911, 1073741823]
          [(5, .val (.bool true)), (10, .val (.bool false)), (13, .val (.bool false)), (20, .val (.bool false))] [] [8, 9, 11, 12, 18, 19] (fun _ => True) [0, 1, 2, 3, 4, 5, 6, 7, 8, 9, 10, 11, 12, 13, 14, 15, 16, 17, 18, 19, 20, 21, 22, 23, 24, 25, 26, 27, 28, 29, 30] (by kernel_rfl) (by kernel_rfl) (by kernel_rfl) (by kernel_rfl) Ext.refl (fun _ _ _ => Ext.trans) (show Rg4.PB _ by repeat (first | with_reducible exact Rg4.pb_body | with_reducible exact Rg4.pb_bodyD rfl | with_reducible refine Rg4.pb_then ?_ | with_reducible refine Rg4.pb_inBlock ?_ | with_reducible refine Rg4.pb_noGoto ?_)) (trivial) ?_
        replace st := st.drew
        change Rg4.wp4 _ _ _ _ _ _ _ _ _ (World.drew _) _ _
        generalize World.drew _ = w at st ⊢
        (try clear hc); have hc := st.facts; (try simp only [nfl, nft, Nat.reduceAdd] at hc)
        iterate 3 (refine Rg4.w4_any (Rg4.want_none rfl) rfl ?_; apply Exists.intro; refine ⟨fun w' => ?_, ?_⟩; (focus (first | (go_simp; done) | (go_simp; first | rfl | (rw [if_neg] <;> first | rfl | omega) | (rw [if_pos] <;> first | rfl | omega)))); (try simp only [Rg4.nrm]))
        iterate 2 (first | (refine Rg4.w4_any (Rg4.wt rfl rfl rfl) rfl ?_; apply Exists.intro; refine ⟨fun w' => ?_, ?_⟩; (focus (first | (go_simp; done) | (go_simp; first | rfl | (rw [if_neg] <;> first | rfl | omega) | (rw [if_pos] <;> first | rfl | omega)))); (try simp only [Rg4.nrm])) | (refine Rg4.w4_skip (Rg4.uw rfl rfl rfl) ?_; (try simp only [Rg4.nrm])) | (refine Rg4.w4_skip (Rg4.un rfl rfl rfl) ?_; (try simp only [Rg4.nrm])))
        refine Rg4.w4_some (Rg4.want_of 2 114 true rfl rfl rfl) rfl (fun w' hw' hcl' _ => ?_) ?_
        · refine Rg.relAt_call (by go_simp; exact ⟨rfl, rfl⟩) ?_
          have st' := st.ext hw'
          refine (HSM.out _ (st'.flAt (i := 3) get3) (st'.flAt (i := 6) get6) (fun x hx => (st'.rss (i := 4) get4 x hx).2) (fun x hx => (st'.rss (i := 7) get7 x hx).2)).mono ?_
          rintro en w'' ⟨rfl, hx⟩
          exact ⟨_, rfl, hx, trivial, rfl⟩
        rintro v ⟨_, _, _, rfl⟩
        (try simp only [Rg4.nrm])
        iterate 2 (refine Rg4.w4_any (Rg4.want_none rfl) rfl ?_; apply Exists.intro; refine ⟨fun w' => ?_, ?_⟩; (focus (first | (go_simp; done) | (go_simp; first | rfl | (rw [if_neg] <;> first | rfl | omega) | (rw [if_pos] <;> first | rfl | omega)))); (try simp only [Rg4.nrm]))
        iterate 2 (first | (refine Rg4.w4_read (Rg4.wt rfl rfl rfl) rfl rfl ?_; apply Exists.intro; refine ⟨fun w' hw' hcl' => ?_, ?_⟩; focus (have st' := st.ext hw'; have hc' := st'.facts; (try simp only [nfl, nft, Nat.reduceAdd] at hc'); (focus (first | (go_simp; done) | (go_simp; first | rfl | (rw [if_neg] <;> first | rfl | omega) | (rw [if_pos] <;> first | rfl | omega))))); (try simp only [Rg4.nrm])) | (refine Rg4.w4_skip (Rg4.uw rfl rfl rfl) ?_; (try simp only [Rg4.nrm])) | (refine Rg4.w4_skip (Rg4.un rfl rfl rfl) ?_; (try simp only [Rg4.nrm])))
        refine Rg4.w4_some (Rg4.want_of 7 119 true rfl rfl rfl) rfl (fun w' hw' hcl' _ => ?_) ?_
        · refine Rg.relAt_call (by go_simp; exact ⟨rfl, rfl⟩) ?_
          have st' := st.ext hw'
          refine (HSA2.out _ st'.ext0 (Arr.ext HFA.out st'.ext0)).mono ?_
          rintro en w'' ⟨rfl, hx⟩
          exact ⟨_, rfl, hx, trivial, rfl⟩
        rintro v ⟨_, _, _, rfl⟩
        (try simp only [Rg4.nrm])
        iterate 2 (first | (refine Rg4.w4_read (Rg4.wt rfl rfl rfl) rfl rfl ?_; apply Exists.intro; refine ⟨fun w' hw' hcl' => ?_, ?_⟩; focus (have st' := st.ext hw'; have hc' := st'.facts; (try simp only [nfl, nft, Nat.reduceAdd] at hc'); (focus (first | (go_simp; done) | (go_simp; first | rfl | (rw [if_neg] <;> first | rfl | omega) | (rw [if_pos] <;> first | rfl | omega))))); (try simp only [Rg4.nrm])) | (refine Rg4.w4_skip (Rg4.uw rfl rfl rfl) ?_; (try simp only [Rg4.nrm])) | (refine Rg4.w4_skip (Rg4.un rfl rfl rfl) ?_; (try simp only [Rg4.nrm])))
        refine Rg4.w4_some (Rg4.want_of 7 119 true rfl rfl rfl) rfl (fun w' hw' hcl' _ => ?_) ?_
        · refine Rg.relAt_call (by go_simp; exact ⟨rfl, rfl⟩) ?_
          have st' := st.ext hw'
          refine (HTR2.out _ st'.ext0 (Arr.ext HFA.out st'.ext0)).mono ?_
          rintro en w'' ⟨rfl, hx⟩
          exact ⟨_, rfl, hx, trivial, rfl⟩
        rintro v ⟨_, _, _, rfl⟩
        (try simp only [Rg4.nrm])
        (first | (refine Rg4.w4_any (Rg4.wt rfl rfl rfl) rfl ?_; apply Exists.intro; refine ⟨fun w' => ?_, ?_⟩; (focus (first | (go_simp; done) | (go_simp; first | rfl | (rw [if_neg] <;> first | rfl | omega) | (rw [if_pos] <;> first | rfl | omega)))); (try simp only [Rg4.nrm])) | (refine Rg4.w4_skip (Rg4.uw rfl rfl rfl) ?_; (try simp only [Rg4.nrm])) | (refine Rg4.w4_skip (Rg4.un rfl rfl rfl) ?_; (try simp only [Rg4.nrm])))
        iterate 2 (refine Rg4.w4_any (Rg4.want_none rfl) rfl ?_; apply Exists.intro; refine ⟨fun w' => ?_, ?_⟩; (focus (first | (go_simp; done) | (go_simp; first | rfl | (rw [if_neg] <;> first | rfl | omega) | (rw [if_pos] <;> first | rfl | omega)))); (try simp only [Rg4.nrm]))
        (first | (refine Rg4.w4_any (Rg4.wt rfl rfl rfl) rfl ?_; apply Exists.intro; refine ⟨fun w' => ?_, ?_⟩; (focus (first | (go_simp; done) | (go_simp; first | rfl | (rw [if_neg] <;> first | rfl | omega) | (rw [if_pos] <;> first | rfl | omega)))); (try simp only [Rg4.nrm])) | (refine Rg4.w4_skip (Rg4.uw rfl rfl rfl) ?_; (try simp only [Rg4.nrm])) | (refine Rg4.w4_skip (Rg4.un rfl rfl rfl) ?_; (try simp only [Rg4.nrm])))
        iterate 2 (first | (refine Rg4.w4_read (Rg4.wt rfl rfl rfl) rfl rfl ?_; apply Exists.intro; refine ⟨fun w' hw' hcl' => ?_, ?_⟩; focus (have st' := st.ext hw'; have hc' := st'.facts; (try simp only [nfl, nft, Nat.reduceAdd] at hc'); (focus (first | (go_simp; done) | (go_simp; first | rfl | (rw [if_neg] <;> first | rfl | omega) | (rw [if_pos] <;> first | rfl | omega))))); (try simp only [Rg4.nrm])) | (refine Rg4.w4_skip (Rg4.uw rfl rfl rfl) ?_; (try simp only [Rg4.nrm])) | (refine Rg4.w4_skip (Rg4.un rfl rfl rfl) ?_; (try simp only [Rg4.nrm])))
        refine Rg4.w4_some (Rg4.want_of 16 128 true rfl rfl rfl) rfl (fun w' hw' hcl' _ => ?_) ?_
        · refine Rg.relAt_call (by go_simp; exact ⟨rfl, rfl⟩) ?_
          have st' := st.ext hw'
          refine (HTR2.out _ st'.ext0 (Arr.ext HFA.out st'.ext0)).mono ?_
          rintro en w'' ⟨rfl, hx⟩
          exact ⟨_, rfl, hx, trivial, rfl⟩
        rintro v ⟨_, _, _, rfl⟩
        (try simp only [Rg4.nrm])
        (first | (refine Rg4.w4_any (Rg4.wt rfl rfl rfl) rfl ?_; apply Exists.intro; refine ⟨fun w' => ?_, ?_⟩; (focus (first | (go_simp; done) | (go_simp; first | rfl | (rw [if_neg] <;> first | rfl | omega) | (rw [if_pos] <;> first | rfl | omega)))); (try simp only [Rg4.nrm])) | (refine Rg4.w4_skip (Rg4.uw rfl rfl rfl) ?_; (try simp only [Rg4.nrm])) | (refine Rg4.w4_skip (Rg4.un rfl rfl rfl) ?_; (try simp only [Rg4.nrm])))
        iterate 2 (refine Rg4.w4_any (Rg4.want_none rfl) rfl ?_; apply Exists.intro; refine ⟨fun w' => ?_, ?_⟩; (focus (first | (go_simp; done) | (go_simp; first | rfl | (rw [if_neg] <;> first | rfl | omega) | (rw [if_pos] <;> first | rfl | omega)))); (try simp only [Rg4.nrm]))
        iterate 5 (first | (refine Rg4.w4_any (Rg4.wt rfl rfl rfl) rfl ?_; apply Exists.intro; refine ⟨fun w' => ?_, ?_⟩; (focus (first | (go_simp; done) | (go_simp; first | rfl | (rw [if_neg] <;> first | rfl | omega) | (rw [if_pos] <;> first | rfl | omega)))); (try simp only [Rg4.nrm])) | (refine Rg4.w4_skip (Rg4.uw rfl rfl rfl) ?_; (try simp only [Rg4.nrm])) | (refine Rg4.w4_skip (Rg4.un rfl rfl rfl) ?_; (try simp only [Rg4.nrm])))
        iterate 2 (refine Rg4.w4_any (Rg4.want_none rfl) rfl ?_; apply Exists.intro; refine ⟨fun w' => ?_, ?_⟩; (focus (first | (go_simp; done) | (go_simp; first | rfl | (rw [if_neg] <;> first | rfl | omega) | (rw [if_pos] <;> first | rfl | omega)))); (try simp only [Rg4.nrm]))
        refine Rg4.w4_nil (fun w' hw' hcl' _ => ?_); replace st := st.ext hw'; clear hw' hcl'; (try clear hc); have hc := st.facts; (try simp only [nfl, nft, Nat.reduceAdd] at hc)
        go_wp2_with fail
        go_ret
        exact ⟨by simp, st.ext0⟩
theorem setsTell_law (f : Fm) (a : Option Addr) (n c : Nat) (la : List Role) (a2 : Option Addr) (n2 c2 : Nat) (lb : List Role) (W : World) (hf : FmOk W f) (ha : Fl W a n la) (hb : Fl W a2 n2 lb) (hs : f.strip.great ≤ 2000000) (hn : n ≤ 2000000) (hn2 : n2 ≤ 2000000) :
    Calls Tryz.prog 3 #[.agg (Flt.cells f).toArray, .slice a n c, .slice a2 n2 c2] W fun e w' => e = .returned (.bool true) ∧ Ext W w' := by
  rw [fmV_cells]
  exact setsTell_all f a n c la a2 n2 c2 lb W hf ha hb hs hn hn2
end Go.Proofs.YtcihjohgmhebiaaGreat

namespace Go.Proofs.YtcihjohgmhebiaaGreat
set_option linter.unusedSimpArgs false
set_option linter.unusedVariables false
open Go Go.RowKit Go.ChangeShapes Go.WideShapes Go.ChangeAt

section
variable {H : Type} {enc : TypeId × Value → H} {P : Program} {w : World} {base : Nat} {spare : Nat → Bool} {held : Bool}
end
end Go.Proofs.YtcihjohgmhebiaaGreat

namespace Go.Proofs.YtcihjohgmhebiaaGreat
set_option linter.unusedSimpArgs false
set_option linter.unusedVariables false
open Go Go.RowKit Go.ChangeShapes Go.WideShapes Go.ChangeAt
theorem upto_bound {H : Type} {l : List (DataW H)} (hk : Rows.uptoSmall H l = true) : Rows.uptoBulkAll l ≤ 1048576 := of_decide_eq_true hk
theorem bulk_slice {H : Type} (elems spare : List (DataW H)) : Rows.uptoBulkAll elems + 1 ≤ Rows.uptoBulk (.slice elems spare) := by
  simp only [Rows.uptoBulk]; omega
section
variable {H : Type} {enc : TypeId × Value → H} {P : Program} {w : World} {base : Nat} {held : Bool}
end
end Go.Proofs.YtcihjohgmhebiaaGreat

namespace Go.Proofs.YtcihjohgmhebiaaGreat
set_option linter.unusedSimpArgs false
set_option linter.unusedVariables false
open Go Go.RowKit Go.ChangeShapes Go.WideShapes Go.ChangeAt
theorem mapM_at {f : Nat → Option Value} : ∀ {l : List Nat} {ys : List Value}, l.mapM f = some ys → ∀ (i k : Nat), l[i]? = some k → f k = ys[i]?
  | [], ys, h, i, k, hk => by simp at hk
  | a :: l, ys, h, i, k, hk => by
    rw [List.mapM_cons] at h
    cases ha : f a with
    | none => rw [ha] at h; cases h
    | some y =>
      rw [ha] at h
      cases hl : l.mapM f with
      | none => rw [hl] at h; cases h
      | some zs =>
        rw [hl] at h
        cases h
        cases i with
        | zero => simp at hk; subst hk; simp [ha]
        | succ i => simp at hk; simpa using mapM_at hl i k hk
theorem cells_at {w : World} {base k : Nat} {a : Addr} {cs : List Value} (h : w.cells? base a k = some cs) (j : Nat) (hj : j < k) : w.cell? (a.add j) = cs[j]? := by
  unfold World.cells? at h
  split at h
  · exact mapM_at (f := fun i => w.cell? (a.add i)) h j j (by simp [hj])
  · cases h
theorem bulk_map {H : Type} {α : Type} (D : Nat → DataW H) (f : Nat → α) (bulk : α → Nat) : ∀ (L : List Nat), (∀ i ∈ L, bulk (f i) ≤ Rows.uptoBulk (D i)) → ((L.map f).map bulk).sum ≤ Rows.uptoBulkAll (L.map D)
  | [], _ => by simp
  | i :: L, h => by
    have ih := bulk_map D f bulk L fun j hj => h j (List.mem_cons_of_mem _ hj)
    have h1 := h i (by simp)
    simp only [List.map_cons, Rows.uptoBulkAll, List.sum_cons]
    omega
section
variable {H : Type} {enc : TypeId × Value → H} {P : Program} {w : World} {base : Nat} {held : Bool}
/-- One of them. -/
theorem open_flt {α : Type} [Flt α] (bulk : α → Nat) (R : α → Prop) {r : Reach} {b0 : Nat} {t : TypeId} {fs : Array Field} {v : Value} {d : DataW H} {p : List MemPlace} (ht : P.underlying t = some (.struct fs))
    (hel : ∀ (fuel : Nat) (cs : List Value) (x : DataW H × List MemPlace), DataW.trod enc P w base (fun _ => true) held fuel t cs = some x → ∃ y : α, cs = Flt.cells y ∧ bulk y ≤ Rows.uptoBulk x.1 ∧ R y)
    (hv : Value.okWide P w r b0 t v) (h : DataW.Trod enc P w base (fun _ => true) held t v d p) : ∃ x : α, v = .agg (Flt.cells x).toArray ∧ bulk x ≤ Rows.uptoBulk d ∧ R x := by
  obtain ⟨cs, rfl, hsz⟩ := okWide_struct ht hv
  obtain ⟨fuel, hf⟩ := h
  obtain ⟨x, h1, h2, h3⟩ := hel _ _ _ hf
  refine ⟨x, ?_, h2, h3⟩
  have : cs.toList = Flt.cells x := by simpa [Value.cells] using h1
  congr 1
  apply Array.toList_inj.1
  rw [this]
end
end Go.Proofs.YtcihjohgmhebiaaGreat

namespace Go.Proofs.YtcihjohgmhebiaaGreat
set_option linter.unusedSimpArgs false
set_option linter.unusedVariables false
open Go Go.RowKit Go.ChangeShapes Go.WideShapes Go.ChangeAt
def bulkR (l : List Role) : Nat := (l.map fun r => r.1.length + r.2.length + 3).sum
theorem bulk_list {H : Type} (D : Nat → DataW H) (f : Nat → Role) : ∀ (L : List Nat), (∀ i ∈ L, Rows.uptoBulk (D i) = (f i).1.length + (f i).2.length + 3) → Rows.uptoBulkAll (L.map D) = bulkR (L.map f)
  | [], _ => by simp [Rows.uptoBulkAll, bulkR]
  | i :: L, h => by
    have ih := bulk_list D f L fun j hj => h j (List.mem_cons_of_mem _ hj)
    simp only [List.map_cons, Rows.uptoBulkAll, ih, h i (by simp), bulkR, List.sum_cons]
section
variable {H : Type} {enc : TypeId × Value → H} {P : Program} {w : World} {base : Nat} {held : Bool}
theorem trod_role {t : TypeId} {f0 f1 : Field} {fuel : Nat} {cs : List Value} {x : DataW H × List MemPlace} (ht : P.underlying t = some (.struct #[f0, f1])) (ce : P.cellsOf t = 2) (o0 : f0.offset = 0) (o1 : f1.offset = 1) (c0 : P.cellsOf f0.type = 1) (c1 : P.cellsOf f1.type = 1)
    (t0 : P.underlying f0.type = some .string) (t1 : P.underlying f1.type = some .string) (h : DataW.trod enc P w base (fun _ => true) held fuel t cs = some x) : ∃ r : Role, cs = [S r.1, S r.2] ∧ Rows.uptoBulk x.1 = r.1.length + r.2.length + 3 := by
  obtain ⟨y0, y1, n, rfl, hl, h0, h1⟩ := trod_struct2 ht h
  rw [ce] at hl
  rw [o0, c0] at h0
  rw [o1, c1] at h1
  match cs, hl with
  | [u, v], _ =>
    simp at h0 h1
    obtain ⟨s0, q0, rfl, _⟩ := DataW.trod_string t0 h0
    obtain ⟨s1, q1, rfl, _⟩ := DataW.trod_string t1 h1
    simp at q0 q1
    subst q0 q1
    obtain ⟨⟨s0⟩⟩ := s0
    obtain ⟨⟨s1⟩⟩ := s1
    refine ⟨(s0, s1), rfl, ?_⟩
    simp [Rows.uptoBulk, Rows.uptoBulkAll]
    omega
theorem open_roles {r : Reach} {b0 : Nat} {t e : TypeId} {f0 f1 : Field} {v : Value} {d : DataW H} {p : List MemPlace} (ht : P.underlying t = some (.slice e)) (he : P.underlying e = some (.struct #[f0, f1])) (ce : P.cellsOf e = 2) (o0 : f0.offset = 0) (o1 : f1.offset = 1) (c0 : P.cellsOf f0.type = 1) (c1 : P.cellsOf f1.type = 1)
    (t0 : P.underlying f0.type = some .string) (t1 : P.underlying f1.type = some .string)
    (hv : Value.okWide P w r b0 t v) (h : DataW.Trod enc P w base (fun _ => true) held t v d p) : ∃ a n c xs, v = .slice a n c ∧ Fl w a n (xs : List Role) ∧ (n ≤ c ∧ c ≤ maxLen) ∧ bulkR xs ≤ Rows.uptoBulk d := by
  obtain ⟨a, n, c, rfl⟩ := okWide_slice ht hv
  obtain ⟨fuel, hf⟩ := h
  rcases Go.Deep.open_slice ht hf with ⟨hcs, _⟩ | ⟨a', len, cap, m, n', D, Pl, hcs, hb, hl, hm, hmm, hxe, hx⟩
  · simp [Value.cells] at hcs
    obtain ⟨rfl, rfl, rfl⟩ := hcs
    exact ⟨none, 0, 0, [], rfl, Fl.nil _ _, ⟨Nat.le_refl _, by simp [maxLen]⟩, by simp [bulkR]⟩
  · simp [Value.cells] at hcs
    obtain ⟨rfl, rfl, rfl⟩ := hcs
    rw [ce] at hx
    simp at hmm
    injection hxe with hd hp
    have hel : ∀ i, i < n → ∃ x : Role, (w.cell? (a'.add (i * 2)) = some (S x.1) ∧ w.cell? ((a'.add (i * 2)).add 1) = some (S x.2)) ∧ Rows.uptoBulk (D i) = x.1.length + x.2.length + 3 := fun i hi => by
      obtain ⟨cs', hc, htr⟩ := hx i (by omega)
      obtain ⟨x, h1, h2⟩ := trod_role he ce o0 o1 c0 c1 t0 t1 htr
      subst h1
      refine ⟨x, ?_, h2⟩
      unfold World.cells? at hc
      by_cases hbb : base ≤ (a'.add (i * 2)).block
      · rw [if_pos hbb] at hc
        have hz : (a'.add (i * 2)).add 0 = a'.add (i * 2) := by simp [Addr.add]
        simp only [show List.range 2 = [0, 1] from rfl, List.mapM_cons, List.mapM_nil, hz, Option.pure_def, Option.bind_eq_bind] at hc
        cases q0 : w.cell? (a'.add (i * 2)) with
        | none => rw [q0] at hc; cases hc
        | some y0 =>
          cases q1 : w.cell? ((a'.add (i * 2)).add 1) with
          | none => rw [q0, q1] at hc; cases hc
          | some y1 =>
            rw [q0, q1] at hc
            simp at hc
            obtain ⟨rfl, rfl⟩ := hc
            exact ⟨rfl, rfl⟩
      · rw [if_neg hbb] at hc; cases hc
    obtain ⟨f, hF⟩ : ∃ f : Nat → Role, ∀ i, i < n → (w.cell? (a'.add (i * 2)) = some (S (f i).1) ∧ w.cell? ((a'.add (i * 2)).add 1) = some (S (f i).2)) ∧ Rows.uptoBulk (D i) = (f i).1.length + (f i).2.length + 3 :=
      ⟨fun i => if h : i < n then (hel i h).choose else ([], []), fun i hi => by simp only [hi, dite_true]; exact (hel i hi).choose_spec⟩
    refine ⟨some a', n, c, (List.range n).map f, rfl, ⟨by simp, fun h0 => ?_⟩, ⟨hl, hm⟩, ?_⟩
    · have hx0 : a'.spot = none := by
        have := (hF 0 h0).1.1
        simp only [Addr.add, Nat.zero_mul, if_true] at this
        unfold World.cell? at this
        split at this
        · cases hs : a'.spot with
          | none => rfl
          | some q => simp [hs] at this
        · cases this
      obtain ⟨b, off, sp⟩ := a'
      simp at hx0
      subst hx0
      refine ⟨b, off, rfl, fun i x hi j u hu => ?_⟩
      obtain ⟨hin, hfx⟩ : i < n ∧ f i = x := by
        have h1 := (List.getElem?_eq_some_iff.1 hi).1
        have h2 := (List.getElem?_eq_some_iff.1 hi).2
        simp at h1 h2
        exact ⟨h1, h2⟩
      subst hfx
      have h1 := (hF i hin).1
      rw [addr_add, addr_add] at h1
      rw [fltRole_k]
      match j, hu with
      | 0, hu => cases hu; exact h1.1
      | 1, hu => cases hu; exact h1.2
    · have hb1 := bulk_list D f (List.range n) (fun i hi => (hF i (by simpa using hi)).2)
      rw [← hb1, hd]
      have := bulk_slice (H := H) ((List.range n).map D) ((List.range (m - n)).map fun j => D (n + j))
      omega
end
end Go.Proofs.YtcihjohgmhebiaaGreat

namespace Go.Proofs.YtcihjohgmhebiaaGreat
set_option linter.unusedSimpArgs false
set_option linter.unusedVariables false
open Go Go.RowKit Go.ChangeShapes Go.WideShapes Go.ChangeAt
mutual
def Fo.bulk : Fo → Nat
  | .mk _ _ r kids => 1 + r.1.length + r.2.length + bulkFoL kids
def bulkFoL : List Fo → Nat
  | [] => 0
  | x :: l => x.bulk + bulkFoL l
end
def bulkFm (f : Fm) : Nat := f.strip.bulk
theorem bulkR_len : ∀ l : List Role, l.length ≤ bulkR l
  | [] => by simp [bulkR]
  | x :: l => by have := bulkR_len l; simp only [bulkR, List.map_cons, List.sum_cons, List.length_cons] at *; omega
theorem bulkFoL_sum : ∀ l : List Fm, bulkFoL (l.map Fm.strip) = (l.map bulkFm).sum
  | [] => by simp [bulkFoL]
  | x :: l => by rw [List.map_cons, bulkFoL, bulkFoL_sum l]; simp [bulkFm]
theorem great_bulk (f : Fo) : f.great ≤ f.bulk := by
  refine Fo.ind (P := fun f => f.great ≤ f.bulk) (fun op k r kids ih => ?_) f
  rw [Fo.great, Fo.bulk]
  have : greatL kids ≤ bulkFoL kids := by
    clear op k r
    induction kids with
    | nil => simp [greatL]
    | cons x l ihl =>
      have h1 := ih x (by simp)
      have h2 := ihl fun y hy => ih y (by simp [hy])
      rw [greatL, bulkFoL]
      omega
  omega
section
variable {H : Type} {enc : TypeId × Value → H} {P : Program} {w : World} {base : Nat} {held : Bool}
theorem trod_flts_at {α : Type} [Flt α] [Inhabited α] (bulk : α → Nat) (R : α → Prop) {t e : TypeId} {fuel : Nat} {cs : List Value} {y : DataW H × List MemPlace} (ht : P.underlying t = some (.slice e)) (ce : P.cellsOf e = Flt.k α)
    (hel : ∀ (n : Nat), fuel = n + 1 → ∀ (cs : List Value) (x : DataW H × List MemPlace), DataW.trod enc P w base (fun _ => true) held n e cs = some x → ∃ y : α, cs = Flt.cells y ∧ bulk y ≤ Rows.uptoBulk x.1 ∧ R y)
    (h : DataW.trod enc P w base (fun _ => true) held fuel t cs = some y) : ∃ a n c xs, cs = [.slice a n c] ∧ Fl w a n (xs : List α) ∧ (n ≤ c ∧ c ≤ maxLen) ∧ (xs.map bulk).sum ≤ Rows.uptoBulk y.1 ∧ ∀ x ∈ xs, R x := by
  rcases DataW.trod_slice ht h with ⟨hcs, _⟩ | ⟨a', len, cap, elems, rest, n, hfu, rfl, rfl, hb, hl, hm, hlen, he, _, _⟩
  · exact ⟨none, 0, 0, [], hcs, Fl.nil _ _, ⟨Nat.le_refl _, by simp [maxLen]⟩, by simp, by simp⟩
  · rw [ce] at he
    have hel2 : ∀ i, i < len → ∃ x : α, (∀ j u, (Flt.cells x)[j]? = some u → w.cell? ((a'.add (i * Flt.k α)).add j) = some u) ∧ bulk x ≤ Rows.uptoBulk (elems.getD i (.nil, [])).1 ∧ R x := fun i hi => by
      have h1 := he i hi
      rw [List.getElem?_eq_getElem (by omega)] at h1
      obtain ⟨cs', hc, htr⟩ := Option.bind_eq_some_iff.1 h1
      obtain ⟨x, h1, h2, h3⟩ := hel n hfu _ _ htr
      subst h1
      refine ⟨x, fun j u hu => ?_, ?_, h3⟩
      · have hj : j < Flt.k α := by
          have := (List.getElem?_eq_some_iff.1 hu).1
          rwa [Flt.len] at this
        rw [cells_at hc j hj, hu]
      · rw [List.getD_eq_getElem?_getD, List.getElem?_eq_getElem (by omega)]; exact h2
    obtain ⟨f, hF⟩ : ∃ f : Nat → α, ∀ i, i < len → (∀ j u, (Flt.cells (f i))[j]? = some u → w.cell? ((a'.add (i * Flt.k α)).add j) = some u) ∧ bulk (f i) ≤ Rows.uptoBulk (elems.getD i (.nil, [])).1 ∧ R (f i) :=
      ⟨fun i => if h : i < len then (hel2 i h).choose else default, fun i hi => by simp only [hi, dite_true]; exact (hel2 i hi).choose_spec⟩
    refine ⟨some a', len, cap, (List.range len).map f, rfl, ⟨by simp, fun h0 => ?_⟩, ⟨hl, hm⟩, ?_, ?_⟩
    · have hk := Flt.pos (α := α)
      have hx0 : a'.spot = none := by
        obtain ⟨u, hu⟩ : ∃ u, (Flt.cells (f 0))[0]? = some u := ⟨_, List.getElem?_eq_getElem (by rw [Flt.len]; exact hk)⟩
        have := (hF 0 h0).1 0 u hu
        simp only [Addr.add, Nat.zero_mul, if_true] at this
        unfold World.cell? at this
        split at this
        · cases hs : a'.spot with
          | none => rfl
          | some q => simp [hs] at this
        · cases this
      obtain ⟨b, off, sp⟩ := a'
      simp at hx0
      subst hx0
      refine ⟨b, off, rfl, fun i x hi j u hu => ?_⟩
      obtain ⟨hin, hfx⟩ : i < len ∧ f i = x := by
        have h1 := (List.getElem?_eq_some_iff.1 hi).1
        have h2 := (List.getElem?_eq_some_iff.1 hi).2
        simp at h1 h2
        exact ⟨h1, h2⟩
      subst hfx
      have h1 := (hF i hin).1 j u hu
      rw [addr_add, addr_add] at h1
      exact h1
    · have hb1 := bulk_map (fun i => (elems.getD i (.nil, [])).1) f bulk (List.range len) (fun i hi => (hF i (by simpa using hi)).2.1)
      have e2 : (List.range len).map (fun i => (elems.getD i (.nil, [])).1) = elems.map (·.1) := by
        apply List.ext_getElem?
        intro i
        rw [List.getElem?_map, List.getElem?_map]
        by_cases hi : i < len
        · rw [List.getElem?_range hi, List.getElem?_eq_getElem (by omega)]
          simp only [Option.map_some]
          rw [List.getD_eq_getElem?_getD, List.getElem?_eq_getElem (by omega)]
          rfl
        · rw [List.getElem?_eq_none (by simp; omega), List.getElem?_eq_none (by omega)]
          rfl
      rw [e2] at hb1
      have := bulk_slice (H := H) (elems.map (·.1)) (rest.map (·.1))
      simp only
      omega
    · intro x hx
      simp only [List.mem_map, List.mem_range] at hx
      obtain ⟨i, hi, rfl⟩ := hx
      exact (hF i hi).2.2
set_option maxRecDepth 100000 in
theorem trod_fm : ∀ (fuel : Nat) {cs : List Value} {x : DataW H × List MemPlace}, DataW.trod enc Tryz.prog w base (fun _ => true) held fuel 26 cs = some x → ∃ y : Fm, cs = Flt.cells y ∧ bulkFm y ≤ Rows.uptoBulk x.1 ∧ FmOk w y := by
  intro fuel
  induction fuel using Nat.strongRecOn with
  | ind fuel ih =>
  intro cs x h
  have hS := Tryz.underlying26
  obtain ⟨xs, n, hfu, hx, hl, hlen, hf0⟩ := DataW.trod_struct hS h
  have hf : ∀ (i : Nat) (f : Field), (Tryz.prog.fieldsOf 26)[i]? = some f → ∃ y, xs[i]? = some y ∧ DataW.trod enc Tryz.prog w base (fun _ => true) held n f.type ((cs.drop f.offset).take (Tryz.prog.cellsOf f.type)) = some y := fun i f hi => by
    have := hf0 i f hi
    have hil : i < xs.length := by rw [hlen]; exact (Array.getElem?_eq_some_iff.1 hi).1
    refine ⟨xs[i], List.getElem?_eq_getElem hil, ?_⟩
    rw [this, List.getElem?_eq_getElem hil]
  rw [show Tryz.prog.cellsOf 26 = 5 from by kernel_rfl] at hl
  obtain ⟨y0, e0, h0⟩ := hf 0 _ rfl
  obtain ⟨y1, e1, h1⟩ := hf 1 _ rfl
  obtain ⟨y2, e2, h2⟩ := hf 2 _ rfl
  obtain ⟨y3, e3, h3⟩ := hf 3 _ rfl
  change DataW.trod enc Tryz.prog w base (fun _ => true) held n 3 ((cs.drop 0).take (Tryz.prog.cellsOf 3)) = some y0 at h0
  change DataW.trod enc Tryz.prog w base (fun _ => true) held n 3 ((cs.drop 1).take (Tryz.prog.cellsOf 3)) = some y1 at h1
  change DataW.trod enc Tryz.prog w base (fun _ => true) held n 23 ((cs.drop 2).take (Tryz.prog.cellsOf 23)) = some y2 at h2
  change DataW.trod enc Tryz.prog w base (fun _ => true) held n 24 ((cs.drop 4).take (Tryz.prog.cellsOf 24)) = some y3 at h3
  have k1 : Tryz.prog.cellsOf 3 = 1 := by kernel_rfl
  have k2 : Tryz.prog.cellsOf 23 = 2 := by kernel_rfl
  have k3 : Tryz.prog.cellsOf 24 = 1 := by kernel_rfl
  rw [k1] at h0 h1
  rw [k2] at h2
  rw [k3] at h3
  have hl4 : xs.length = 4 := hlen
  match cs, hl, xs, hl4 with
  | [c0, c1, c2, c3, c4], _, [z0, z1, z2, z3], _ =>
    simp at e0 e1 e2 e3
    subst e0 e1 e2 e3
    simp only [List.drop_succ_cons, List.drop_zero, List.take_succ_cons, List.take_zero] at h0 h1 h2 h3
    obtain ⟨i0, q0, rfl, _⟩ := DataW.trod_int Tryz.underlying3 h0
    obtain ⟨i1, q1, rfl, _⟩ := DataW.trod_int Tryz.underlying3 h1
    obtain ⟨r2, q2, b2⟩ := trod_role Tryz.underlying23 (by kernel_rfl) rfl rfl (by kernel_rfl) (by kernel_rfl) Tryz.underlying9 Tryz.underlying9 h2
    obtain ⟨ka, kn, kc, ks, q3, hk1, hk2, hk3, hk4⟩ := trod_flts_at (α := Fm) bulkFm (FmOk w) Tryz.underlying24 (by kernel_rfl) (fun m hm cs x hh => ih m (by omega) hh) h3
    simp at q0 q1 q2 q3
    refine ⟨.mk i0 i1 r2 ka kn kc ks, ?_, ?_, FmIn.mk hk2 hk1 (fun _ _ _ => trivial) hk4⟩
    · rw [q0, q1, q2.1, q2.2, q3]; rfl
    · rw [hx]
      unfold bulkFm
      rw [strip_mk, Fo.bulk, bulkFoL_sum]
      simp only [List.map_cons, List.map_nil, Rows.uptoBulk, Rows.uptoBulkAll, b2]
      simp [Rows.uptoBulk]
      omega
  | [], hl, _, _ => simp at hl
end
end Go.Proofs.YtcihjohgmhebiaaGreat
