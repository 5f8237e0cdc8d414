/- What must be answered ahead of the laws of caps; CapsTell. -/
import Derived.Test.YthjaopojlhdjpaaFmI
import Derived.Test.YthjaopojlhdjpaaJoin
import Derived.ProofKit
import Derived.OpenShut
import Derived.Test.YthjaopojlhdjpaaRows
import Derived.Deep.Strs
import Derived.Deep.Slices
import Derived.ChangeSame
import Derived.ChangeArms
namespace Go.Proofs.Ythjaopojlhdjpaa
set_option linter.unusedSimpArgs false
set_option linter.unusedVariables false
open Go Go.RowKit
def pa0 : PaT := ⟨[], none, 0, 0, [], none, 0, 0, []⟩
theorem pa0_ok (W : World) : PaOk W pa0 := ⟨⟨⟨Nat.le_refl _, by simp [maxLen, pa0]⟩, Fl.nil _ _, by simp [pa0]⟩, ⟨⟨Nat.le_refl _, by simp [maxLen, pa0]⟩, Fl.nil _ _, by simp [pa0]⟩⟩
theorem one_set {x : Role} (l : List Role) (h : roleR x = true) (hl : ∀ y, y ∈ l ↔ y = x) : roleSet l = [x] :=
  SSet.uniq (roleOrd roleR) (roleSet_set l) ⟨by simp, fun y => by
    constructor
    · intro q
      rw [List.mem_singleton.1 q]
      exact ⟨(hl x).2 rfl, h⟩
    · exact fun q => List.mem_singleton.2 ((hl y).1 q.1)⟩
theorem set_a : roleSet [(([97], [114]) : Role)] = [([97], [114])] := one_set _ (by decide +kernel) (by simp)
theorem sets_a : setsL [foA] = [([97], [114])] := by
  have e : setsL [foA] = roleSet [(([97], [114]) : Role)] ++ [] := rfl
  rw [e, set_a]; rfl
theorem turns_0 : turnsN pa0 pa0 (.mk 2 0 ([], []) []) = 4 := by
  have e : setsL [Fo.mk 2 0 ([], []) []] = roleSet [] ++ [] := rfl
  have h0 : roleSet [] = [] := List.eq_nil_of_length_eq_zero (by have := roleSet_len ([] : List Role); simpa using this)
  unfold turnsN
  rw [show paF pa0 = [] from rfl, List.nil_append, e, h0]
  rw [show setsL ([] : List Fo) = [] from rfl, List.append_nil, h0]
  rfl
theorem turns_a : turnsN pa0 pa0 foA = 6 := by
  have h0 : roleSet [] = [] := List.eq_nil_of_length_eq_zero (by have := roleSet_len ([] : List Role); simpa using this)
  unfold turnsN
  rw [show paF pa0 = [] from rfl, List.nil_append, sets_a, set_a]
  rw [show setsL ([] : List Fo) = [] from rfl, h0]
  rfl
theorem atoms_aa : (roleSet (setsL ([] ++ [foA, foA]))).length = 1 := by
  have e : setsL ([] ++ [foA, foA]) = roleSet [(([97], [114]) : Role)] ++ (roleSet [(([97], [114]) : Role)] ++ []) := rfl
  rw [e, set_a, one_set (x := ([97], [114])) _ (by decide +kernel) (by simp)]
  rfl
theorem fs_leaf {l : List Fo} (h1 : nodesL l ≤ 100000) (h2 : ∀ f ∈ l, FoL 100000 f) : FsL l := ⟨h1, h2⟩
set_option maxRecDepth 100000 in
set_option maxHeartbeats 8000000 in
theorem first24_any (W : World) : Calls Try.prog 20 #[] W fun e w' => e = .returned (.bool true) ∧ Ext W w' := by
  have HR1 := Lib.hid (capsRight_any false 1 3 2 1 9)
  rw [show termR 1 3 2 1 9 = true by decide] at HR1
  have HR2 := Lib.hid (capsRight_any false 0 0 0 0 0)
  rw [show termR 0 0 0 0 0 = false by decide] at HR2
  have HT1 := Lib.hid (fun W => capsTurns_any pa0 pa0 (.mk 2 0 ([], []) none 0 0 []) W (pa0_ok _) (pa0_ok _) (ok_leaf _ _ _ _) (fs_leaf (by decide +kernel) (by
    intro f hf
    rw [List.mem_singleton.1 hf]
    exact L_fo (by decide) (by decide) (by simp [stripL]))) (fs_leaf (by decide) (by simp [paF, pa0])))
  rw [show (Fm.mk 2 0 ([], []) none 0 0 []).strip = .mk 2 0 ([], []) [] from rfl, turns_0] at HT1
  have HT2 := Lib.hid (fun W => capsTurns_any pa0 pa0 fmA W (pa0_ok _) (pa0_ok _) (ok_leaf _ _ _ _) (fs_leaf (by decide +kernel) (by
    intro f hf
    rw [List.mem_singleton.1 hf]
    exact foA_L)) (fs_leaf (by decide) (by simp [paF, pa0])))
  rw [fmA_strip, turns_a] at HT2
  have HRM := Lib.hid (capsRoom_any pa0)
  have HTK := Lib.hid (capsTicks_any 4 3 2)
  rw [show tickN 4 3 2 = 13 by decide] at HTK
  have HAT := Lib.hid (fun b W (h : Fl W (some ⟨b, 0, none⟩) 2 [fmA, fmA]) => capsAtoms_f pa0 (some ⟨b, 0, none⟩) 2 2 [fmA, fmA] W (pa0_ok _) h (fun x hx => by
    rcases List.mem_cons.1 hx with e | e
    · rw [e]; exact ok_leaf _ _ _ _
    · rw [List.mem_singleton.1 e]; exact ok_leaf _ _ _ _) (fs_leaf (by decide +kernel) (by
    intro f hf
    rcases List.mem_cons.1 hf with e | e
    · rw [e]; exact foA_L
    · rw [List.mem_singleton.1 e]; exact foA_L)))
  rw [show paF pa0 ++ [fmA, fmA].map Fm.strip = [] ++ [foA, foA] from rfl, atoms_aa] at HAT
  rw [show paV pa0 = .agg #[.string ⟨#[]⟩, .slice none 0 0, .slice none 0 0] from rfl] at HT1 HT2 HRM HAT
  rw [show fmV fmA = .agg #[.int .i64 1, .int .i64 0, .string ⟨#[97]⟩, .string ⟨#[114]⟩, .slice none 0 0] from rfl] at HT2
  rw [show fmV (Fm.mk 2 0 ([], []) none 0 0 []) = .agg #[.int .i64 2, .int .i64 0, .string ⟨#[]⟩, .string ⟨#[]⟩, .slice none 0 0] from rfl] at HT1
  unfold tV at HR1 HR2
  have st := Own.startOld W
  (try simp only [nsl, Value.cells, unB] at st)
  (try clear hc); have hc := st.facts; (try simp only [nfl, nft, Nat.reduceAdd] at hc)
  go_enter Try.func20, Try.ntmps20
  go_wp2_with ((first
        | ((with_reducible refine wl_alloc ?_ (fun K hK => ?_)); rfl; refine owp_alloc (o := ⟨some 1, _, _, _, _, _⟩) rfl st ?_; apply Exists.intro; apply Exists.intro; refine ⟨?_, ?_⟩; (focus (first | (go_simp; done) | (go_simp; rfl))); (clear st; intro b1 w hb st; clear hb))
        | ((with_reducible refine wl_store ?_ (fun K hK => ?_)); rfl; refine owp_store rfl st ?_; apply Exists.intro; apply Exists.intro; refine ⟨?_, ?_, ?_⟩; (focus (go_simp; try rfl)); (focus (go_simp; try rfl)); (first | (with_reducible refine ⟨0, _, _, _, _, get0, rfl, rfl, ?_, ?_, ?_, ?_⟩) | (with_reducible refine ⟨1, _, _, _, _, get1, rfl, rfl, ?_, ?_, ?_, ?_⟩) | (with_reducible refine ⟨2, _, _, _, _, get2, rfl, rfl, ?_, ?_, ?_, ?_⟩) | (with_reducible refine ⟨3, _, _, _, _, get3, rfl, rfl, ?_, ?_, ?_, ?_⟩) | (with_reducible refine ⟨4, _, _, _, _, get4, rfl, rfl, ?_, ?_, ?_, ?_⟩) | (with_reducible refine ⟨5, _, _, _, _, get5, rfl, rfl, ?_, ?_, ?_, ?_⟩) | (with_reducible refine ⟨6, _, _, _, _, get6, rfl, rfl, ?_, ?_, ?_, ?_⟩) | (with_reducible refine ⟨7, _, _, _, _, get7, rfl, rfl, ?_, ?_, ?_, ?_⟩)); (kernel_rfl); (simp [Value.cells]); (rfl); (clear st; intro w st))
        | ((with_reducible refine wl_alloc ?_ (fun K hK => ?_)); rfl; refine owp_alloc (o := ⟨some 2, _, _, _, _, _⟩) rfl st ?_; apply Exists.intro; apply Exists.intro; refine ⟨?_, ?_⟩; (focus (first | (go_simp; done) | (go_simp; rfl))); (clear st; intro b2 w hb st; clear hb))
        | ((with_reducible refine wl_buildSlice ?_ (fun K hK => ?_)); rfl; refine owp_buildSlice (o := ⟨some 40, _, _, _, _, _⟩) rfl st ?_; apply Exists.intro; apply Exists.intro; apply Exists.intro; apply Exists.intro; refine ⟨?_, ?_⟩; (focus (go_simp; (first | done | exact ⟨⟨rfl, rfl⟩, rfl⟩ | rfl))); (clear st; intro b40 w hb st; clear hb))); (try simp only [nsl, Value.cells, unB] at st); (try clear hc); have hc := st.facts; (try simp only [nfl, nft, Nat.reduceAdd] at hc))
  refine (HR1.out _).mono ?_
  rintro en w ⟨rfl, hx⟩
  replace st := st.ext hx
  clear hx
  (try clear hc); have hc := st.facts; (try simp only [nfl, nft, Nat.reduceAdd] at hc)
  go_wp2_with ((first
        | ((with_reducible refine wl_alloc ?_ (fun K hK => ?_)); rfl; refine owp_alloc (o := ⟨some 1, _, _, _, _, _⟩) rfl st ?_; apply Exists.intro; apply Exists.intro; refine ⟨?_, ?_⟩; (focus (first | (go_simp; done) | (go_simp; rfl))); (clear st; intro b1 w hb st; clear hb))
        | ((with_reducible refine wl_store ?_ (fun K hK => ?_)); rfl; refine owp_store rfl st ?_; apply Exists.intro; apply Exists.intro; refine ⟨?_, ?_, ?_⟩; (focus (go_simp; try rfl)); (focus (go_simp; try rfl)); (first | (with_reducible refine ⟨0, _, _, _, _, get0, rfl, rfl, ?_, ?_, ?_, ?_⟩) | (with_reducible refine ⟨1, _, _, _, _, get1, rfl, rfl, ?_, ?_, ?_, ?_⟩) | (with_reducible refine ⟨2, _, _, _, _, get2, rfl, rfl, ?_, ?_, ?_, ?_⟩) | (with_reducible refine ⟨3, _, _, _, _, get3, rfl, rfl, ?_, ?_, ?_, ?_⟩) | (with_reducible refine ⟨4, _, _, _, _, get4, rfl, rfl, ?_, ?_, ?_, ?_⟩) | (with_reducible refine ⟨5, _, _, _, _, get5, rfl, rfl, ?_, ?_, ?_, ?_⟩) | (with_reducible refine ⟨6, _, _, _, _, get6, rfl, rfl, ?_, ?_, ?_, ?_⟩) | (with_reducible refine ⟨7, _, _, _, _, get7, rfl, rfl, ?_, ?_, ?_, ?_⟩)); (kernel_rfl); (simp [Value.cells]); (rfl); (clear st; intro w st))
        | ((with_reducible refine wl_alloc ?_ (fun K hK => ?_)); rfl; refine owp_alloc (o := ⟨some 2, _, _, _, _, _⟩) rfl st ?_; apply Exists.intro; apply Exists.intro; refine ⟨?_, ?_⟩; (focus (first | (go_simp; done) | (go_simp; rfl))); (clear st; intro b2 w hb st; clear hb))
        | ((with_reducible refine wl_buildSlice ?_ (fun K hK => ?_)); rfl; refine owp_buildSlice (o := ⟨some 40, _, _, _, _, _⟩) rfl st ?_; apply Exists.intro; apply Exists.intro; apply Exists.intro; apply Exists.intro; refine ⟨?_, ?_⟩; (focus (go_simp; (first | done | exact ⟨⟨rfl, rfl⟩, rfl⟩ | rfl))); (clear st; intro b40 w hb st; clear hb))); (try simp only [nsl, Value.cells, unB] at st); (try clear hc); have hc := st.facts; (try simp only [nfl, nft, Nat.reduceAdd] at hc))
  refine (HR2.out _).mono ?_
  rintro en w ⟨rfl, hx⟩
  replace st := st.ext hx
  clear hx
  (try clear hc); have hc := st.facts; (try simp only [nfl, nft, Nat.reduceAdd] at hc)
  go_wp2_with ((first
        | ((with_reducible refine wl_alloc ?_ (fun K hK => ?_)); rfl; refine owp_alloc (o := ⟨some 1, _, _, _, _, _⟩) rfl st ?_; apply Exists.intro; apply Exists.intro; refine ⟨?_, ?_⟩; (focus (first | (go_simp; done) | (go_simp; rfl))); (clear st; intro b1 w hb st; clear hb))
        | ((with_reducible refine wl_store ?_ (fun K hK => ?_)); rfl; refine owp_store rfl st ?_; apply Exists.intro; apply Exists.intro; refine ⟨?_, ?_, ?_⟩; (focus (go_simp; try rfl)); (focus (go_simp; try rfl)); (first | (with_reducible refine ⟨0, _, _, _, _, get0, rfl, rfl, ?_, ?_, ?_, ?_⟩) | (with_reducible refine ⟨1, _, _, _, _, get1, rfl, rfl, ?_, ?_, ?_, ?_⟩) | (with_reducible refine ⟨2, _, _, _, _, get2, rfl, rfl, ?_, ?_, ?_, ?_⟩) | (with_reducible refine ⟨3, _, _, _, _, get3, rfl, rfl, ?_, ?_, ?_, ?_⟩) | (with_reducible refine ⟨4, _, _, _, _, get4, rfl, rfl, ?_, ?_, ?_, ?_⟩) | (with_reducible refine ⟨5, _, _, _, _, get5, rfl, rfl, ?_, ?_, ?_, ?_⟩) | (with_reducible refine ⟨6, _, _, _, _, get6, rfl, rfl, ?_, ?_, ?_, ?_⟩) | (with_reducible refine ⟨7, _, _, _, _, get7, rfl, rfl, ?_, ?_, ?_, ?_⟩)); (kernel_rfl); (simp [Value.cells]); (rfl); (clear st; intro w st))
        | ((with_reducible refine wl_alloc ?_ (fun K hK => ?_)); rfl; refine owp_alloc (o := ⟨some 2, _, _, _, _, _⟩) rfl st ?_; apply Exists.intro; apply Exists.intro; refine ⟨?_, ?_⟩; (focus (first | (go_simp; done) | (go_simp; rfl))); (clear st; intro b2 w hb st; clear hb))
        | ((with_reducible refine wl_buildSlice ?_ (fun K hK => ?_)); rfl; refine owp_buildSlice (o := ⟨some 40, _, _, _, _, _⟩) rfl st ?_; apply Exists.intro; apply Exists.intro; apply Exists.intro; apply Exists.intro; refine ⟨?_, ?_⟩; (focus (go_simp; (first | done | exact ⟨⟨rfl, rfl⟩, rfl⟩ | rfl))); (clear st; intro b40 w hb st; clear hb))); (try simp only [nsl, Value.cells, unB] at st); (try clear hc); have hc := st.facts; (try simp only [nfl, nft, Nat.reduceAdd] at hc))
  refine (HT1.out _).mono ?_
  rintro en w ⟨rfl, hx⟩
  replace st := st.ext hx
  clear hx
  (try clear hc); have hc := st.facts; (try simp only [nfl, nft, Nat.reduceAdd] at hc)
  go_wp2_with ((first
        | ((with_reducible refine wl_alloc ?_ (fun K hK => ?_)); rfl; refine owp_alloc (o := ⟨some 1, _, _, _, _, _⟩) rfl st ?_; apply Exists.intro; apply Exists.intro; refine ⟨?_, ?_⟩; (focus (first | (go_simp; done) | (go_simp; rfl))); (clear st; intro b1 w hb st; clear hb))
        | ((with_reducible refine wl_store ?_ (fun K hK => ?_)); rfl; refine owp_store rfl st ?_; apply Exists.intro; apply Exists.intro; refine ⟨?_, ?_, ?_⟩; (focus (go_simp; try rfl)); (focus (go_simp; try rfl)); (first | (with_reducible refine ⟨0, _, _, _, _, get0, rfl, rfl, ?_, ?_, ?_, ?_⟩) | (with_reducible refine ⟨1, _, _, _, _, get1, rfl, rfl, ?_, ?_, ?_, ?_⟩) | (with_reducible refine ⟨2, _, _, _, _, get2, rfl, rfl, ?_, ?_, ?_, ?_⟩) | (with_reducible refine ⟨3, _, _, _, _, get3, rfl, rfl, ?_, ?_, ?_, ?_⟩) | (with_reducible refine ⟨4, _, _, _, _, get4, rfl, rfl, ?_, ?_, ?_, ?_⟩) | (with_reducible refine ⟨5, _, _, _, _, get5, rfl, rfl, ?_, ?_, ?_, ?_⟩) | (with_reducible refine ⟨6, _, _, _, _, get6, rfl, rfl, ?_, ?_, ?_, ?_⟩) | (with_reducible refine ⟨7, _, _, _, _, get7, rfl, rfl, ?_, ?_, ?_, ?_⟩)); (kernel_rfl); (simp [Value.cells]); (rfl); (clear st; intro w st))
        | ((with_reducible refine wl_alloc ?_ (fun K hK => ?_)); rfl; refine owp_alloc (o := ⟨some 2, _, _, _, _, _⟩) rfl st ?_; apply Exists.intro; apply Exists.intro; refine ⟨?_, ?_⟩; (focus (first | (go_simp; done) | (go_simp; rfl))); (clear st; intro b2 w hb st; clear hb))
        | ((with_reducible refine wl_buildSlice ?_ (fun K hK => ?_)); rfl; refine owp_buildSlice (o := ⟨some 40, _, _, _, _, _⟩) rfl st ?_; apply Exists.intro; apply Exists.intro; apply Exists.intro; apply Exists.intro; refine ⟨?_, ?_⟩; (focus (go_simp; (first | done | exact ⟨⟨rfl, rfl⟩, rfl⟩ | rfl))); (clear st; intro b40 w hb st; clear hb))); (try simp only [nsl, Value.cells, unB] at st); (try clear hc); have hc := st.facts; (try simp only [nfl, nft, Nat.reduceAdd] at hc))
  refine (HT2.out _).mono ?_
  rintro en w ⟨rfl, hx⟩
  replace st := st.ext hx
  clear hx
  (try clear hc); have hc := st.facts; (try simp only [nfl, nft, Nat.reduceAdd] at hc)
  go_wp2_with ((first
        | ((with_reducible refine wl_alloc ?_ (fun K hK => ?_)); rfl; refine owp_alloc (o := ⟨some 1, _, _, _, _, _⟩) rfl st ?_; apply Exists.intro; apply Exists.intro; refine ⟨?_, ?_⟩; (focus (first | (go_simp; done) | (go_simp; rfl))); (clear st; intro b1 w hb st; clear hb))
        | ((with_reducible refine wl_store ?_ (fun K hK => ?_)); rfl; refine owp_store rfl st ?_; apply Exists.intro; apply Exists.intro; refine ⟨?_, ?_, ?_⟩; (focus (go_simp; try rfl)); (focus (go_simp; try rfl)); (first | (with_reducible refine ⟨0, _, _, _, _, get0, rfl, rfl, ?_, ?_, ?_, ?_⟩) | (with_reducible refine ⟨1, _, _, _, _, get1, rfl, rfl, ?_, ?_, ?_, ?_⟩) | (with_reducible refine ⟨2, _, _, _, _, get2, rfl, rfl, ?_, ?_, ?_, ?_⟩) | (with_reducible refine ⟨3, _, _, _, _, get3, rfl, rfl, ?_, ?_, ?_, ?_⟩) | (with_reducible refine ⟨4, _, _, _, _, get4, rfl, rfl, ?_, ?_, ?_, ?_⟩) | (with_reducible refine ⟨5, _, _, _, _, get5, rfl, rfl, ?_, ?_, ?_, ?_⟩) | (with_reducible refine ⟨6, _, _, _, _, get6, rfl, rfl, ?_, ?_, ?_, ?_⟩) | (with_reducible refine ⟨7, _, _, _, _, get7, rfl, rfl, ?_, ?_, ?_, ?_⟩)); (kernel_rfl); (simp [Value.cells]); (rfl); (clear st; intro w st))
        | ((with_reducible refine wl_alloc ?_ (fun K hK => ?_)); rfl; refine owp_alloc (o := ⟨some 2, _, _, _, _, _⟩) rfl st ?_; apply Exists.intro; apply Exists.intro; refine ⟨?_, ?_⟩; (focus (first | (go_simp; done) | (go_simp; rfl))); (clear st; intro b2 w hb st; clear hb))
        | ((with_reducible refine wl_buildSlice ?_ (fun K hK => ?_)); rfl; refine owp_buildSlice (o := ⟨some 40, _, _, _, _, _⟩) rfl st ?_; apply Exists.intro; apply Exists.intro; apply Exists.intro; apply Exists.intro; refine ⟨?_, ?_⟩; (focus (go_simp; (first | done | exact ⟨⟨rfl, rfl⟩, rfl⟩ | rfl))); (clear st; intro b40 w hb st; clear hb))); (try simp only [nsl, Value.cells, unB] at st); (try clear hc); have hc := st.facts; (try simp only [nfl, nft, Nat.reduceAdd] at hc))
  refine (HRM.out _).mono ?_
  rintro en w ⟨rfl, hx⟩
  replace st := st.ext hx
  clear hx
  (try clear hc); have hc := st.facts; (try simp only [nfl, nft, Nat.reduceAdd] at hc)
  go_wp2_with ((first
        | ((with_reducible refine wl_alloc ?_ (fun K hK => ?_)); rfl; refine owp_alloc (o := ⟨some 1, _, _, _, _, _⟩) rfl st ?_; apply Exists.intro; apply Exists.intro; refine ⟨?_, ?_⟩; (focus (first | (go_simp; done) | (go_simp; rfl))); (clear st; intro b1 w hb st; clear hb))
        | ((with_reducible refine wl_store ?_ (fun K hK => ?_)); rfl; refine owp_store rfl st ?_; apply Exists.intro; apply Exists.intro; refine ⟨?_, ?_, ?_⟩; (focus (go_simp; try rfl)); (focus (go_simp; try rfl)); (first | (with_reducible refine ⟨0, _, _, _, _, get0, rfl, rfl, ?_, ?_, ?_, ?_⟩) | (with_reducible refine ⟨1, _, _, _, _, get1, rfl, rfl, ?_, ?_, ?_, ?_⟩) | (with_reducible refine ⟨2, _, _, _, _, get2, rfl, rfl, ?_, ?_, ?_, ?_⟩) | (with_reducible refine ⟨3, _, _, _, _, get3, rfl, rfl, ?_, ?_, ?_, ?_⟩) | (with_reducible refine ⟨4, _, _, _, _, get4, rfl, rfl, ?_, ?_, ?_, ?_⟩) | (with_reducible refine ⟨5, _, _, _, _, get5, rfl, rfl, ?_, ?_, ?_, ?_⟩) | (with_reducible refine ⟨6, _, _, _, _, get6, rfl, rfl, ?_, ?_, ?_, ?_⟩) | (with_reducible refine ⟨7, _, _, _, _, get7, rfl, rfl, ?_, ?_, ?_, ?_⟩)); (kernel_rfl); (simp [Value.cells]); (rfl); (clear st; intro w st))
        | ((with_reducible refine wl_alloc ?_ (fun K hK => ?_)); rfl; refine owp_alloc (o := ⟨some 2, _, _, _, _, _⟩) rfl st ?_; apply Exists.intro; apply Exists.intro; refine ⟨?_, ?_⟩; (focus (first | (go_simp; done) | (go_simp; rfl))); (clear st; intro b2 w hb st; clear hb))
        | ((with_reducible refine wl_buildSlice ?_ (fun K hK => ?_)); rfl; refine owp_buildSlice (o := ⟨some 40, _, _, _, _, _⟩) rfl st ?_; apply Exists.intro; apply Exists.intro; apply Exists.intro; apply Exists.intro; refine ⟨?_, ?_⟩; (focus (go_simp; (first | done | exact ⟨⟨rfl, rfl⟩, rfl⟩ | rfl))); (clear st; intro b40 w hb st; clear hb))); (try simp only [nsl, Value.cells, unB] at st); (try clear hc); have hc := st.facts; (try simp only [nfl, nft, Nat.reduceAdd] at hc))
  refine (HTK.out _).mono ?_
  rintro en w ⟨rfl, hx⟩
  replace st := st.ext hx
  clear hx
  (try clear hc); have hc := st.facts; (try simp only [nfl, nft, Nat.reduceAdd] at hc)
  go_wp2_with ((first
        | ((with_reducible refine wl_alloc ?_ (fun K hK => ?_)); rfl; refine owp_alloc (o := ⟨some 1, _, _, _, _, _⟩) rfl st ?_; apply Exists.intro; apply Exists.intro; refine ⟨?_, ?_⟩; (focus (first | (go_simp; done) | (go_simp; rfl))); (clear st; intro b1 w hb st; clear hb))
        | ((with_reducible refine wl_store ?_ (fun K hK => ?_)); rfl; refine owp_store rfl st ?_; apply Exists.intro; apply Exists.intro; refine ⟨?_, ?_, ?_⟩; (focus (go_simp; try rfl)); (focus (go_simp; try rfl)); (first | (with_reducible refine ⟨0, _, _, _, _, get0, rfl, rfl, ?_, ?_, ?_, ?_⟩) | (with_reducible refine ⟨1, _, _, _, _, get1, rfl, rfl, ?_, ?_, ?_, ?_⟩) | (with_reducible refine ⟨2, _, _, _, _, get2, rfl, rfl, ?_, ?_, ?_, ?_⟩) | (with_reducible refine ⟨3, _, _, _, _, get3, rfl, rfl, ?_, ?_, ?_, ?_⟩) | (with_reducible refine ⟨4, _, _, _, _, get4, rfl, rfl, ?_, ?_, ?_, ?_⟩) | (with_reducible refine ⟨5, _, _, _, _, get5, rfl, rfl, ?_, ?_, ?_, ?_⟩) | (with_reducible refine ⟨6, _, _, _, _, get6, rfl, rfl, ?_, ?_, ?_, ?_⟩) | (with_reducible refine ⟨7, _, _, _, _, get7, rfl, rfl, ?_, ?_, ?_, ?_⟩)); (kernel_rfl); (simp [Value.cells]); (rfl); (clear st; intro w st))
        | ((with_reducible refine wl_alloc ?_ (fun K hK => ?_)); rfl; refine owp_alloc (o := ⟨some 2, _, _, _, _, _⟩) rfl st ?_; apply Exists.intro; apply Exists.intro; refine ⟨?_, ?_⟩; (focus (first | (go_simp; done) | (go_simp; rfl))); (clear st; intro b2 w hb st; clear hb))
        | ((with_reducible refine wl_buildSlice ?_ (fun K hK => ?_)); rfl; refine owp_buildSlice (o := ⟨some 40, _, _, _, _, _⟩) rfl st ?_; apply Exists.intro; apply Exists.intro; apply Exists.intro; apply Exists.intro; refine ⟨?_, ?_⟩; (focus (go_simp; (first | done | exact ⟨⟨rfl, rfl⟩, rfl⟩ | rfl))); (clear st; intro b40 w hb st; clear hb))); (try simp only [nsl, Value.cells, unB] at st); (try clear hc); have hc := st.facts; (try simp only [nfl, nft, Nat.reduceAdd] at hc))
  refine (HAT.out _ _ (fl_lit (st.blk (i := 3) get3) [fmA, fmA] rfl)).mono ?_
  rintro en w ⟨va, vc, rfl, _, hx⟩
  replace st := st.ext hx
  clear hx
  (try simp only [nsl, Value.cells, unB] at st)
  (try clear hc); have hc := st.facts; (try simp only [nfl, nft, Nat.reduceAdd] at hc)
  go_wp2_with ((first
        | ((with_reducible refine wl_alloc ?_ (fun K hK => ?_)); rfl; refine owp_alloc (o := ⟨some 1, _, _, _, _, _⟩) rfl st ?_; apply Exists.intro; apply Exists.intro; refine ⟨?_, ?_⟩; (focus (first | (go_simp; done) | (go_simp; rfl))); (clear st; intro b1 w hb st; clear hb))
        | ((with_reducible refine wl_store ?_ (fun K hK => ?_)); rfl; refine owp_store rfl st ?_; apply Exists.intro; apply Exists.intro; refine ⟨?_, ?_, ?_⟩; (focus (go_simp; try rfl)); (focus (go_simp; try rfl)); (first | (with_reducible refine ⟨0, _, _, _, _, get0, rfl, rfl, ?_, ?_, ?_, ?_⟩) | (with_reducible refine ⟨1, _, _, _, _, get1, rfl, rfl, ?_, ?_, ?_, ?_⟩) | (with_reducible refine ⟨2, _, _, _, _, get2, rfl, rfl, ?_, ?_, ?_, ?_⟩) | (with_reducible refine ⟨3, _, _, _, _, get3, rfl, rfl, ?_, ?_, ?_, ?_⟩) | (with_reducible refine ⟨4, _, _, _, _, get4, rfl, rfl, ?_, ?_, ?_, ?_⟩) | (with_reducible refine ⟨5, _, _, _, _, get5, rfl, rfl, ?_, ?_, ?_, ?_⟩) | (with_reducible refine ⟨6, _, _, _, _, get6, rfl, rfl, ?_, ?_, ?_, ?_⟩) | (with_reducible refine ⟨7, _, _, _, _, get7, rfl, rfl, ?_, ?_, ?_, ?_⟩)); (kernel_rfl); (simp [Value.cells]); (rfl); (clear st; intro w st))
        | ((with_reducible refine wl_alloc ?_ (fun K hK => ?_)); rfl; refine owp_alloc (o := ⟨some 2, _, _, _, _, _⟩) rfl st ?_; apply Exists.intro; apply Exists.intro; refine ⟨?_, ?_⟩; (focus (first | (go_simp; done) | (go_simp; rfl))); (clear st; intro b2 w hb st; clear hb))
        | ((with_reducible refine wl_buildSlice ?_ (fun K hK => ?_)); rfl; refine owp_buildSlice (o := ⟨some 40, _, _, _, _, _⟩) rfl st ?_; apply Exists.intro; apply Exists.intro; apply Exists.intro; apply Exists.intro; refine ⟨?_, ?_⟩; (focus (go_simp; (first | done | exact ⟨⟨rfl, rfl⟩, rfl⟩ | rfl))); (clear st; intro b40 w hb st; clear hb))); (try simp only [nsl, Value.cells, unB] at st); (try clear hc); have hc := st.facts; (try simp only [nfl, nft, Nat.reduceAdd] at hc))
  go_ret
  exact ⟨rfl, st.ext0⟩
end Go.Proofs.Ythjaopojlhdjpaa

namespace Go.Proofs.Ythjaopojlhdjpaa
set_option linter.unusedSimpArgs false
set_option linter.unusedVariables false
open Go Go.RowKit
set_option maxRecDepth 100000 in
set_option maxHeartbeats 8000000 in
theorem refCapsAtoms_f (p : PaT) (fa : Option Addr) (fn fc : Nat) (fl : List Fm) (W : World) (hp : PaOk W p) (hf : Fl W fa fn fl) (hk : ∀ x ∈ fl, FmOk W x) (hs : FsL (paF p ++ fl.map Fm.strip)) :
    Calls Try.prog 28 #[paV p, .slice fa fn fc] W fun e w' => ∃ va vc, e = .returned (.slice va (roleSet (setsL (paF p ++ fl.map Fm.strip))).length vc) ∧ Fl w' va (roleSet (setsL (paF p ++ fl.map Fm.strip))).length (roleSet (setsL (paF p ++ fl.map Fm.strip))) ∧ Ext W w' := by
  have HF := Lib.hid hf
  have HN1 : Hid (p.gn = p.gs.length) := Lib.hid hp.1.2.1.1
  have HN2 : Hid (p.an = p.ks.length) := Lib.hid hp.2.2.1.1
  have HN3 : Hid (fn = fl.length) := Lib.hid hf.1
  have hn1 := hs.1
  rw [nodesL_append, paF_def, nodesL_append] at hn1
  have hg1 : p.gn ≤ 100000 := by have := nodesL_len (p.gs.map (fun g => g.f.strip)); rw [List.length_map] at this; have := hp.1.2.1.1; omega
  have hg2 : p.an ≤ 100000 := by have := nodesL_len (p.ks.map (fun a => a.f.strip)); rw [List.length_map] at this; have := hp.2.2.1.1; omega
  have hg3 : fn ≤ 100000 := by have := nodesL_len (fl.map Fm.strip); rw [List.length_map] at this; have := hf.1; omega
  have hperm : roleSet (setsL ((fl ++ p.gs.map (fun g => g.f) ++ p.ks.map (fun a => a.f)).map Fm.strip)) = roleSet (setsL (paF p ++ fl.map Fm.strip)) := setsL_perm (fun f => by
    simp only [paF_def, List.map_append, List.mem_append, List.map_map, Function.comp_def]
    constructor
    · rintro ((h | h) | h)
      · exact .inr h
      · exact .inl (.inl h)
      · exact .inl (.inr h)
    · rintro ((h | h) | h)
      · exact .inl (.inr h)
      · exact .inr h
      · exact .inl (.inl h))
  have hsz : nodesL ((fl ++ p.gs.map (fun g => g.f) ++ p.ks.map (fun a => a.f)).map Fm.strip) ≤ 100000 := by
    rw [List.map_append, List.map_append, nodesL_append, nodesL_append, List.map_map, List.map_map]
    have e1 : p.gs.map (Fm.strip ∘ fun g => g.f) = p.gs.map (fun g => g.f.strip) := rfl
    have e2 : p.ks.map (Fm.strip ∘ fun a => a.f) = p.ks.map (fun a => a.f.strip) := rfl
    rw [e1, e2]; omega
  have hall : ∀ f ∈ fl ++ p.gs.map (fun g => g.f) ++ p.ks.map (fun a => a.f), FmOk W f ∧ FoL 100000 f.strip := by
    intro f h
    rcases List.mem_append.1 h with h | h
    · rcases List.mem_append.1 h with h | h
      · exact ⟨hk f h, hs.2 _ (List.mem_append_right _ (List.mem_map.2 ⟨f, h, rfl⟩))⟩
      · obtain ⟨g, hg, rfl⟩ := List.mem_map.1 h
        exact ⟨(hp.1.2.2 g hg).2, hs.2 _ (List.mem_append_left _ (List.mem_append_left _ (List.mem_map.2 ⟨g, hg, rfl⟩)))⟩
    · obtain ⟨g, hg, rfl⟩ := List.mem_map.1 h
      exact ⟨(hp.2.2.2 g hg).1, hs.2 _ (List.mem_append_left _ (List.mem_append_right _ (List.mem_map.2 ⟨g, hg, rfl⟩)))⟩
  have hlen : (fl ++ p.gs.map (fun g => g.f) ++ p.ks.map (fun a => a.f)).length = fn + p.gn + p.an := by simp [HN1.out, HN2.out, HN3.out, Nat.add_assoc]
  have hrl : ∀ r ∈ setsL ((fl ++ p.gs.map (fun g => g.f) ++ p.ks.map (fun a => a.f)).map Fm.strip), r.1.length ≤ 100000 ∧ r.2.length ≤ 100000 := setsL_L (fun f hf => by
    obtain ⟨g, hg, rfl⟩ := List.mem_map.1 hf
    exact (hall g hg).2)
  have HP := Lib.hid hp
  have HSZ := Lib.hid hsz
  have HAL := Lib.hid hall
  have HLE := Lib.hid hlen
  have HRL := Lib.hid hrl
  rw [← hperm]
  obtain ⟨rs, hrs⟩ : ∃ l, roleSet (setsL ((fl ++ p.gs.map (fun g => g.f) ++ p.ks.map (fun a => a.f)).map Fm.strip)) = l := ⟨_, rfl⟩
  rw [hrs]
  have HRS := Lib.hid hrs
  obtain ⟨ln, hln⟩ : ∃ l, rs.length = l := ⟨_, rfl⟩
  rw [hln]
  have HLN := Lib.hid hln
  clear hp hf hk hs hn1 hperm hsz hall hlen hrs hln hrl
  obtain ⟨nm, ga, gn, gc, gs, aa, an, ac, ks⟩ := p
  simp only at HN1 HN2 hg1 hg2 HSZ HAL HLE HRS HRL
  have st := Own.start (fun _ => False) (fun _ => False) W
  unfold paV
  simp only
  (try simp only [nsl, Value.cells, unB] at st)
  (try clear hc); have hc := st.facts; (try simp only [nfl, nft, Nat.reduceAdd] at hc)
  go_enter Try.func28, Try.ntmps28
  go_wp2_with (first
      | ((with_reducible refine wl_append ?_ (fun K hK => ?_)); (rfl); (obtain ⟨inf, hinf, hz0, hz1, hz2⟩ := fmInfo); (refine owp_append rfl st 1 get1 Try.underlying24 hinf hz0 hz1 hz2 rfl (by decide) rfl rfl (Fl.flat (α := Fm) (Arr.ext HF.out st.ext0)) (by first | exact cellsL_all _ | simp [Value.oneCell']) (by simp only [maxLen]; omega) (by omega) ?_); (clear hinf hz0 hz1 hz2 inf); (clear st; intro v' w st); (obtain ⟨va', vc', rfl⟩ := own_slice (st.row (i := 1) get1)); (try simp only [nsl, Value.cells, unB] at st); (try simp only [Nat.zero_add] at st); (try clear hc); have hc := st.facts; (try simp only [nfl, nft, Nat.reduceAdd] at hc))
      | ((with_reducible refine wl_buildSlice ?_ (fun K hK => ?_)); (rfl); (refine owp_buildRow (o := ⟨some 13, _, _, _, _, _⟩) rfl st 26 5 ?_; refine ⟨0, #[], ?_, by simp, by simp [maxLen], ?_⟩; (focus (go_simp; (first | done | rfl))); (clear st; intro b13 w hb st; clear hb)); (try simp only [nsl, Value.cells, unB] at st); (try clear hc); have hc := st.facts; (try simp only [nfl, nft, Nat.reduceAdd] at hc))
      | ((first
        | ((with_reducible refine wl_box ?_ (fun K hK => ?_)); rfl; refine owp_box (o := ⟨some 2, _, _, _, _, _⟩) rfl st ?_; apply Exists.intro; refine ⟨?_, ?_⟩; (focus (go_simp; try rfl)); (clear st; intro b2 w hb st; clear hb))
        | ((with_reducible refine wl_buildSlice ?_ (fun K hK => ?_)); rfl; refine owp_buildSlice (o := ⟨some 13, _, _, _, _, _⟩) rfl st ?_; apply Exists.intro; apply Exists.intro; apply Exists.intro; apply Exists.intro; refine ⟨?_, ?_⟩; (focus (go_simp; (first | done | exact ⟨⟨rfl, rfl⟩, rfl⟩ | rfl))); (clear st; intro b13 w hb st; clear hb))
        | ((with_reducible refine wl_alloc ?_ (fun K hK => ?_)); rfl; refine owp_alloc (o := ⟨some 7, _, _, _, _, _⟩) rfl st ?_; apply Exists.intro; apply Exists.intro; refine ⟨?_, ?_⟩; (focus (first | (go_simp; done) | (go_simp; rfl))); (clear st; intro b7 w hb st; clear hb))
        | ((with_reducible refine wl_store ?_ (fun K hK => ?_)); rfl; refine owp_store rfl st ?_; apply Exists.intro; apply Exists.intro; refine ⟨?_, ?_, ?_⟩; (focus (go_simp; try rfl)); (focus (go_simp; try rfl)); (first | (with_reducible refine ⟨0, _, _, _, _, get0, rfl, rfl, ?_, ?_, ?_, ?_⟩) | (with_reducible refine ⟨1, _, _, _, _, get1, rfl, rfl, ?_, ?_, ?_, ?_⟩) | (with_reducible refine ⟨2, _, _, _, _, get2, rfl, rfl, ?_, ?_, ?_, ?_⟩) | (with_reducible refine ⟨3, _, _, _, _, get3, rfl, rfl, ?_, ?_, ?_, ?_⟩) | (with_reducible refine ⟨4, _, _, _, _, get4, rfl, rfl, ?_, ?_, ?_, ?_⟩) | (with_reducible refine ⟨5, _, _, _, _, get5, rfl, rfl, ?_, ?_, ?_, ?_⟩)); (kernel_rfl); (simp [Value.cells]); (rfl); (clear st; intro w st))
        | ((with_reducible refine wl_buildSlice ?_ (fun K hK => ?_)); rfl; refine owp_buildSlice (o := ⟨some 26, _, _, _, _, _⟩) rfl st ?_; apply Exists.intro; apply Exists.intro; apply Exists.intro; apply Exists.intro; refine ⟨?_, ?_⟩; (focus (go_simp; (first | done | exact ⟨⟨rfl, rfl⟩, rfl⟩ | rfl))); (clear st; intro b26 w hb st; clear hb))
        | ((with_reducible refine wl_alloc ?_ (fun K hK => ?_)); rfl; refine owp_alloc (o := ⟨some 9, _, _, _, _, _⟩) rfl st ?_; apply Exists.intro; apply Exists.intro; refine ⟨?_, ?_⟩; (focus (first | (go_simp; done) | (go_simp; rfl))); (clear st; intro b9 w hb st; clear hb))
        | ((with_reducible refine wl_buildSlice ?_ (fun K hK => ?_)); rfl; refine owp_buildSlice (o := ⟨some 39, _, _, _, _, _⟩) rfl st ?_; apply Exists.intro; apply Exists.intro; apply Exists.intro; apply Exists.intro; refine ⟨?_, ?_⟩; (focus (go_simp; (first | done | exact ⟨⟨rfl, rfl⟩, rfl⟩ | rfl))); (clear st; intro b39 w hb st; clear hb))
        | ((with_reducible refine wl_alloc ?_ (fun K hK => ?_)); rfl; refine owp_alloc (o := ⟨some 12, _, _, _, _, _⟩) rfl st ?_; apply Exists.intro; apply Exists.intro; refine ⟨?_, ?_⟩; (focus (first | (go_simp; done) | (go_simp; rfl))); (clear st; intro b12 w hb st; clear hb))); (try simp only [nsl, Value.cells, unB] at st); (try clear hc); have hc := st.facts; (try simp only [nfl, nft, Nat.reduceAdd] at hc)))
  go_loopg [5, 19] gn (fun q ov i wr => ∃ (j r : Nat) (xs : List Fm), j ≤ gn ∧ q = gn - j ∧ i = .int .i64 (j : Int) ∧ r ≤ 100000 + j ∧ Hid (r = fn + j) ∧ Hid (xs = fl ++ (gs.take j).map (fun g => g.f)) ∧ Own (fun _ => False) (fun _ => False) W [blkI b2 [.string ⟨nm.toArray⟩, .slice ga gn gc, .slice aa an ac], rowI 26 5 ov r (cellsL xs)] wr)
  case atStart => exact ⟨0, fn, fl, by omega, by omega, rfl, by omega, Lib.hid rfl, Lib.hid (by simp), st⟩
  case round =>
    obtain ⟨j, r, xs, hj, rfl, rfl, hr, HRJ, HX, st'⟩ := hrel
    clear st hc
    have st := st'
    clear st'
    obtain ⟨oa, oc, rfl⟩ := own_slice (st.row (i := 1) get1)
    by_cases hjn : j < gn
    · obtain ⟨b, off, ha, hcell⟩ := Fl.gu (a := ga) (n := gn) (xs := gs) (HP.out.ext st.ext0).1.2.1 (by omega)
      have hjl : j < gs.length := by have := HN1.out; omega
      have hsn : (gs.take (j + 1)).map (fun g => g.f) = (gs.take j).map (fun g => g.f) ++ [gs[j].f] := by rw [← List.take_append_getElem hjl, List.map_append]; rfl
      have hgt := List.getElem?_eq_getElem hjl
      generalize gs[j] = x at *
      obtain ⟨⟨cx, sa, sn, sm, sx⟩, fx⟩ := x
      simp only at hsn
      have HX2 : Hid (xs ++ [fx] = fl ++ (gs.take (j + 1)).map (fun g => g.f)) := Lib.hid (by rw [hsn, HX.out, List.append_assoc])
      clear hsn hjl
      obtain ⟨ck, ⟨ho, hd⟩, nw, ⟨bo, bd⟩, ⟨co, cd⟩, we⟩ := cx
      obtain ⟨op, k, ⟨o, d⟩, a', n', c', kids⟩ := fx
      obtain ⟨⟨r0, r1, r2, r3, r4, r5, r6, r7, r8, r9⟩, s0, s1, s2, s3, s4⟩ := hcell j _ sa sn sm sx op k (o, d) a' n' c' kids hgt
      clear hcell hgt
      subst ha
      unfold S at r1 r2 r3 r4 r5 r6 r7 r8 s2 s3
      simp only at r0 r1 r2 r3 r4 r5 r6 r7 r8 s2 s3
      (try simp only [nsl, Value.cells, unB] at st)
      (try clear hc); have hc := st.facts; (try simp only [nfl, nft, Nat.reduceAdd] at hc)
      go_wp2_with (first
          | ((with_reducible refine wl_append ?_ (fun K hK => ?_)); (rfl); (obtain ⟨inf, hinf, hz0, hz1, hz2⟩ := fmInfo); (refine owp_append rfl st 1 get1 Try.underlying24 hinf hz0 hz1 hz2 rfl (by decide) rfl rfl ((st.blk (i := 3) get3).flat rfl) (by first | exact cellsL_all _ | simp [Value.oneCell']) (by simp only [maxLen]; omega) (by omega) ?_); (clear hinf hz0 hz1 hz2 inf); (clear st; intro v' w st); (obtain ⟨va', vc', rfl⟩ := own_slice (st.row (i := 1) get1)); (try simp only [nsl, Value.cells, unB] at st); (try simp only [Nat.zero_add] at st); (try clear hc); have hc := st.facts; (try simp only [nfl, nft, Nat.reduceAdd] at hc))
          | ((first
            | ((with_reducible refine wl_box ?_ (fun K hK => ?_)); rfl; refine owp_box (o := ⟨some 2, _, _, _, _, _⟩) rfl st ?_; apply Exists.intro; refine ⟨?_, ?_⟩; (focus (go_simp; try rfl)); (clear st; intro b2 w hb st; clear hb))
            | ((with_reducible refine wl_buildSlice ?_ (fun K hK => ?_)); rfl; refine owp_buildSlice (o := ⟨some 13, _, _, _, _, _⟩) rfl st ?_; apply Exists.intro; apply Exists.intro; apply Exists.intro; apply Exists.intro; refine ⟨?_, ?_⟩; (focus (go_simp; (first | done | exact ⟨⟨rfl, rfl⟩, rfl⟩ | rfl))); (clear st; intro b13 w hb st; clear hb))
            | ((with_reducible refine wl_alloc ?_ (fun K hK => ?_)); rfl; refine owp_alloc (o := ⟨some 7, _, _, _, _, _⟩) rfl st ?_; apply Exists.intro; apply Exists.intro; refine ⟨?_, ?_⟩; (focus (first | (go_simp; done) | (go_simp; rfl))); (clear st; intro b7 w hb st; clear hb))
            | ((with_reducible refine wl_store ?_ (fun K hK => ?_)); rfl; refine owp_store rfl st ?_; apply Exists.intro; apply Exists.intro; refine ⟨?_, ?_, ?_⟩; (focus (go_simp; try rfl)); (focus (go_simp; try rfl)); (first | (with_reducible refine ⟨0, _, _, _, _, get0, rfl, rfl, ?_, ?_, ?_, ?_⟩) | (with_reducible refine ⟨1, _, _, _, _, get1, rfl, rfl, ?_, ?_, ?_, ?_⟩) | (with_reducible refine ⟨2, _, _, _, _, get2, rfl, rfl, ?_, ?_, ?_, ?_⟩) | (with_reducible refine ⟨3, _, _, _, _, get3, rfl, rfl, ?_, ?_, ?_, ?_⟩) | (with_reducible refine ⟨4, _, _, _, _, get4, rfl, rfl, ?_, ?_, ?_, ?_⟩) | (with_reducible refine ⟨5, _, _, _, _, get5, rfl, rfl, ?_, ?_, ?_, ?_⟩)); (kernel_rfl); (simp [Value.cells]); (rfl); (clear st; intro w st))
            | ((with_reducible refine wl_buildSlice ?_ (fun K hK => ?_)); rfl; refine owp_buildSlice (o := ⟨some 26, _, _, _, _, _⟩) rfl st ?_; apply Exists.intro; apply Exists.intro; apply Exists.intro; apply Exists.intro; refine ⟨?_, ?_⟩; (focus (go_simp; (first | done | exact ⟨⟨rfl, rfl⟩, rfl⟩ | rfl))); (clear st; intro b26 w hb st; clear hb))
            | ((with_reducible refine wl_alloc ?_ (fun K hK => ?_)); rfl; refine owp_alloc (o := ⟨some 9, _, _, _, _, _⟩) rfl st ?_; apply Exists.intro; apply Exists.intro; refine ⟨?_, ?_⟩; (focus (first | (go_simp; done) | (go_simp; rfl))); (clear st; intro b9 w hb st; clear hb))
            | ((with_reducible refine wl_buildSlice ?_ (fun K hK => ?_)); rfl; refine owp_buildSlice (o := ⟨some 39, _, _, _, _, _⟩) rfl st ?_; apply Exists.intro; apply Exists.intro; apply Exists.intro; apply Exists.intro; refine ⟨?_, ?_⟩; (focus (go_simp; (first | done | exact ⟨⟨rfl, rfl⟩, rfl⟩ | rfl))); (clear st; intro b39 w hb st; clear hb))
            | ((with_reducible refine wl_alloc ?_ (fun K hK => ?_)); rfl; refine owp_alloc (o := ⟨some 12, _, _, _, _, _⟩) rfl st ?_; apply Exists.intro; apply Exists.intro; refine ⟨?_, ?_⟩; (focus (first | (go_simp; done) | (go_simp; rfl))); (clear st; intro b12 w hb st; clear hb))); (try simp only [nsl, Value.cells, unB] at st); (try clear hc); have hc := st.facts; (try simp only [nfl, nft, Nat.reduceAdd] at hc)))
      have st' := st.keep [0, 1] (by decide) (by simp)
      go_roundg (gn - (j + 1))
      case measure => omega
      case rel => exact ⟨j + 1, r + 1, _, by omega, by omega, by go_num, by omega, Lib.hid (by rw [HRJ.out]; omega), HX2, by rw [cellsL_append, cellsL_one']; simpa [pick, Flt.cells, fmC, S] using st'⟩
    · obtain rfl : gn = j := by omega
      have HE1 : Hid (xs = fl ++ gs.map (fun g => g.f)) := Lib.hid (by rw [HX.out, List.take_of_length_le (by have := HN1.out; omega)])
      clear HX
      (try simp only [nsl, Value.cells, unB] at st)
      (try clear hc); have hc := st.facts; (try simp only [nfl, nft, Nat.reduceAdd] at hc)
      go_wp2_with fail
      go_loopg [5, 32] an (fun q ov i wr => ∃ (j r2 : Nat) (zs : List Fm), j ≤ an ∧ q = an - j ∧ i = .int .i64 (j : Int) ∧ r2 ≤ 200000 + j ∧ Hid (r2 = r + j) ∧ Hid (zs = xs ++ (ks.take j).map (fun a => a.f)) ∧ Own (fun _ => False) (fun _ => False) W [blkI b2 [.string ⟨nm.toArray⟩, .slice ga gn gc, .slice aa an ac], rowI 26 5 ov r2 (cellsL zs)] wr)
      case atStart => exact ⟨0, r, xs, by omega, by omega, rfl, by omega, Lib.hid rfl, Lib.hid (by simp), st⟩
      case round =>
        obtain ⟨j, r2, zs, hj, rfl, rfl, hr2, HRK, HZ, st'⟩ := hrel
        clear st hc
        have st := st'
        clear st'
        obtain ⟨oa2, oc2, rfl⟩ := own_slice (st.row (i := 1) get1)
        by_cases hjn2 : j < an
        · obtain ⟨b, off, ha, hcell⟩ := Fl.ack (a := aa) (n := an) (xs := ks) (HP.out.ext st.ext0).2.2.1 (by omega)
          have hjl : j < ks.length := by have := HN2.out; omega
          have hsn : (ks.take (j + 1)).map (fun g => g.f) = (ks.take j).map (fun g => g.f) ++ [ks[j].f] := by rw [← List.take_append_getElem hjl, List.map_append]; rfl
          have hgt := List.getElem?_eq_getElem hjl
          generalize ks[j] = x at *
          obtain ⟨qr, fx, ca, cn, cc, cs⟩ := x
          simp only at hsn
          have HZ2 : Hid (zs ++ [fx] = xs ++ (ks.take (j + 1)).map (fun a => a.f)) := Lib.hid (by rw [hsn, HZ.out, List.append_assoc])
          clear hsn hjl
          obtain ⟨op, k, ⟨o, d⟩, a', n', c', kids⟩ := fx
          obtain ⟨qo, qd⟩ := qr
          obtain ⟨r0, r1, s0, s1, s2, s3, s4, s5⟩ := hcell j (qo, qd) op k (o, d) a' n' c' kids ca cn cc cs hgt
          clear hcell hgt
          subst ha
          unfold S at r0 r1 s2 s3
          simp only at r0 r1 s2 s3
          (try simp only [nsl, Value.cells, unB] at st)
          (try clear hc); have hc := st.facts; (try simp only [nfl, nft, Nat.reduceAdd] at hc)
          go_wp2_with (first
              | ((with_reducible refine wl_append ?_ (fun K hK => ?_)); (rfl); (obtain ⟨inf, hinf, hz0, hz1, hz2⟩ := fmInfo); (refine owp_append rfl st 1 get1 Try.underlying24 hinf hz0 hz1 hz2 rfl (by decide) rfl rfl ((st.blk (i := 3) get3).flat rfl) (by first | exact cellsL_all _ | simp [Value.oneCell']) (by simp only [maxLen]; omega) (by omega) ?_); (clear hinf hz0 hz1 hz2 inf); (clear st; intro v' w st); (obtain ⟨va', vc', rfl⟩ := own_slice (st.row (i := 1) get1)); (try simp only [nsl, Value.cells, unB] at st); (try simp only [Nat.zero_add] at st); (try clear hc); have hc := st.facts; (try simp only [nfl, nft, Nat.reduceAdd] at hc))
              | ((first
                | ((with_reducible refine wl_box ?_ (fun K hK => ?_)); rfl; refine owp_box (o := ⟨some 2, _, _, _, _, _⟩) rfl st ?_; apply Exists.intro; refine ⟨?_, ?_⟩; (focus (go_simp; try rfl)); (clear st; intro b2 w hb st; clear hb))
                | ((with_reducible refine wl_buildSlice ?_ (fun K hK => ?_)); rfl; refine owp_buildSlice (o := ⟨some 13, _, _, _, _, _⟩) rfl st ?_; apply Exists.intro; apply Exists.intro; apply Exists.intro; apply Exists.intro; refine ⟨?_, ?_⟩; (focus (go_simp; (first | done | exact ⟨⟨rfl, rfl⟩, rfl⟩ | rfl))); (clear st; intro b13 w hb st; clear hb))
                | ((with_reducible refine wl_alloc ?_ (fun K hK => ?_)); rfl; refine owp_alloc (o := ⟨some 7, _, _, _, _, _⟩) rfl st ?_; apply Exists.intro; apply Exists.intro; refine ⟨?_, ?_⟩; (focus (first | (go_simp; done) | (go_simp; rfl))); (clear st; intro b7 w hb st; clear hb))
                | ((with_reducible refine wl_store ?_ (fun K hK => ?_)); rfl; refine owp_store rfl st ?_; apply Exists.intro; apply Exists.intro; refine ⟨?_, ?_, ?_⟩; (focus (go_simp; try rfl)); (focus (go_simp; try rfl)); (first | (with_reducible refine ⟨0, _, _, _, _, get0, rfl, rfl, ?_, ?_, ?_, ?_⟩) | (with_reducible refine ⟨1, _, _, _, _, get1, rfl, rfl, ?_, ?_, ?_, ?_⟩) | (with_reducible refine ⟨2, _, _, _, _, get2, rfl, rfl, ?_, ?_, ?_, ?_⟩) | (with_reducible refine ⟨3, _, _, _, _, get3, rfl, rfl, ?_, ?_, ?_, ?_⟩) | (with_reducible refine ⟨4, _, _, _, _, get4, rfl, rfl, ?_, ?_, ?_, ?_⟩) | (with_reducible refine ⟨5, _, _, _, _, get5, rfl, rfl, ?_, ?_, ?_, ?_⟩)); (kernel_rfl); (simp [Value.cells]); (rfl); (clear st; intro w st))
                | ((with_reducible refine wl_buildSlice ?_ (fun K hK => ?_)); rfl; refine owp_buildSlice (o := ⟨some 26, _, _, _, _, _⟩) rfl st ?_; apply Exists.intro; apply Exists.intro; apply Exists.intro; apply Exists.intro; refine ⟨?_, ?_⟩; (focus (go_simp; (first | done | exact ⟨⟨rfl, rfl⟩, rfl⟩ | rfl))); (clear st; intro b26 w hb st; clear hb))
                | ((with_reducible refine wl_alloc ?_ (fun K hK => ?_)); rfl; refine owp_alloc (o := ⟨some 9, _, _, _, _, _⟩) rfl st ?_; apply Exists.intro; apply Exists.intro; refine ⟨?_, ?_⟩; (focus (first | (go_simp; done) | (go_simp; rfl))); (clear st; intro b9 w hb st; clear hb))
                | ((with_reducible refine wl_buildSlice ?_ (fun K hK => ?_)); rfl; refine owp_buildSlice (o := ⟨some 39, _, _, _, _, _⟩) rfl st ?_; apply Exists.intro; apply Exists.intro; apply Exists.intro; apply Exists.intro; refine ⟨?_, ?_⟩; (focus (go_simp; (first | done | exact ⟨⟨rfl, rfl⟩, rfl⟩ | rfl))); (clear st; intro b39 w hb st; clear hb))
                | ((with_reducible refine wl_alloc ?_ (fun K hK => ?_)); rfl; refine owp_alloc (o := ⟨some 12, _, _, _, _, _⟩) rfl st ?_; apply Exists.intro; apply Exists.intro; refine ⟨?_, ?_⟩; (focus (first | (go_simp; done) | (go_simp; rfl))); (clear st; intro b12 w hb st; clear hb))); (try simp only [nsl, Value.cells, unB] at st); (try clear hc); have hc := st.facts; (try simp only [nfl, nft, Nat.reduceAdd] at hc)))
          have st' := st.keep [0, 1] (by decide) (by simp)
          go_roundg (an - (j + 1))
          case measure => omega
          case rel => exact ⟨j + 1, r2 + 1, _, by omega, by omega, by go_num, by omega, Lib.hid (by rw [HRK.out]; omega), HZ2, by rw [cellsL_append, cellsL_one']; simpa [pick, Flt.cells, fmC, S] using st'⟩
        · obtain rfl : an = j := by omega
          have HE2 : Hid (zs = fl ++ gs.map (fun g => g.f) ++ ks.map (fun a => a.f)) := Lib.hid (by rw [HZ.out, HE1.out, List.take_of_length_le (by have := HN2.out; omega)])
          clear HZ HE1
          rw [HE2.out] at st
          generalize fl ++ gs.map (fun g => g.f) ++ ks.map (fun a => a.f) = ll at *
          have HLL : Hid (ll.length = r2) := Lib.hid (by rw [HLE.out, HRK.out, HRJ.out])
          have hr2b : r2 ≤ 300000 := by omega
          clear hr hr2 HE2
          replace st := st.row_nil 23 2
          simp only [List.cons_append, List.nil_append] at st
          (try simp only [nsl, Value.cells, unB] at st)
          (try clear hc); have hc := st.facts; (try simp only [nfl, nft, Nat.reduceAdd] at hc)
          go_wp2_with fail
          go_loopg [10, 44] r2 (fun q ov i wr => ∃ (j r3 : Nat) (us : List Role), j ≤ r2 ∧ q = r2 - j ∧ i = .int .i64 (j : Int) ∧ r3 ≤ 100000 ∧ Hid (us = setsL ((ll.take j).map Fm.strip)) ∧ Hid (r3 = us.length) ∧ Own (fun _ => False) (fun _ => False) W [blkI b2 [.string ⟨nm.toArray⟩, .slice ga gn gc, .slice aa an ac], rowI 26 5 (.slice oa2 r2 oc2) r2 (cellsL ll), rowI 23 2 ov r3 (cellsL us)] wr)
          case atStart => exact ⟨0, 0, [], by omega, by omega, rfl, by omega, Lib.hid (by simp [setsL]), Lib.hid rfl, by simpa [cellsL] using st⟩
          case round =>
            obtain ⟨j, r3', us, hj, rfl, rfl, hr3, HU, HR3, st'⟩ := hrel
            clear st hc
            have st := st'
            clear st'
            obtain ⟨oa3, oc3, rfl⟩ := own_slice (st.row (i := 2) get2)
            by_cases hjn3 : j < r2
            · obtain ⟨b, off, ha, hcell⟩ := Fl.fm (rowFl' (α := Fm) st (i := 1) get1).2 (by omega)
              have hjl : j < ll.length := by have := HLL.out; omega
              have hsn := map_snoc_strip ll j hjl
              have hgt := List.getElem?_eq_getElem hjl
              have hok := HAL.out _ (List.getElem_mem hjl)
              have hle := setsL_take_le Fm.strip ll (j + 1)
              have hnd := nodesL_mem (ll.map Fm.strip) (ll[j].strip) (List.mem_map.2 ⟨_, List.getElem_mem hjl, rfl⟩)
              have hnn := HSZ.out
              rw [hsn, setsL_snoc, List.length_append, ← HU.out, ← HR3.out] at hle
              generalize ll[j] = fx at *
              have HC := Lib.hid (fun W' (hx : Ext W W') => refAtoms_f fx W' (hok.1.ext hx) (by omega) hok.2)
              have HU2 : Hid (us ++ roleSet fx.strip.atoms = setsL ((ll.take (j + 1)).map Fm.strip)) := Lib.hid (by rw [hsn, setsL_snoc, HU.out])
              obtain ⟨ys, hys⟩ : ∃ y, roleSet fx.strip.atoms = y := ⟨_, rfl⟩
              rw [hys] at HC HU2 hle
              obtain ⟨m, hm⟩ : ∃ m, ys.length = m := ⟨_, rfl⟩
              rw [hm] at HC hle
              have HM := Lib.hid hm
              have hrm : r3' + m ≤ 100000 := by omega
              clear hsn hok hle hnd hnn hys hm hjl
              obtain ⟨op, k, ⟨o, d⟩, a', n', c', kids⟩ := fx
              obtain ⟨s0, s1, s2, s3, s4⟩ := hcell j op k (o, d) a' n' c' kids hgt
              clear hcell hgt
              subst ha
              unfold fmV S at HC
              unfold S at s2 s3
              simp only at HC s2 s3
              (try simp only [nsl, Value.cells, unB] at st)
              (try clear hc); have hc := st.facts; (try simp only [nfl, nft, Nat.reduceAdd] at hc)
              go_wp2_with ((first
                    | ((with_reducible refine wl_box ?_ (fun K hK => ?_)); rfl; refine owp_box (o := ⟨some 2, _, _, _, _, _⟩) rfl st ?_; apply Exists.intro; refine ⟨?_, ?_⟩; (focus (go_simp; try rfl)); (clear st; intro b2 w hb st; clear hb))
                    | ((with_reducible refine wl_buildSlice ?_ (fun K hK => ?_)); rfl; refine owp_buildSlice (o := ⟨some 13, _, _, _, _, _⟩) rfl st ?_; apply Exists.intro; apply Exists.intro; apply Exists.intro; apply Exists.intro; refine ⟨?_, ?_⟩; (focus (go_simp; (first | done | exact ⟨⟨rfl, rfl⟩, rfl⟩ | rfl))); (clear st; intro b13 w hb st; clear hb))
                    | ((with_reducible refine wl_alloc ?_ (fun K hK => ?_)); rfl; refine owp_alloc (o := ⟨some 7, _, _, _, _, _⟩) rfl st ?_; apply Exists.intro; apply Exists.intro; refine ⟨?_, ?_⟩; (focus (first | (go_simp; done) | (go_simp; rfl))); (clear st; intro b7 w hb st; clear hb))
                    | ((with_reducible refine wl_store ?_ (fun K hK => ?_)); rfl; refine owp_store rfl st ?_; apply Exists.intro; apply Exists.intro; refine ⟨?_, ?_, ?_⟩; (focus (go_simp; try rfl)); (focus (go_simp; try rfl)); (first | (with_reducible refine ⟨0, _, _, _, _, get0, rfl, rfl, ?_, ?_, ?_, ?_⟩) | (with_reducible refine ⟨1, _, _, _, _, get1, rfl, rfl, ?_, ?_, ?_, ?_⟩) | (with_reducible refine ⟨2, _, _, _, _, get2, rfl, rfl, ?_, ?_, ?_, ?_⟩) | (with_reducible refine ⟨3, _, _, _, _, get3, rfl, rfl, ?_, ?_, ?_, ?_⟩) | (with_reducible refine ⟨4, _, _, _, _, get4, rfl, rfl, ?_, ?_, ?_, ?_⟩) | (with_reducible refine ⟨5, _, _, _, _, get5, rfl, rfl, ?_, ?_, ?_, ?_⟩)); (kernel_rfl); (simp [Value.cells]); (rfl); (clear st; intro w st))
                    | ((with_reducible refine wl_buildSlice ?_ (fun K hK => ?_)); rfl; refine owp_buildSlice (o := ⟨some 26, _, _, _, _, _⟩) rfl st ?_; apply Exists.intro; apply Exists.intro; apply Exists.intro; apply Exists.intro; refine ⟨?_, ?_⟩; (focus (go_simp; (first | done | exact ⟨⟨rfl, rfl⟩, rfl⟩ | rfl))); (clear st; intro b26 w hb st; clear hb))
                    | ((with_reducible refine wl_alloc ?_ (fun K hK => ?_)); rfl; refine owp_alloc (o := ⟨some 9, _, _, _, _, _⟩) rfl st ?_; apply Exists.intro; apply Exists.intro; refine ⟨?_, ?_⟩; (focus (first | (go_simp; done) | (go_simp; rfl))); (clear st; intro b9 w hb st; clear hb))
                    | ((with_reducible refine wl_buildSlice ?_ (fun K hK => ?_)); rfl; refine owp_buildSlice (o := ⟨some 39, _, _, _, _, _⟩) rfl st ?_; apply Exists.intro; apply Exists.intro; apply Exists.intro; apply Exists.intro; refine ⟨?_, ?_⟩; (focus (go_simp; (first | done | exact ⟨⟨rfl, rfl⟩, rfl⟩ | rfl))); (clear st; intro b39 w hb st; clear hb))
                    | ((with_reducible refine wl_alloc ?_ (fun K hK => ?_)); rfl; refine owp_alloc (o := ⟨some 12, _, _, _, _, _⟩) rfl st ?_; apply Exists.intro; apply Exists.intro; refine ⟨?_, ?_⟩; (focus (first | (go_simp; done) | (go_simp; rfl))); (clear st; intro b12 w hb st; clear hb))); (try simp only [nsl, Value.cells, unB] at st); (try clear hc); have hc := st.facts; (try simp only [nfl, nft, Nat.reduceAdd] at hc))
              clear s0 s1 s2 s3 s4
              refine (HC.out _ st.ext0).mono ?_
              rintro en w ⟨ra, rc, rfl, h2⟩
              replace st := st.join h2
              clear h2
              simp only [List.cons_append, List.nil_append] at st
              (try simp only [nsl, Value.cells, unB] at st)
              (try clear hc); have hc := st.facts; (try simp only [nfl, nft, Nat.reduceAdd] at hc)
              go_wp2_with (first
                  | ((with_reducible refine wl_append ?_ (fun K hK => ?_)); (rfl); (obtain ⟨inf, hinf, hz0, hz1, hz2⟩ := roleInfo); (refine owp_append rfl st 2 get2 Try.underlying37 hinf hz0 hz1 hz2 rfl (by decide) rfl rfl ((rowFl' (α := Role) st (i := 4) get4).2.flat) (by first | exact cellsL_all _ | simp [Value.oneCell']) (by simp only [maxLen]; omega) (by omega) ?_); (clear hinf hz0 hz1 hz2 inf); (clear st; intro v' w st); (obtain ⟨va', vc', rfl⟩ := own_slice (st.row (i := 2) get2)); (try simp only [nsl, Value.cells, unB] at st); (try simp only [Nat.zero_add] at st); (try clear hc); have hc := st.facts; (try simp only [nfl, nft, Nat.reduceAdd] at hc))
                  | ((first
                    | ((with_reducible refine wl_box ?_ (fun K hK => ?_)); rfl; refine owp_box (o := ⟨some 2, _, _, _, _, _⟩) rfl st ?_; apply Exists.intro; refine ⟨?_, ?_⟩; (focus (go_simp; try rfl)); (clear st; intro b2 w hb st; clear hb))
                    | ((with_reducible refine wl_buildSlice ?_ (fun K hK => ?_)); rfl; refine owp_buildSlice (o := ⟨some 13, _, _, _, _, _⟩) rfl st ?_; apply Exists.intro; apply Exists.intro; apply Exists.intro; apply Exists.intro; refine ⟨?_, ?_⟩; (focus (go_simp; (first | done | exact ⟨⟨rfl, rfl⟩, rfl⟩ | rfl))); (clear st; intro b13 w hb st; clear hb))
                    | ((with_reducible refine wl_alloc ?_ (fun K hK => ?_)); rfl; refine owp_alloc (o := ⟨some 7, _, _, _, _, _⟩) rfl st ?_; apply Exists.intro; apply Exists.intro; refine ⟨?_, ?_⟩; (focus (first | (go_simp; done) | (go_simp; rfl))); (clear st; intro b7 w hb st; clear hb))
                    | ((with_reducible refine wl_store ?_ (fun K hK => ?_)); rfl; refine owp_store rfl st ?_; apply Exists.intro; apply Exists.intro; refine ⟨?_, ?_, ?_⟩; (focus (go_simp; try rfl)); (focus (go_simp; try rfl)); (first | (with_reducible refine ⟨0, _, _, _, _, get0, rfl, rfl, ?_, ?_, ?_, ?_⟩) | (with_reducible refine ⟨1, _, _, _, _, get1, rfl, rfl, ?_, ?_, ?_, ?_⟩) | (with_reducible refine ⟨2, _, _, _, _, get2, rfl, rfl, ?_, ?_, ?_, ?_⟩) | (with_reducible refine ⟨3, _, _, _, _, get3, rfl, rfl, ?_, ?_, ?_, ?_⟩) | (with_reducible refine ⟨4, _, _, _, _, get4, rfl, rfl, ?_, ?_, ?_, ?_⟩) | (with_reducible refine ⟨5, _, _, _, _, get5, rfl, rfl, ?_, ?_, ?_, ?_⟩)); (kernel_rfl); (simp [Value.cells]); (rfl); (clear st; intro w st))
                    | ((with_reducible refine wl_buildSlice ?_ (fun K hK => ?_)); rfl; refine owp_buildSlice (o := ⟨some 26, _, _, _, _, _⟩) rfl st ?_; apply Exists.intro; apply Exists.intro; apply Exists.intro; apply Exists.intro; refine ⟨?_, ?_⟩; (focus (go_simp; (first | done | exact ⟨⟨rfl, rfl⟩, rfl⟩ | rfl))); (clear st; intro b26 w hb st; clear hb))
                    | ((with_reducible refine wl_alloc ?_ (fun K hK => ?_)); rfl; refine owp_alloc (o := ⟨some 9, _, _, _, _, _⟩) rfl st ?_; apply Exists.intro; apply Exists.intro; refine ⟨?_, ?_⟩; (focus (first | (go_simp; done) | (go_simp; rfl))); (clear st; intro b9 w hb st; clear hb))
                    | ((with_reducible refine wl_buildSlice ?_ (fun K hK => ?_)); rfl; refine owp_buildSlice (o := ⟨some 39, _, _, _, _, _⟩) rfl st ?_; apply Exists.intro; apply Exists.intro; apply Exists.intro; apply Exists.intro; refine ⟨?_, ?_⟩; (focus (go_simp; (first | done | exact ⟨⟨rfl, rfl⟩, rfl⟩ | rfl))); (clear st; intro b39 w hb st; clear hb))
                    | ((with_reducible refine wl_alloc ?_ (fun K hK => ?_)); rfl; refine owp_alloc (o := ⟨some 12, _, _, _, _, _⟩) rfl st ?_; apply Exists.intro; apply Exists.intro; refine ⟨?_, ?_⟩; (focus (first | (go_simp; done) | (go_simp; rfl))); (clear st; intro b12 w hb st; clear hb))); (try simp only [nsl, Value.cells, unB] at st); (try clear hc); have hc := st.facts; (try simp only [nfl, nft, Nat.reduceAdd] at hc)))
              have st' := st.keep [0, 1, 2] (by decide) (by simp)
              have HR4 : Hid (r3' + m = (us ++ ys).length) := Lib.hid (by rw [List.length_append, HR3.out, HM.out])
              go_roundg (r2 - (j + 1))
              case measure => omega
              case rel => exact ⟨j + 1, r3' + m, us ++ ys, by omega, by omega, by go_num, hrm, HU2, HR4, by rw [cellsL_append]; simpa [pick] using st'⟩
            · obtain rfl : r2 = j := by omega
              have HE3 : Hid (us = setsL (ll.map Fm.strip)) := Lib.hid (by rw [HU.out, List.take_of_length_le (by have := HLL.out; omega)])
              have HST := Lib.hid (fun a n c W (h : Fl W a n us) (hn : n ≤ 2000000) => refRoleSet_c a n c us W h hn (by rw [HE3.out]; exact fun x hx => by have := HRL.out x hx; omega))
              rw [HE3.out, HRS.out, HLN.out] at HST
              clear HLN
              have hfl2 := (rowFl' (α := Role) st (i := 2) get2).2
              rw [HE3.out] at hfl2
              have HFL2 := Lib.hid hfl2
              clear hfl2
              (try simp only [nsl, Value.cells, unB] at st)
              (try clear hc); have hc := st.facts; (try simp only [nfl, nft, Nat.reduceAdd] at hc)
              go_wp2_with fail
              refine (HST.out _ _ _ _ HFL2.out (by omega)).mono ?_
              rintro en w ⟨va, vc, rfl, hfr⟩
              replace st := st.ext hfr.ext
              have hans := (FreshI.fl (α := Role) hfr).2
              have HANS := Lib.hid hans
              clear hfr HFL2 hans
              (try simp only [nsl, Value.cells, unB] at st)
              (try clear hc); have hc := st.facts; (try simp only [nfl, nft, Nat.reduceAdd] at hc)
              go_wp2_with fail
              go_ret
              exact ⟨_, _, rfl, HANS.out, st.ext0⟩
end Go.Proofs.Ythjaopojlhdjpaa

namespace Go.Proofs.Ythjaopojlhdjpaa
set_option linter.unusedSimpArgs false
set_option linter.unusedVariables false
open Go Go.RowKit
set_option maxRecDepth 100000 in
set_option maxHeartbeats 4000000 in
theorem refCapsTurns_any (p q : PaT) (f : Fm) (W : World) (hp : PaOk W p) (hq : PaOk W q) (hf : FmOk W f) (hsp : FsL (paF p ++ [f.strip])) (hsq : FsL (paF q)) :
    Calls Try.prog 30 #[paV p, paV q, fmV f] W fun e w' => e = .returned (.int .i64 (turnsN p q f.strip : Int)) ∧ Ext W w' := by
  have HA1 := Lib.hid (fun (b : Nat) W' (hx : Ext W W') (h : Fl W' (some ⟨b, 0, none⟩) 1 [f]) => refCapsAtoms_f p (some ⟨b, 0, none⟩) 1 1 [f] W' (hp.ext hx) h (fun x hx' => by rw [List.mem_singleton.1 hx']; exact hf.ext hx) hsp)
  have HA2 := Lib.hid (fun W' (hx : Ext W W') => refCapsAtoms_f q none 0 0 [] W' (hq.ext hx) (Fl.nil _ _) (by simp) (by simpa using hsq))
  simp only [List.map_cons, List.map_nil, List.append_nil] at HA1 HA2
  have h1 := setsL_set_len (paF p ++ [f.strip])
  have h2 := setsL_set_len (paF q)
  have h3 := hsp.1
  have h4 := hsq.1
  have hg1 := paN_gn hp hsp.sub.1.1
  have hg2 := paN_gn hq h4
  have HV : Hid (turnsN p q f.strip = 4 + 2 * (p.gn + q.gn + ((roleSet (setsL (paF p ++ [f.strip]))).length + (roleSet (setsL (paF q))).length))) := Lib.hid rfl
  generalize roleSet (setsL (paF p ++ [f.strip])) = s1 at *
  generalize roleSet (setsL (paF q)) = s2 at *
  obtain ⟨m1, hm1⟩ : ∃ m, s1.length = m := ⟨_, rfl⟩
  obtain ⟨m2, hm2⟩ : ∃ m, s2.length = m := ⟨_, rfl⟩
  obtain ⟨v, hv⟩ : ∃ v, turnsN p q f.strip = v := ⟨_, rfl⟩
  rw [hm1] at HA1 HV h1
  rw [hm2] at HA2 HV h2
  rw [hv] at HV ⊢
  have hm1b : m1 ≤ 100000 := by omega
  have hm2b : m2 ≤ 100000 := by omega
  obtain ⟨fx, hfx⟩ : ∃ g, f = g := ⟨_, rfl⟩
  clear hm1 hm2 hv h1 h2 h3 h4 hp hq hf hsp hsq
  obtain ⟨nm, ga, gn, gc, gs, aa, an, ac, ks⟩ := p
  obtain ⟨nm2, ga2, gn2, gc2, gs2, aa2, an2, ac2, ks2⟩ := q
  obtain ⟨op, k, ⟨o, d⟩, fa, fn, fc, kids⟩ := f
  unfold paV at HA1 HA2 ⊢
  simp only at HA1 HA2 HV hg1 hg2 ⊢
  have HC : Hid ([Value.int .i64 op, .int .i64 k, .string ⟨o.toArray⟩, .string ⟨d.toArray⟩, .slice fa fn fc] = cellsL [Fm.mk op k (o, d) fa fn fc kids]) := Lib.hid rfl
  have HFV : Hid (fmV (.mk op k (o, d) fa fn fc kids) = .agg #[.int .i64 op, .int .i64 k, .string ⟨o.toArray⟩, .string ⟨d.toArray⟩, .slice fa fn fc]) := Lib.hid rfl
  rw [HFV.out]
  rw [hfx] at HC HA1
  clear hfx
  have z1 : IntKind.i64.wrap (2 * (gn : Int)) = 2 * (gn : Int) := IntWalk.i64_in _ ⟨by omega, by omega⟩
  have z2 : IntKind.i64.wrap (4 + 2 * (gn : Int)) = 4 + 2 * (gn : Int) := IntWalk.i64_in _ ⟨by omega, by omega⟩
  have z3 : IntKind.i64.wrap (2 * (gn2 : Int)) = 2 * (gn2 : Int) := IntWalk.i64_in _ ⟨by omega, by omega⟩
  have z4 : IntKind.i64.wrap (4 + 2 * (gn : Int) + 2 * (gn2 : Int)) = 4 + 2 * (gn : Int) + 2 * (gn2 : Int) := IntWalk.i64_in _ ⟨by omega, by omega⟩
  have z5 : IntKind.i64.wrap (2 * (m1 : Int)) = 2 * (m1 : Int) := IntWalk.i64_in _ ⟨by omega, by omega⟩
  have z6 : IntKind.i64.wrap (4 + 2 * (gn : Int) + 2 * (gn2 : Int) + 2 * (m1 : Int)) = 4 + 2 * (gn : Int) + 2 * (gn2 : Int) + 2 * (m1 : Int) := IntWalk.i64_in _ ⟨by omega, by omega⟩
  have z7 : IntKind.i64.wrap (2 * (m2 : Int)) = 2 * (m2 : Int) := IntWalk.i64_in _ ⟨by omega, by omega⟩
  have z8 : IntKind.i64.wrap (4 + 2 * (gn : Int) + 2 * (gn2 : Int) + 2 * (m1 : Int) + 2 * (m2 : Int)) = (v : Int) := by rw [IntWalk.i64_in _ ⟨by omega, by omega⟩, HV.out]; omega
  have st := Own.startOld W
  (try simp only [nsl, Value.cells, unB] at st)
  (try clear hc); have hc := st.facts; (try simp only [nfl, nft, Nat.reduceAdd] at hc)
  go_enter Try.func30, Try.ntmps30
  go_wp2_with ((first
        | ((with_reducible refine wl_box ?_ (fun K hK => ?_)); rfl; refine owp_box (o := ⟨some 3, _, _, _, _, _⟩) rfl st ?_; apply Exists.intro; refine ⟨?_, ?_⟩; (focus (go_simp; try rfl)); (clear st; intro b3 w hb st; clear hb))
        | ((with_reducible refine wl_box ?_ (fun K hK => ?_)); rfl; refine owp_box (o := ⟨some 4, _, _, _, _, _⟩) rfl st ?_; apply Exists.intro; refine ⟨?_, ?_⟩; (focus (go_simp; try rfl)); (clear st; intro b4 w hb st; clear hb))
        | ((with_reducible refine wl_box ?_ (fun K hK => ?_)); rfl; refine owp_box (o := ⟨some 5, _, _, _, _, _⟩) rfl st ?_; apply Exists.intro; refine ⟨?_, ?_⟩; (focus (go_simp; try rfl)); (clear st; intro b5 w hb st; clear hb))
        | ((with_reducible refine wl_buildSlice ?_ (fun K hK => ?_)); rfl; refine owp_buildSlice (o := ⟨some 19, _, _, _, _, _⟩) rfl st ?_; apply Exists.intro; apply Exists.intro; apply Exists.intro; apply Exists.intro; refine ⟨?_, ?_⟩; (focus (go_simp; (first | done | exact ⟨⟨rfl, rfl⟩, rfl⟩ | rfl))); (clear st; intro b19 w hb st; clear hb))); (try simp only [nsl, Value.cells, unB] at st); (try clear hc); have hc := st.facts; (try simp only [nfl, nft, Nat.reduceAdd] at hc))
  refine Rg4.wp_region4 (Rel := Ext) #[0, 1, 3, 7, 15, 0, 32, 96, 224, 511, 0, 0, 2048, 7168, 15360, 31744, 65535, 0, 146432, 408576, 932864, 2097151, 4194303]
    [(12, ⟨fun v w => ∃ b, v = .slice (some ⟨b, 0, none⟩) 1 1 ∧ Blk w b [.int .i64 op, .int .i64 k, .string ⟨o.toArray⟩, .string ⟨d.toArray⟩, .slice fa fn fc] , fun _ _ _ hx ⟨b, h1, h2⟩ => ⟨b, h1, h2.ext hx⟩⟩), (13, ⟨fun v w => ∃ va vc, v = .slice va m1 vc , fun _ _ _ _ h => h⟩), (18, ⟨fun v w => ∃ va vc, v = .slice va m2 vc , fun _ _ _ _ h => h⟩)] [] [1, 6, 10, 11, 17] (fun _ => True) [0, 1, 2, 3, 4, 5, 6, 7, 8, 9, 10, 11, 12, 13, 14, 15, 16, 17, 18, 19, 20, 21, 22] (by kernel_rfl) (by kernel_rfl) (by kernel_rfl) (by kernel_rfl) Ext.refl (fun _ _ _ => Ext.trans) (show Rg4.PB _ by repeat (first | with_reducible exact Rg4.pb_body | with_reducible exact Rg4.pb_bodyD rfl | with_reducible refine Rg4.pb_then ?_ | with_reducible refine Rg4.pb_inBlock ?_ | with_reducible refine Rg4.pb_noGoto ?_)) (trivial) ?_
  replace st := st.drew
  change Rg4.wp4 _ _ _ _ _ _ _ _ _ (World.drew _) _ _
  generalize World.drew _ = w at st ⊢
  (try clear hc); have hc := st.facts; (try simp only [nfl, nft, Nat.reduceAdd] at hc)
  (refine Rg4.w4_any (Rg4.want_none rfl) rfl ?_; apply Exists.intro; refine ⟨fun w' => ?_, ?_⟩; (focus (first | (go_simp; done) | (go_simp; first | rfl | (rw [if_neg] <;> first | rfl | omega) | (rw [if_pos] <;> first | rfl | omega)))); (try simp only [Rg4.nrm]))
  (refine Rg4.w4_read (Rg4.want_none rfl) rfl rfl ?_; apply Exists.intro; refine ⟨fun w' hw' hcl' => ?_, ?_⟩; focus (have st' := st.ext hw'; have hc' := st'.facts; (try simp only [nfl, nft, Nat.reduceAdd] at hc'); (focus (first | (go_simp; done) | (go_simp; first | rfl | (rw [if_neg] <;> first | rfl | omega) | (rw [if_pos] <;> first | rfl | omega))))); (try simp only [Rg4.nrm]))
  iterate 4 (refine Rg4.w4_any (Rg4.want_none rfl) rfl ?_; apply Exists.intro; refine ⟨fun w' => ?_, ?_⟩; (focus (first | (go_simp; done) | (go_simp; first | rfl | (rw [if_neg] <;> first | rfl | omega) | (rw [if_pos] <;> first | rfl | omega)))); (try simp only [Rg4.nrm]))
  (refine Rg4.w4_read (Rg4.want_none rfl) rfl rfl ?_; apply Exists.intro; refine ⟨fun w' hw' hcl' => ?_, ?_⟩; focus (have st' := st.ext hw'; have hc' := st'.facts; (try simp only [nfl, nft, Nat.reduceAdd] at hc'); (focus (first | (go_simp; done) | (go_simp; first | rfl | (rw [if_neg] <;> first | rfl | omega) | (rw [if_pos] <;> first | rfl | omega))))); (try simp only [Rg4.nrm]))
  iterate 3 (refine Rg4.w4_any (Rg4.want_none rfl) rfl ?_; apply Exists.intro; refine ⟨fun w' => ?_, ?_⟩; (focus (first | (go_simp; done) | (go_simp; first | rfl | (rw [if_neg] <;> first | rfl | omega) | (rw [if_pos] <;> first | rfl | omega)))); (try simp only [Rg4.nrm]))
  iterate 2 (refine Rg4.w4_read (Rg4.want_none rfl) rfl rfl ?_; apply Exists.intro; refine ⟨fun w' hw' hcl' => ?_, ?_⟩; focus (have st' := st.ext hw'; have hc' := st'.facts; (try simp only [nfl, nft, Nat.reduceAdd] at hc'); (focus (first | (go_simp; done) | (go_simp; first | rfl | (rw [if_neg] <;> first | rfl | omega) | (rw [if_pos] <;> first | rfl | omega))))); (try simp only [Rg4.nrm]))
  refine Rg4.w4_some (Rg4.want_none rfl) rfl (fun w' hw' hcl' _ => ?_) ?_
  · refine Rg.relAt_value (v := .slice (some ⟨w'.heap.size, 0, none⟩) 1 1) (w' := w'.alloc (.cells #[.int .i64 op, .int .i64 k, .string ⟨o.toArray⟩, .string ⟨d.toArray⟩, .slice fa fn fc] 26)) ?_ ⟨Ext.new _ _, trivial, _, rfl, Blk.new _ _ _⟩
    go_simp
  rintro v ⟨_, _, _, b19, rfl, _⟩
  (try simp only [Rg4.nrm])

  refine Rg4.w4_some (Rg4.want_none rfl) rfl (fun w' hw' hcl' hP => ?_) ?_
  · refine Rg.relAt_call (by go_simp; exact ⟨rfl, rfl⟩) ?_
    have st' := st.ext hw'
    have hb19 : Blk w' b19 [.int .i64 op, .int .i64 k, .string ⟨o.toArray⟩, .string ⟨d.toArray⟩, .slice fa fn fc] := by
      obtain ⟨b, h1, h2⟩ := (hP 12 (by kernel_rfl)).2 rfl
      cases h1
      exact h2
    refine (HA1.out _ _ st'.ext0 (fl_lit hb19 [fx] HC.out)).mono ?_
    rintro en w'' ⟨va, vc, rfl, _, hx⟩
    exact ⟨_, rfl, hx, trivial, va, vc, rfl⟩
  rintro v ⟨_, _, _, va, vc, rfl⟩
  (try simp only [Rg4.nrm])
  iterate 3 (refine Rg4.w4_any (Rg4.want_none rfl) rfl ?_; apply Exists.intro; refine ⟨fun w' => ?_, ?_⟩; (focus (first | (go_simp; done) | (go_simp; first | rfl | (rw [if_neg] <;> first | rfl | omega) | (rw [if_pos] <;> first | rfl | omega)))); (try simp only [Rg4.nrm]))
  (refine Rg4.w4_read (Rg4.want_none rfl) rfl rfl ?_; apply Exists.intro; refine ⟨fun w' hw' hcl' => ?_, ?_⟩; focus (have st' := st.ext hw'; have hc' := st'.facts; (try simp only [nfl, nft, Nat.reduceAdd] at hc'); (focus (first | (go_simp; done) | (go_simp; first | rfl | (rw [if_neg] <;> first | rfl | omega) | (rw [if_pos] <;> first | rfl | omega))))); (try simp only [Rg4.nrm]))
  refine Rg4.w4_some (Rg4.want_none rfl) rfl (fun w' hw' hcl' _ => ?_) ?_
  · refine Rg.relAt_call (by go_simp; exact ⟨rfl, rfl⟩) ?_
    have st' := st.ext hw'
    refine (HA2.out _ st'.ext0).mono ?_
    rintro en w'' ⟨va, vc, rfl, _, hx⟩
    exact ⟨_, rfl, hx, trivial, va, vc, rfl⟩
  rintro v ⟨_, _, _, va2, vc2, rfl⟩
  (try simp only [Rg4.nrm])
  iterate 4 (refine Rg4.w4_any (Rg4.want_none rfl) rfl ?_; apply Exists.intro; refine ⟨fun w' => ?_, ?_⟩; (focus (first | (go_simp; done) | (go_simp; first | rfl | (rw [if_neg] <;> first | rfl | omega) | (rw [if_pos] <;> first | rfl | omega)))); (try simp only [Rg4.nrm]))
  refine Rg4.w4_nil (fun w' hw' hcl' _ => ?_); replace st := st.ext hw'; clear hw' hcl'; (try clear hc); have hc := st.facts; (try simp only [nfl, nft, Nat.reduceAdd] at hc)
  go_wp2_with fail
  go_ret
  exact ⟨by simp [z1, z2, z3, z4, z5, z6, z7, z8], st.ext0⟩
end Go.Proofs.Ythjaopojlhdjpaa

namespace Go.Proofs.Ythjaopojlhdjpaa
set_option linter.unusedSimpArgs false
set_option linter.unusedVariables false
open Go Go.RowKit
def gW (g : GuT) : Nat := wtSg g.s + 20 * g.f.strip.great
def aW (a : AckT) : Nat := a.r.1.length + a.r.2.length + 20 * a.f.strip.great + weightC a.cs
/-- How great a party is. -/
def paW (p : PaT) : Nat := p.nm.length + (p.gs.map gW).sum + (p.ks.map aW).sum
theorem sum_take {α : Type} (f : α → Nat) (l : List α) (j : Nat) (h : j < l.length) : ((l.take (j + 1)).map f).sum = ((l.take j).map f).sum + f l[j] := by
  rw [← List.take_append_getElem h, List.map_append, List.sum_append]; simp
theorem sum_take_le {α : Type} (f : α → Nat) : ∀ (l : List α) (j : Nat), ((l.take j).map f).sum ≤ (l.map f).sum
  | [], j => by simp
  | x :: l, 0 => by simp
  | x :: l, j + 1 => by have := sum_take_le f l j; rw [List.take_succ_cons, List.map_cons, List.map_cons, List.sum_cons, List.sum_cons]; omega
theorem gW_pos (g : GuT) : 20 ≤ gW g := by unfold gW wtSg wtC; omega
theorem aW_pos (a : AckT) : 20 ≤ aW a := by unfold aW; have := great_nodes a.f.strip; have := nodes_pos a.f.strip; omega
theorem sum_len {α : Type} (f : α → Nat) (h : ∀ x, 20 ≤ f x) : ∀ l : List α, 20 * l.length ≤ (l.map f).sum
  | [] => by simp
  | x :: l => by have := sum_len f h l; have := h x; rw [List.map_cons, List.sum_cons, List.length_cons]; omega
theorem sum_mem {α : Type} (f : α → Nat) : ∀ (l : List α) (x : α), x ∈ l → f x ≤ (l.map f).sum
  | [], x, h => by simp at h
  | y :: l, x, h => by
    rw [List.map_cons, List.sum_cons]
    rcases List.mem_cons.1 h with e | e
    · subst e; omega
    · have := sum_mem f l x e; omega
set_option maxRecDepth 100000 in
set_option maxHeartbeats 8000000 in
theorem paGreat_any (p : PaT) (W : World) (hp : PaOk W p) (hs : paW p ≤ 2000000000) :
    Calls Try.prog 25 #[paV p] W fun e w' => e = .returned (.int .i64 (paW p : Int)) ∧ Ext W w' := by
  have HP := Lib.hid hp
  have HN1 : Hid (p.gn = p.gs.length) := Lib.hid hp.1.2.1.1
  have HN2 : Hid (p.an = p.ks.length) := Lib.hid hp.2.2.1.1
  have hg1 : p.gn ≤ 2000000000 := by have := sum_len gW gW_pos p.gs; have := hp.1.2.1.1; unfold paW at hs; omega
  have hg2 : p.an ≤ 2000000000 := by have := sum_len aW aW_pos p.ks; have := hp.2.2.1.1; unfold paW at hs; omega
  have HV : Hid (paW p = p.nm.length + (p.gs.map gW).sum + (p.ks.map aW).sum) := Lib.hid rfl
  obtain ⟨v, hv⟩ : ∃ v, paW p = v := ⟨_, rfl⟩
  rw [hv] at HV hs ⊢
  clear hp hv
  obtain ⟨nm, ga, gn, gc, gs, aa, an, ac, ks⟩ := p
  simp only at HN1 HN2 hg1 hg2 HV
  have hszz : ∀ s : List UInt8, (⟨s.toArray⟩ : ByteArray).size = s.length := fun s => by simp [ByteArray.size]
  obtain ⟨l0, hl0⟩ : ∃ m, nm.length = m := ⟨_, rfl⟩
  have hsz0 : (⟨nm.toArray⟩ : ByteArray).size = l0 := by rw [hszz, hl0]
  have HSZ := Lib.hid hszz
  clear hszz
  rw [hl0] at HV
  have hl0b : l0 ≤ 2000000000 := by have := HV.out; omega
  clear hl0
  have st := Own.startOld W
  unfold paV
  simp only
  (try simp only [nsl, Value.cells, unB] at st)
  (try clear hc); have hc := st.facts; (try simp only [nfl, nft, Nat.reduceAdd] at hc)
  go_enter Try.func25, Try.ntmps25
  go_wp2_with ((first
        | ((with_reducible refine wl_box ?_ (fun K hK => ?_)); rfl; refine owp_box (o := ⟨some 1, _, _, _, _, _⟩) rfl st ?_; apply Exists.intro; refine ⟨?_, ?_⟩; (focus (go_simp; try rfl)); (clear st; intro b1 w hb st; clear hb))
        | ((with_reducible refine wl_alloc ?_ (fun K hK => ?_)); rfl; refine owp_alloc (o := ⟨some 5, _, _, _, _, _⟩) rfl st ?_; apply Exists.intro; apply Exists.intro; refine ⟨?_, ?_⟩; (focus (first | (go_simp; done) | (go_simp; rfl))); (clear st; intro b5 w hb st; clear hb))
        | ((with_reducible refine wl_store ?_ (fun K hK => ?_)); rfl; refine owp_store rfl st ?_; apply Exists.intro; apply Exists.intro; refine ⟨?_, ?_, ?_⟩; (focus (go_simp; try rfl)); (focus (go_simp; try rfl)); (first | (with_reducible refine ⟨0, _, _, _, _, get0, rfl, rfl, ?_, ?_, ?_, ?_⟩) | (with_reducible refine ⟨1, _, _, _, _, get1, rfl, rfl, ?_, ?_, ?_, ?_⟩) | (with_reducible refine ⟨2, _, _, _, _, get2, rfl, rfl, ?_, ?_, ?_, ?_⟩) | (with_reducible refine ⟨3, _, _, _, _, get3, rfl, rfl, ?_, ?_, ?_, ?_⟩) | (with_reducible refine ⟨4, _, _, _, _, get4, rfl, rfl, ?_, ?_, ?_, ?_⟩)); (kernel_rfl); (simp [Value.cells]); (rfl); (clear st; intro w st))
        | ((with_reducible refine wl_buildSlice ?_ (fun K hK => ?_)); rfl; refine owp_buildSlice (o := ⟨some 21, _, _, _, _, _⟩) rfl st ?_; apply Exists.intro; apply Exists.intro; apply Exists.intro; apply Exists.intro; refine ⟨?_, ?_⟩; (focus (go_simp; (first | done | exact ⟨⟨rfl, rfl⟩, rfl⟩ | rfl))); (clear st; intro b21 w hb st; clear hb))
        | ((with_reducible refine wl_buildSlice ?_ (fun K hK => ?_)); rfl; refine owp_buildSlice (o := ⟨some 25, _, _, _, _, _⟩) rfl st ?_; apply Exists.intro; apply Exists.intro; apply Exists.intro; apply Exists.intro; refine ⟨?_, ?_⟩; (focus (go_simp; (first | done | exact ⟨⟨rfl, rfl⟩, rfl⟩ | rfl))); (clear st; intro b25 w hb st; clear hb))
        | ((with_reducible refine wl_alloc ?_ (fun K hK => ?_)); rfl; refine owp_alloc (o := ⟨some 7, _, _, _, _, _⟩) rfl st ?_; apply Exists.intro; apply Exists.intro; refine ⟨?_, ?_⟩; (focus (first | (go_simp; done) | (go_simp; rfl))); (clear st; intro b7 w hb st; clear hb))
        | ((with_reducible refine wl_buildSlice ?_ (fun K hK => ?_)); rfl; refine owp_buildSlice (o := ⟨some 50, _, _, _, _, _⟩) rfl st ?_; apply Exists.intro; apply Exists.intro; apply Exists.intro; apply Exists.intro; refine ⟨?_, ?_⟩; (focus (go_simp; (first | done | exact ⟨⟨rfl, rfl⟩, rfl⟩ | rfl))); (clear st; intro b50 w hb st; clear hb))); (try simp only [nsl, Value.cells, unB] at st); (try clear hc); have hc := st.facts; (try simp only [nfl, nft, Nat.reduceAdd] at hc))
  go_loopg [3, 14] gn (fun q s i wr => ∃ (j g : Nat), j ≤ gn ∧ q = gn - j ∧ s = .int .i64 (g : Int) ∧ i = .int .i64 (j : Int) ∧ g ≤ 2000000000 ∧ Hid (g = l0 + ((gs.take j).map gW).sum) ∧ Own (fun _ => False) (fun _ => True) W [oldI W, blkI b1 [.string ⟨nm.toArray⟩, .slice ga gn gc, .slice aa an ac]] wr)
  case atStart => exact ⟨0, l0, by omega, by omega, rfl, rfl, by omega, Lib.hid (by simp), st⟩
  case round =>
    obtain ⟨j, g, hj, rfl, rfl, rfl, hg, HG, st'⟩ := hrel
    clear st hc
    have st := st'
    clear st'
    by_cases hjn : j < gn
    · obtain ⟨b, off, ha, hcell⟩ := Fl.gu (a := ga) (n := gn) (xs := gs) (HP.out.ext st.ext0).1.2.1 (by omega)
      have hjl : j < gs.length := by have := HN1.out; omega
      have hsn := sum_take gW gs j hjl
      have hle := sum_take_le gW gs (j + 1)
      rw [hsn] at hle
      have hvv := HV.out
      have hok := HP.out.1.2.2 _ (List.getElem_mem hjl)
      have hgt := List.getElem?_eq_getElem hjl
      generalize gs[j] = x at *
      obtain ⟨⟨cx, sa, sn, sm, sx⟩, fx⟩ := x
      have hgw : gW ⟨⟨cx, sa, sn, sm, sx⟩, fx⟩ = wtSg ⟨cx, sa, sn, sm, sx⟩ + 20 * fx.strip.great := rfl
      rw [hgw] at hsn hle
      have hgo := HG.out
      have HSG := Lib.hid (fun b W' (h : Fl W' (some ⟨b, 0, none⟩) 1 [(⟨cx, sa, sn, sm, sx⟩ : SgnT)]) => sgGreat_any (some ⟨b, 0, none⟩) 1 1 [⟨cx, sa, sn, sm, sx⟩] W' h (by simp [weightSg]; omega))
      rw [show weightSg [(⟨cx, sa, sn, sm, sx⟩ : SgnT)] = wtSg ⟨cx, sa, sn, sm, sx⟩ by simp [weightSg]] at HSG
      have HFG := Lib.hid (fun b W' (hx : Ext W W') (h : Fl W' (some ⟨b, 0, none⟩) 1 [fx]) => fmGreat_any [fx] (some ⟨b, 0, none⟩) 1 1 W' h (fun x hx' => by rw [List.mem_singleton.1 hx']; exact FmOk.ext hok.2 hx) (by simp [greatL]; omega))
      rw [show greatL ([fx].map Fm.strip) = fx.strip.great by simp [greatL]] at HFG
      obtain ⟨ws, hws⟩ : ∃ w, wtSg ⟨cx, sa, sn, sm, sx⟩ = w := ⟨_, rfl⟩
      obtain ⟨gr, hgr⟩ : ∃ w, fx.strip.great = w := ⟨_, rfl⟩
      rw [hws] at HSG hsn hle
      rw [hgr] at HFG hsn hle
      have HG2 : Hid (g + (ws + 20 * gr) = l0 + ((gs.take (j + 1)).map gW).sum) := Lib.hid (by rw [hsn, hgo]; omega)
      have hgb : g + (ws + 20 * gr) ≤ 2000000000 := by omega
      clear hsn hle hvv hok hgw hgo hws hgr hjl
      have z1 : IntKind.i64.wrap (20 * (gr : Int)) = 20 * (gr : Int) := IntWalk.i64_in _ ⟨by omega, by omega⟩
      have z2 : IntKind.i64.wrap ((ws : Int) + 20 * (gr : Int)) = (ws : Int) + 20 * (gr : Int) := IntWalk.i64_in _ ⟨by omega, by omega⟩
      have z3 : IntKind.i64.wrap ((g : Int) + ((ws : Int) + 20 * (gr : Int))) = ((g + (ws + 20 * gr) : Nat) : Int) := by rw [IntWalk.i64_in _ ⟨by omega, by omega⟩]; omega
      have HC1 : Hid (cellsL [(⟨cx, sa, sn, sm, sx⟩ : SgnT)] = [.int .i64 cx.k, .string ⟨cx.h.1.toArray⟩, .string ⟨cx.h.2.toArray⟩, .string ⟨cx.w.toArray⟩, .string ⟨cx.b.1.toArray⟩, .string ⟨cx.b.2.toArray⟩, .string ⟨cx.c.1.toArray⟩, .string ⟨cx.c.2.toArray⟩, .string ⟨cx.e.toArray⟩, .slice sa sn sm]) := Lib.hid rfl
      obtain ⟨ck, ⟨ho, hd⟩, nw, ⟨bo, bd⟩, ⟨co, cd⟩, we⟩ := cx
      obtain ⟨fy, hfy⟩ : ∃ g, fx = g := ⟨_, rfl⟩
      obtain ⟨op, k, ⟨o, d⟩, a', n', c', kids⟩ := fx
      have HC2 : Hid (cellsL [fy] = [.int .i64 op, .int .i64 k, .string ⟨o.toArray⟩, .string ⟨d.toArray⟩, .slice a' n' c']) := Lib.hid (by rw [← hfy]; rfl)
      obtain ⟨⟨r0, r1, r2, r3, r4, r5, r6, r7, r8, r9⟩, s0, s1, s2, s3, s4⟩ := hcell j _ sa sn sm sx op k (o, d) a' n' c' kids hgt
      clear hcell hgt
      rw [hfy] at HFG
      clear hfy
      subst ha
      unfold S at r1 r2 r3 r4 r5 r6 r7 r8 s2 s3
      simp only at r0 r1 r2 r3 r4 r5 r6 r7 r8 s2 s3
      simp only at HC1
      (try simp only [nsl, Value.cells, unB] at st)
      (try clear hc); have hc := st.facts; (try simp only [nfl, nft, Nat.reduceAdd] at hc)
      go_wp2_with ((first
            | ((with_reducible refine wl_box ?_ (fun K hK => ?_)); rfl; refine owp_box (o := ⟨some 1, _, _, _, _, _⟩) rfl st ?_; apply Exists.intro; refine ⟨?_, ?_⟩; (focus (go_simp; try rfl)); (clear st; intro b1 w hb st; clear hb))
            | ((with_reducible refine wl_alloc ?_ (fun K hK => ?_)); rfl; refine owp_alloc (o := ⟨some 5, _, _, _, _, _⟩) rfl st ?_; apply Exists.intro; apply Exists.intro; refine ⟨?_, ?_⟩; (focus (first | (go_simp; done) | (go_simp; rfl))); (clear st; intro b5 w hb st; clear hb))
            | ((with_reducible refine wl_store ?_ (fun K hK => ?_)); rfl; refine owp_store rfl st ?_; apply Exists.intro; apply Exists.intro; refine ⟨?_, ?_, ?_⟩; (focus (go_simp; try rfl)); (focus (go_simp; try rfl)); (first | (with_reducible refine ⟨0, _, _, _, _, get0, rfl, rfl, ?_, ?_, ?_, ?_⟩) | (with_reducible refine ⟨1, _, _, _, _, get1, rfl, rfl, ?_, ?_, ?_, ?_⟩) | (with_reducible refine ⟨2, _, _, _, _, get2, rfl, rfl, ?_, ?_, ?_, ?_⟩) | (with_reducible refine ⟨3, _, _, _, _, get3, rfl, rfl, ?_, ?_, ?_, ?_⟩) | (with_reducible refine ⟨4, _, _, _, _, get4, rfl, rfl, ?_, ?_, ?_, ?_⟩)); (kernel_rfl); (simp [Value.cells]); (rfl); (clear st; intro w st))
            | ((with_reducible refine wl_buildSlice ?_ (fun K hK => ?_)); rfl; refine owp_buildSlice (o := ⟨some 21, _, _, _, _, _⟩) rfl st ?_; apply Exists.intro; apply Exists.intro; apply Exists.intro; apply Exists.intro; refine ⟨?_, ?_⟩; (focus (go_simp; (first | done | exact ⟨⟨rfl, rfl⟩, rfl⟩ | rfl))); (clear st; intro b21 w hb st; clear hb))
            | ((with_reducible refine wl_buildSlice ?_ (fun K hK => ?_)); rfl; refine owp_buildSlice (o := ⟨some 25, _, _, _, _, _⟩) rfl st ?_; apply Exists.intro; apply Exists.intro; apply Exists.intro; apply Exists.intro; refine ⟨?_, ?_⟩; (focus (go_simp; (first | done | exact ⟨⟨rfl, rfl⟩, rfl⟩ | rfl))); (clear st; intro b25 w hb st; clear hb))
            | ((with_reducible refine wl_alloc ?_ (fun K hK => ?_)); rfl; refine owp_alloc (o := ⟨some 7, _, _, _, _, _⟩) rfl st ?_; apply Exists.intro; apply Exists.intro; refine ⟨?_, ?_⟩; (focus (first | (go_simp; done) | (go_simp; rfl))); (clear st; intro b7 w hb st; clear hb))
            | ((with_reducible refine wl_buildSlice ?_ (fun K hK => ?_)); rfl; refine owp_buildSlice (o := ⟨some 50, _, _, _, _, _⟩) rfl st ?_; apply Exists.intro; apply Exists.intro; apply Exists.intro; apply Exists.intro; refine ⟨?_, ?_⟩; (focus (go_simp; (first | done | exact ⟨⟨rfl, rfl⟩, rfl⟩ | rfl))); (clear st; intro b50 w hb st; clear hb))); (try simp only [nsl, Value.cells, unB] at st); (try clear hc); have hc := st.facts; (try simp only [nfl, nft, Nat.reduceAdd] at hc))
      clear r0 r1 r2 r3 r4 r5 r6 r7 r8 r9 s0 s1 s2 s3 s4
      refine Rg4.wp_region4 (Rel := Ext) #[0, 0, 2, 6, 14, 0, 32, 96, 254, 510, 1022, 2047, 4095]
        [(3, ⟨fun v w => ∃ b, v = .slice (some ⟨b, 0, none⟩) 1 1 ∧ Blk w b [.int .i64 ck, .string ⟨ho.toArray⟩, .string ⟨hd.toArray⟩, .string ⟨nw.toArray⟩, .string ⟨bo.toArray⟩, .string ⟨bd.toArray⟩, .string ⟨co.toArray⟩, .string ⟨cd.toArray⟩, .string ⟨we.toArray⟩, .slice sa sn sm] , fun _ _ _ hx ⟨b, h1, h2⟩ => ⟨b, h1, h2.ext hx⟩⟩), (4, .val (.int .i64 (ws : Int))), (7, ⟨fun v w => ∃ b, v = .slice (some ⟨b, 0, none⟩) 1 1 ∧ Blk w b [.int .i64 op, .int .i64 k, .string ⟨o.toArray⟩, .string ⟨d.toArray⟩, .slice a' n' c'] , fun _ _ _ hx ⟨b, h1, h2⟩ => ⟨b, h1, h2.ext hx⟩⟩), (8, .val (.int .i64 (gr : Int)))] [] [2, 6] (fun _ => True) [0, 1, 2, 3, 4, 5, 6, 7, 8, 9, 10, 11, 12] (by kernel_rfl) (by kernel_rfl) (by kernel_rfl) (by kernel_rfl) Ext.refl (fun _ _ _ => Ext.trans) (show Rg4.PB _ by repeat (first | with_reducible exact Rg4.pb_body | with_reducible exact Rg4.pb_bodyD rfl | with_reducible refine Rg4.pb_then ?_ | with_reducible refine Rg4.pb_inBlock ?_ | with_reducible refine Rg4.pb_noGoto ?_)) (trivial) ?_
      replace st := st.drew
      change Rg4.wp4 _ _ _ _ _ _ _ _ _ (World.drew _) _ _
      generalize World.drew _ = w at st ⊢
      (try clear hc); have hc := st.facts; (try simp only [nfl, nft, Nat.reduceAdd] at hc)
      iterate 2 (refine Rg4.w4_any (Rg4.want_none rfl) rfl ?_; apply Exists.intro; refine ⟨fun w' => ?_, ?_⟩; (focus (first | (go_simp; done) | (go_simp; first | rfl | (rw [if_neg] <;> first | rfl | omega) | (rw [if_pos] <;> first | rfl | omega)))); (try simp only [Rg4.nrm]))
      (refine Rg4.w4_read (Rg4.want_none rfl) rfl rfl ?_; apply Exists.intro; refine ⟨fun w' hw' hcl' => ?_, ?_⟩; focus (have st' := st.ext hw'; have hc' := st'.facts; (try simp only [nfl, nft, Nat.reduceAdd] at hc'); (focus (first | (go_simp; done) | (go_simp; first | rfl | (rw [if_neg] <;> first | rfl | omega) | (rw [if_pos] <;> first | rfl | omega))))); (try simp only [Rg4.nrm]))
      refine Rg4.w4_some (Rg4.want_none rfl) rfl (fun w' hw' hcl' _ => ?_) ?_
      · refine Rg.relAt_value (v := .slice (some ⟨w'.heap.size, 0, none⟩) 1 1) (w' := w'.alloc (.cells #[.int .i64 ck, .string ⟨ho.toArray⟩, .string ⟨hd.toArray⟩, .string ⟨nw.toArray⟩, .string ⟨bo.toArray⟩, .string ⟨bd.toArray⟩, .string ⟨co.toArray⟩, .string ⟨cd.toArray⟩, .string ⟨we.toArray⟩, .slice sa sn sm] 62)) ?_ ⟨Ext.new _ _, trivial, _, rfl, Blk.new _ _ _⟩
        go_simp
      rintro v ⟨_, _, _, b21, rfl, _⟩
      (try simp only [Rg4.nrm])

      refine Rg4.w4_some (Rg4.want_none rfl) rfl (fun w' hw' hcl' hP => ?_) ?_
      · refine Rg.relAt_call (by go_simp; exact ⟨rfl, rfl⟩) ?_
        have hb : Blk w' b21 [.int .i64 ck, .string ⟨ho.toArray⟩, .string ⟨hd.toArray⟩, .string ⟨nw.toArray⟩, .string ⟨bo.toArray⟩, .string ⟨bd.toArray⟩, .string ⟨co.toArray⟩, .string ⟨cd.toArray⟩, .string ⟨we.toArray⟩, .slice sa sn sm] := by
          obtain ⟨b, h1, h2⟩ := (hP 3 (by kernel_rfl)).2 rfl
          cases h1
          exact h2
        refine (HSG.out _ _ (fl_lit hb _ HC1.out.symm)).mono ?_
        rintro en w'' ⟨rfl, hx⟩
        exact ⟨_, rfl, hx, trivial, rfl⟩
      rintro v ⟨_, _, _, rfl⟩
      (try simp only [Rg4.nrm])
      (refine Rg4.w4_any (Rg4.want_none rfl) rfl ?_; apply Exists.intro; refine ⟨fun w' => ?_, ?_⟩; (focus (first | (go_simp; done) | (go_simp; first | rfl | (rw [if_neg] <;> first | rfl | omega) | (rw [if_pos] <;> first | rfl | omega)))); (try simp only [Rg4.nrm]))
      (refine Rg4.w4_read (Rg4.want_none rfl) rfl rfl ?_; apply Exists.intro; refine ⟨fun w' hw' hcl' => ?_, ?_⟩; focus (have st' := st.ext hw'; have hc' := st'.facts; (try simp only [nfl, nft, Nat.reduceAdd] at hc'); (focus (first | (go_simp; done) | (go_simp; first | rfl | (rw [if_neg] <;> first | rfl | omega) | (rw [if_pos] <;> first | rfl | omega))))); (try simp only [Rg4.nrm]))
      refine Rg4.w4_some (Rg4.want_none rfl) rfl (fun w' hw' hcl' _ => ?_) ?_
      · refine Rg.relAt_value (v := .slice (some ⟨w'.heap.size, 0, none⟩) 1 1) (w' := w'.alloc (.cells #[.int .i64 op, .int .i64 k, .string ⟨o.toArray⟩, .string ⟨d.toArray⟩, .slice a' n' c'] 26)) ?_ ⟨Ext.new _ _, trivial, _, rfl, Blk.new _ _ _⟩
        go_simp
      rintro v ⟨_, _, _, b25, rfl, _⟩
      (try simp only [Rg4.nrm])

      refine Rg4.w4_some (Rg4.want_none rfl) rfl (fun w' hw' hcl' hP => ?_) ?_
      · refine Rg.relAt_call (by go_simp; exact ⟨rfl, rfl⟩) ?_
        have st' := st.ext hw'
        have hb : Blk w' b25 [.int .i64 op, .int .i64 k, .string ⟨o.toArray⟩, .string ⟨d.toArray⟩, .slice a' n' c'] := by
          obtain ⟨b, h1, h2⟩ := (hP 7 (by kernel_rfl)).2 rfl
          cases h1
          exact h2
        refine (HFG.out _ _ st'.ext0 (fl_lit hb _ HC2.out.symm)).mono ?_
        rintro en w'' ⟨rfl, hx⟩
        exact ⟨_, rfl, hx, trivial, rfl⟩
      rintro v ⟨_, _, _, rfl⟩
      (try simp only [Rg4.nrm])
      iterate 4 (refine Rg4.w4_any (Rg4.want_none rfl) rfl ?_; apply Exists.intro; refine ⟨fun w' => ?_, ?_⟩; (focus (first | (go_simp; done) | (go_simp; first | rfl | (rw [if_neg] <;> first | rfl | omega) | (rw [if_pos] <;> first | rfl | omega)))); (try simp only [Rg4.nrm]))
      refine Rg4.w4_nil (fun w' hw' hcl' _ => ?_); replace st := st.ext hw'; clear hw' hcl'; (try clear hc); have hc := st.facts; (try simp only [nfl, nft, Nat.reduceAdd] at hc)
      go_wp2_with fail
      have st' := st.keep [0, 1] (by decide) (by simp)
      go_roundg (gn - (j + 1))
      case measure => omega
      case rel => exact ⟨j + 1, g + (ws + 20 * gr), by omega, by omega, by go_num, by go_num, hgb, HG2, by simpa [pick] using st'⟩
    · obtain rfl : gn = j := by omega
      have HG1 : Hid (g = l0 + (gs.map gW).sum) := Lib.hid (by rw [HG.out, List.take_of_length_le (by have := HN1.out; omega)])
      clear HG
      (try simp only [nsl, Value.cells, unB] at st)
      (try clear hc); have hc := st.facts; (try simp only [nfl, nft, Nat.reduceAdd] at hc)
      go_wp2_with fail
      go_loopg [3, 34] an (fun q s i wr => ∃ (j g2 : Nat), j ≤ an ∧ q = an - j ∧ s = .int .i64 (g2 : Int) ∧ i = .int .i64 (j : Int) ∧ g2 ≤ 2000000000 ∧ Hid (g2 = g + ((ks.take j).map aW).sum) ∧ Own (fun _ => False) (fun _ => True) W [oldI W, blkI b1 [.string ⟨nm.toArray⟩, .slice ga gn gc, .slice aa an ac]] wr)
      case atStart => exact ⟨0, g, by omega, by omega, rfl, rfl, by omega, Lib.hid (by simp), st⟩
      case round =>
        obtain ⟨j, g2, hj, rfl, rfl, rfl, hg2', HG, st'⟩ := hrel
        clear st hc
        have st := st'
        clear st'
        by_cases hjn : j < an
        · obtain ⟨b, off, ha, hcell⟩ := Fl.ack (a := aa) (n := an) (xs := ks) (HP.out.ext st.ext0).2.2.1 (by omega)
          have hjl : j < ks.length := by have := HN2.out; omega
          have hsn := sum_take aW ks j hjl
          have hle := sum_take_le aW ks (j + 1)
          rw [hsn] at hle
          have hvv := HV.out
          have hg1o := HG1.out
          have hok := HP.out.2.2.2 _ (List.getElem_mem hjl)
          have hgt := List.getElem?_eq_getElem hjl
          generalize ks[j] = x at *
          obtain ⟨⟨qo, qd⟩, fx, ca, cn, cc, cs⟩ := x
          have hgw : aW ⟨(qo, qd), fx, ca, cn, cc, cs⟩ = qo.length + qd.length + 20 * fx.strip.great + weightC cs := rfl
          rw [hgw] at hsn hle
          have hgo := HG.out
          have HCG := Lib.hid (fun W' (hx : Ext W W') => credGreat_any ca cn cc cs W' (Arr.ext hok.2.2 hx) (by omega))
          have HFG := Lib.hid (fun b W' (hx : Ext W W') (h : Fl W' (some ⟨b, 0, none⟩) 1 [fx]) => fmGreat_any [fx] (some ⟨b, 0, none⟩) 1 1 W' h (fun x hx' => by rw [List.mem_singleton.1 hx']; exact FmOk.ext hok.1 hx) (by simp [greatL]; omega))
          rw [show greatL ([fx].map Fm.strip) = fx.strip.great by simp [greatL]] at HFG
          obtain ⟨ws, hws⟩ : ∃ w, weightC cs = w := ⟨_, rfl⟩
          obtain ⟨gr, hgr⟩ : ∃ w, fx.strip.great = w := ⟨_, rfl⟩
          obtain ⟨lo, hlo⟩ : ∃ m, qo.length = m := ⟨_, rfl⟩
          obtain ⟨ld, hld⟩ : ∃ m, qd.length = m := ⟨_, rfl⟩
          have hsz1 : (⟨qo.toArray⟩ : ByteArray).size = lo := by rw [HSZ.out, hlo]
          have hsz2 : (⟨qd.toArray⟩ : ByteArray).size = ld := by rw [HSZ.out, hld]
          rw [hws] at HCG hsn hle
          rw [hgr] at HFG hsn hle
          rw [hlo, hld] at hsn hle
          have HG2 : Hid (g2 + (lo + ld + 20 * gr + ws) = g + ((ks.take (j + 1)).map aW).sum) := Lib.hid (by rw [hsn, hgo]; omega)
          have hgb : g2 + (lo + ld + 20 * gr + ws) ≤ 2000000000 := by omega
          clear hsn hle hvv hok hgw hgo hws hgr hjl hlo hld hg1o
          have z0 : IntKind.i64.wrap ((lo : Int) + (ld : Int)) = (lo : Int) + (ld : Int) := IntWalk.i64_in _ ⟨by omega, by omega⟩
          have z1 : IntKind.i64.wrap (20 * (gr : Int)) = 20 * (gr : Int) := IntWalk.i64_in _ ⟨by omega, by omega⟩
          have z2 : IntKind.i64.wrap ((lo : Int) + (ld : Int) + 20 * (gr : Int)) = (lo : Int) + (ld : Int) + 20 * (gr : Int) := IntWalk.i64_in _ ⟨by omega, by omega⟩
          have z4 : IntKind.i64.wrap ((lo : Int) + (ld : Int) + 20 * (gr : Int) + (ws : Int)) = (lo : Int) + (ld : Int) + 20 * (gr : Int) + (ws : Int) := IntWalk.i64_in _ ⟨by omega, by omega⟩
          have z3 : IntKind.i64.wrap ((g2 : Int) + ((lo : Int) + (ld : Int) + 20 * (gr : Int) + (ws : Int))) = ((g2 + (lo + ld + 20 * gr + ws) : Nat) : Int) := by rw [IntWalk.i64_in _ ⟨by omega, by omega⟩]; omega
          obtain ⟨fy, hfy⟩ : ∃ g, fx = g := ⟨_, rfl⟩
          obtain ⟨op, k, ⟨o, d⟩, a', n', c', kids⟩ := fx
          have HC2 : Hid (cellsL [fy] = [.int .i64 op, .int .i64 k, .string ⟨o.toArray⟩, .string ⟨d.toArray⟩, .slice a' n' c']) := Lib.hid (by rw [← hfy]; rfl)
          obtain ⟨r0, r1, s0, s1, s2, s3, s4, s5⟩ := hcell j (qo, qd) op k (o, d) a' n' c' kids ca cn cc cs hgt
          clear hcell hgt
          rw [hfy] at HFG
          clear hfy
          subst ha
          unfold S at r0 r1 s2 s3
          simp only at r0 r1 s2 s3
          (try simp only [nsl, Value.cells, unB] at st)
          (try clear hc); have hc := st.facts; (try simp only [nfl, nft, Nat.reduceAdd] at hc)
          go_wp2_with ((first
                | ((with_reducible refine wl_box ?_ (fun K hK => ?_)); rfl; refine owp_box (o := ⟨some 1, _, _, _, _, _⟩) rfl st ?_; apply Exists.intro; refine ⟨?_, ?_⟩; (focus (go_simp; try rfl)); (clear st; intro b1 w hb st; clear hb))
                | ((with_reducible refine wl_alloc ?_ (fun K hK => ?_)); rfl; refine owp_alloc (o := ⟨some 5, _, _, _, _, _⟩) rfl st ?_; apply Exists.intro; apply Exists.intro; refine ⟨?_, ?_⟩; (focus (first | (go_simp; done) | (go_simp; rfl))); (clear st; intro b5 w hb st; clear hb))
                | ((with_reducible refine wl_store ?_ (fun K hK => ?_)); rfl; refine owp_store rfl st ?_; apply Exists.intro; apply Exists.intro; refine ⟨?_, ?_, ?_⟩; (focus (go_simp; try rfl)); (focus (go_simp; try rfl)); (first | (with_reducible refine ⟨0, _, _, _, _, get0, rfl, rfl, ?_, ?_, ?_, ?_⟩) | (with_reducible refine ⟨1, _, _, _, _, get1, rfl, rfl, ?_, ?_, ?_, ?_⟩) | (with_reducible refine ⟨2, _, _, _, _, get2, rfl, rfl, ?_, ?_, ?_, ?_⟩) | (with_reducible refine ⟨3, _, _, _, _, get3, rfl, rfl, ?_, ?_, ?_, ?_⟩) | (with_reducible refine ⟨4, _, _, _, _, get4, rfl, rfl, ?_, ?_, ?_, ?_⟩)); (kernel_rfl); (simp [Value.cells]); (rfl); (clear st; intro w st))
                | ((with_reducible refine wl_buildSlice ?_ (fun K hK => ?_)); rfl; refine owp_buildSlice (o := ⟨some 21, _, _, _, _, _⟩) rfl st ?_; apply Exists.intro; apply Exists.intro; apply Exists.intro; apply Exists.intro; refine ⟨?_, ?_⟩; (focus (go_simp; (first | done | exact ⟨⟨rfl, rfl⟩, rfl⟩ | rfl))); (clear st; intro b21 w hb st; clear hb))
                | ((with_reducible refine wl_buildSlice ?_ (fun K hK => ?_)); rfl; refine owp_buildSlice (o := ⟨some 25, _, _, _, _, _⟩) rfl st ?_; apply Exists.intro; apply Exists.intro; apply Exists.intro; apply Exists.intro; refine ⟨?_, ?_⟩; (focus (go_simp; (first | done | exact ⟨⟨rfl, rfl⟩, rfl⟩ | rfl))); (clear st; intro b25 w hb st; clear hb))
                | ((with_reducible refine wl_alloc ?_ (fun K hK => ?_)); rfl; refine owp_alloc (o := ⟨some 7, _, _, _, _, _⟩) rfl st ?_; apply Exists.intro; apply Exists.intro; refine ⟨?_, ?_⟩; (focus (first | (go_simp; done) | (go_simp; rfl))); (clear st; intro b7 w hb st; clear hb))
                | ((with_reducible refine wl_buildSlice ?_ (fun K hK => ?_)); rfl; refine owp_buildSlice (o := ⟨some 50, _, _, _, _, _⟩) rfl st ?_; apply Exists.intro; apply Exists.intro; apply Exists.intro; apply Exists.intro; refine ⟨?_, ?_⟩; (focus (go_simp; (first | done | exact ⟨⟨rfl, rfl⟩, rfl⟩ | rfl))); (clear st; intro b50 w hb st; clear hb))); (try simp only [nsl, Value.cells, unB] at st); (try clear hc); have hc := st.facts; (try simp only [nfl, nft, Nat.reduceAdd] at hc))
          clear r0 r1 s0 s1 s2 s3 s4 s5
          refine Rg4.wp_region4 (Rel := Ext) #[0, 0, 2, 6, 14, 0, 32, 96, 224, 510, 0, 1024, 3072, 7168, 15360, 32766, 0, 65536, 211968, 524286, 1048575, 2097151]
            [(12, ⟨fun v w => ∃ b, v = .slice (some ⟨b, 0, none⟩) 1 1 ∧ Blk w b [.int .i64 op, .int .i64 k, .string ⟨o.toArray⟩, .string ⟨d.toArray⟩, .slice a' n' c'] , fun _ _ _ hx ⟨b, h1, h2⟩ => ⟨b, h1, h2.ext hx⟩⟩), (13, .val (.int .i64 (gr : Int))), (18, .val (.int .i64 (ws : Int)))] [] [3, 7, 11, 17] (fun _ => True) [0, 1, 2, 3, 4, 5, 6, 7, 8, 9, 10, 11, 12, 13, 14, 15, 16, 17, 18, 19, 20, 21] (by kernel_rfl) (by kernel_rfl) (by kernel_rfl) (by kernel_rfl) Ext.refl (fun _ _ _ => Ext.trans) (show Rg4.PB _ by repeat (first | with_reducible exact Rg4.pb_body | with_reducible exact Rg4.pb_bodyD rfl | with_reducible refine Rg4.pb_then ?_ | with_reducible refine Rg4.pb_inBlock ?_ | with_reducible refine Rg4.pb_noGoto ?_)) (trivial) ?_
          replace st := st.drew
          change Rg4.wp4 _ _ _ _ _ _ _ _ _ (World.drew _) _ _
          generalize World.drew _ = w at st ⊢
          (try clear hc); have hc := st.facts; (try simp only [nfl, nft, Nat.reduceAdd] at hc)
          iterate 3 (refine Rg4.w4_any (Rg4.want_none rfl) rfl ?_; apply Exists.intro; refine ⟨fun w' => ?_, ?_⟩; (focus (first | (go_simp; done) | (go_simp; first | rfl | (rw [if_neg] <;> first | rfl | omega) | (rw [if_pos] <;> first | rfl | omega)))); (try simp only [Rg4.nrm]))
          (refine Rg4.w4_read (Rg4.want_none rfl) rfl rfl ?_; apply Exists.intro; refine ⟨fun w' hw' hcl' => ?_, ?_⟩; focus (have st' := st.ext hw'; have hc' := st'.facts; (try simp only [nfl, nft, Nat.reduceAdd] at hc'); (focus (first | (go_simp; done) | (go_simp; first | rfl | (rw [if_neg] <;> first | rfl | omega) | (rw [if_pos] <;> first | rfl | omega))))); (try simp only [Rg4.nrm]))
          iterate 3 (refine Rg4.w4_any (Rg4.want_none rfl) rfl ?_; apply Exists.intro; refine ⟨fun w' => ?_, ?_⟩; (focus (first | (go_simp; done) | (go_simp; first | rfl | (rw [if_neg] <;> first | rfl | omega) | (rw [if_pos] <;> first | rfl | omega)))); (try simp only [Rg4.nrm]))
          (refine Rg4.w4_read (Rg4.want_none rfl) rfl rfl ?_; apply Exists.intro; refine ⟨fun w' hw' hcl' => ?_, ?_⟩; focus (have st' := st.ext hw'; have hc' := st'.facts; (try simp only [nfl, nft, Nat.reduceAdd] at hc'); (focus (first | (go_simp; done) | (go_simp; first | rfl | (rw [if_neg] <;> first | rfl | omega) | (rw [if_pos] <;> first | rfl | omega))))); (try simp only [Rg4.nrm]))
          iterate 3 (refine Rg4.w4_any (Rg4.want_none rfl) rfl ?_; apply Exists.intro; refine ⟨fun w' => ?_, ?_⟩; (focus (first | (go_simp; done) | (go_simp; first | rfl | (rw [if_neg] <;> first | rfl | omega) | (rw [if_pos] <;> first | rfl | omega)))); (try simp only [Rg4.nrm]))
          (refine Rg4.w4_read (Rg4.want_none rfl) rfl rfl ?_; apply Exists.intro; refine ⟨fun w' hw' hcl' => ?_, ?_⟩; focus (have st' := st.ext hw'; have hc' := st'.facts; (try simp only [nfl, nft, Nat.reduceAdd] at hc'); (focus (first | (go_simp; done) | (go_simp; first | rfl | (rw [if_neg] <;> first | rfl | omega) | (rw [if_pos] <;> first | rfl | omega))))); (try simp only [Rg4.nrm]))
          refine Rg4.w4_some (Rg4.want_none rfl) rfl (fun w' hw' hcl' _ => ?_) ?_
          · refine Rg.relAt_value (v := .slice (some ⟨w'.heap.size, 0, none⟩) 1 1) (w' := w'.alloc (.cells #[.int .i64 op, .int .i64 k, .string ⟨o.toArray⟩, .string ⟨d.toArray⟩, .slice a' n' c'] 26)) ?_ ⟨Ext.new _ _, trivial, _, rfl, Blk.new _ _ _⟩
            go_simp
          rintro v ⟨_, _, _, b50, rfl, _⟩
          (try simp only [Rg4.nrm])

          refine Rg4.w4_some (Rg4.want_none rfl) rfl (fun w' hw' hcl' hP => ?_) ?_
          · refine Rg.relAt_call (by go_simp; exact ⟨rfl, rfl⟩) ?_
            have st' := st.ext hw'
            have hb : Blk w' b50 [.int .i64 op, .int .i64 k, .string ⟨o.toArray⟩, .string ⟨d.toArray⟩, .slice a' n' c'] := by
              obtain ⟨b, h1, h2⟩ := (hP 12 (by kernel_rfl)).2 rfl
              cases h1
              exact h2
            refine (HFG.out _ _ st'.ext0 (fl_lit hb _ HC2.out.symm)).mono ?_
            rintro en w'' ⟨rfl, hx⟩
            exact ⟨_, rfl, hx, trivial, rfl⟩
          rintro v ⟨_, _, _, rfl⟩
          (try simp only [Rg4.nrm])
          iterate 3 (refine Rg4.w4_any (Rg4.want_none rfl) rfl ?_; apply Exists.intro; refine ⟨fun w' => ?_, ?_⟩; (focus (first | (go_simp; done) | (go_simp; first | rfl | (rw [if_neg] <;> first | rfl | omega) | (rw [if_pos] <;> first | rfl | omega)))); (try simp only [Rg4.nrm]))
          (refine Rg4.w4_read (Rg4.want_none rfl) rfl rfl ?_; apply Exists.intro; refine ⟨fun w' hw' hcl' => ?_, ?_⟩; focus (have st' := st.ext hw'; have hc' := st'.facts; (try simp only [nfl, nft, Nat.reduceAdd] at hc'); (focus (first | (go_simp; done) | (go_simp; first | rfl | (rw [if_neg] <;> first | rfl | omega) | (rw [if_pos] <;> first | rfl | omega))))); (try simp only [Rg4.nrm]))
          refine Rg4.w4_some (Rg4.want_none rfl) rfl (fun w' hw' hcl' _ => ?_) ?_
          · refine Rg.relAt_call (by go_simp; exact ⟨rfl, rfl⟩) ?_
            have st' := st.ext hw'
            refine (HCG.out _ st'.ext0).mono ?_
            rintro en w'' ⟨rfl, hx⟩
            exact ⟨_, rfl, hx, trivial, rfl⟩
          rintro v ⟨_, _, _, rfl⟩
          (try simp only [Rg4.nrm])
          iterate 3 (refine Rg4.w4_any (Rg4.want_none rfl) rfl ?_; apply Exists.intro; refine ⟨fun w' => ?_, ?_⟩; (focus (first | (go_simp; done) | (go_simp; first | rfl | (rw [if_neg] <;> first | rfl | omega) | (rw [if_pos] <;> first | rfl | omega)))); (try simp only [Rg4.nrm]))
          refine Rg4.w4_nil (fun w' hw' hcl' _ => ?_); replace st := st.ext hw'; clear hw' hcl'; (try clear hc); have hc := st.facts; (try simp only [nfl, nft, Nat.reduceAdd] at hc)
          go_wp2_with fail
          have st' := st.keep [0, 1] (by decide) (by simp)
          go_roundg (an - (j + 1))
          case measure => omega
          case rel => exact ⟨j + 1, g2 + (lo + ld + 20 * gr + ws), by omega, by omega, by go_num, by go_num, hgb, HG2, by simpa [pick] using st'⟩
        · obtain rfl : an = j := by omega
          have HE : Hid (v = g2) := Lib.hid (by rw [HV.out, HG.out, HG1.out, List.take_of_length_le (by have := HN2.out; omega)])
          clear hsz0
          (try simp only [nsl, Value.cells, unB] at st)
          (try clear hc); have hc := st.facts; (try simp only [nfl, nft, Nat.reduceAdd] at hc)
          go_wp2_with fail
          go_ret
          exact ⟨by rw [HE.out] <;> rfl, st.ext0⟩
end Go.Proofs.Ythjaopojlhdjpaa

namespace Go.Proofs.Ythjaopojlhdjpaa
set_option linter.unusedSimpArgs false
set_option linter.unusedVariables false
open Go Go.RowKit
theorem gs_nodes : ∀ l : List GuT, nodesL (l.map (fun g => g.f.strip)) ≤ (l.map gW).sum
  | [] => by simp [nodesL]
  | x :: l => by
    have h1 := gs_nodes l
    have h2 := great_nodes x.f.strip
    have h3 : gW x = wtSg x.s + 20 * x.f.strip.great := rfl
    rw [List.map_cons, nodesL, List.map_cons, List.sum_cons]
    omega
theorem ks_nodes : ∀ l : List AckT, nodesL (l.map (fun a => a.f.strip)) ≤ (l.map aW).sum
  | [] => by simp [nodesL]
  | x :: l => by
    have h1 := ks_nodes l
    have h2 := great_nodes x.f.strip
    have h3 : aW x = x.r.1.length + x.r.2.length + 20 * x.f.strip.great + weightC x.cs := rfl
    rw [List.map_cons, nodesL, List.map_cons, List.sum_cons]
    omega
theorem great_L5 {f : Fo} (h : f.great ≤ 6000) : FoL 100000 f := FoL.mono (by decide) (great_L f 6000 h)
theorem paF_small {p : PaT} (h : paW p ≤ 6000) : nodesL (paF p) ≤ 6000 ∧ ∀ f ∈ paF p, FoL 100000 f := by
  have e : paW p = p.nm.length + (p.gs.map gW).sum + (p.ks.map aW).sum := rfl
  rw [paF_def, nodesL_append]
  have h1 := gs_nodes p.gs
  have h2 := ks_nodes p.ks
  refine ⟨by omega, fun f hf => ?_⟩
  rcases List.mem_append.1 hf with q | q
  · obtain ⟨g, hg, rfl⟩ := List.mem_map.1 q
    have h3 := sum_mem gW p.gs g hg
    have h4 : gW g = wtSg g.s + 20 * g.f.strip.great := rfl
    exact great_L5 (by omega)
  · obtain ⟨g, hg, rfl⟩ := List.mem_map.1 q
    have h3 := sum_mem aW p.ks g hg
    have h4 : aW g = g.r.1.length + g.r.2.length + 20 * g.f.strip.great + weightC g.cs := rfl
    exact great_L5 (by omega)
theorem paF_one {p : PaT} {f : Fo} (h : paW p ≤ 6000) (hf : f.great ≤ 200) : FsL (paF p ++ [f]) := by
  obtain ⟨h1, h2⟩ := paF_small h
  have h3 := great_nodes f
  refine ⟨by rw [nodesL_append]; simp only [nodesL]; omega, fun g hg => ?_⟩
  rcases List.mem_append.1 hg with q | q
  · exact h2 g q
  · rw [List.mem_singleton.1 q]; exact great_L5 (by omega)
set_option maxRecDepth 100000 in
set_option maxHeartbeats 8000000 in
theorem capsCount_all (p q : PaT) (f : Fm) (W : World) (hp : PaOk W p) (hq : PaOk W q) (hf : FmOk W f) (hs : paW p + paW q ≤ 2000000000) (hgf : f.strip.great ≤ 2000000000) :
    Calls Try.prog 6 #[paV p, paV q, fmV f] W fun e w' => e = .returned (.bool true) ∧ Ext W w' := by
  have HG1 := Lib.hid (fun W' (hx : Ext W W') => paGreat_any p W' (hp.ext hx) (by omega))
  have HG2 := Lib.hid (fun W' (hx : Ext W W') => paGreat_any q W' (hq.ext hx) (by omega))
  have HFG := Lib.hid (fun b W' (hx : Ext W W') (h : Fl W' (some ⟨b, 0, none⟩) 1 [f]) => fmGreat_any [f] (some ⟨b, 0, none⟩) 1 1 W' h (fun x hx' => by rw [List.mem_singleton.1 hx']; exact FmOk.ext hf hx) (by simp [greatL]; omega))
  rw [show greatL ([f].map Fm.strip) = f.strip.great by simp [greatL]] at HFG
  have hsm1 : paW p + paW q ≤ 6000 → f.strip.great ≤ 200 → FsL (paF p ++ [f.strip]) := fun h1 h2 => paF_one (by omega) h2
  have hsm2 : paW p + paW q ≤ 6000 → FsL (paF q) := fun h1 => by
    obtain ⟨q1, q2⟩ := paF_small (p := q) (by omega)
    exact ⟨by omega, q2⟩
  have HA1 := Lib.hid (fun hs1 (b : Nat) W' (hx : Ext W W') (h : Fl W' (some ⟨b, 0, none⟩) 1 [f]) => capsAtoms_f p (some ⟨b, 0, none⟩) 1 1 [f] W' (hp.ext hx) h (fun x hx' => by rw [List.mem_singleton.1 hx']; exact hf.ext hx) hs1)
  have HA2 := Lib.hid (fun hs1 (b : Nat) W' (hx : Ext W W') (h : Fl W' (some ⟨b, 0, none⟩) 1 [f]) => refCapsAtoms_f p (some ⟨b, 0, none⟩) 1 1 [f] W' (hp.ext hx) h (fun x hx' => by rw [List.mem_singleton.1 hx']; exact hf.ext hx) hs1)
  simp only [List.map_cons, List.map_nil] at HA1 HA2
  have HT1 := Lib.hid (fun hs1 hs2 W' (hx : Ext W W') => capsTurns_any p q f W' (hp.ext hx) (hq.ext hx) (hf.ext hx) hs1 hs2)
  have HT2 := Lib.hid (fun hs1 hs2 W' (hx : Ext W W') => refCapsTurns_any p q f W' (hp.ext hx) (hq.ext hx) (hf.ext hx) hs1 hs2)
  have HRM := Lib.hid (capsRoom_any p)
  obtain ⟨wp, hwp⟩ : ∃ w, paW p = w := ⟨_, rfl⟩
  obtain ⟨wq, hwq⟩ : ∃ w, paW q = w := ⟨_, rfl⟩
  obtain ⟨gr, hgr⟩ : ∃ w, f.strip.great = w := ⟨_, rfl⟩
  rw [hwp] at HG1 hs hsm1 hsm2
  rw [hwq] at HG2 hs hsm1 hsm2
  rw [hgr] at HFG hgf hsm1
  have HS1 := Lib.hid hsm1
  have HS2 := Lib.hid hsm2
  obtain ⟨rs, hrs⟩ : ∃ r, roleSet (setsL (paF p ++ [f.strip])) = r := ⟨_, rfl⟩
  rw [hrs] at HA1 HA2
  obtain ⟨m, hm⟩ : ∃ m, rs.length = m := ⟨_, rfl⟩
  rw [hm] at HA1 HA2
  have HMB : Hid (wp + wq ≤ 6000 → gr ≤ 200 → m ≤ 100000) := Lib.hid (fun h1 h2 => by
    have h3 := setsL_set_len (paF p ++ [f.strip])
    have h4 := (hsm1 h1 h2).1
    rw [hrs, hm] at h3
    omega)
  generalize turnsN p q f.strip = tn at *
  clear hwp hwq hgr hsm1 hsm2 hrs hm hp hq hf
  obtain ⟨fx, hfx⟩ : ∃ g, f = g := ⟨_, rfl⟩
  generalize FsL (paF p ++ [f.strip]) = P1 at *
  generalize FsL (paF q) = P2 at *
  obtain ⟨nm, ga, gn, gc, gs, aa, an, ac, ks⟩ := p
  obtain ⟨nm2, ga2, gn2, gc2, gs2, aa2, an2, ac2, ks2⟩ := q
  obtain ⟨op, k, ⟨o, d⟩, fa, fn, fc, kids⟩ := f
  unfold paV at HG1 HG2 HA1 HA2 HT1 HT2 HRM ⊢
  simp only at HG1 HG2 HA1 HA2 HT1 HT2 HRM ⊢
  have HFV : Hid (fmV (.mk op k (o, d) fa fn fc kids) = .agg #[.int .i64 op, .int .i64 k, .string ⟨o.toArray⟩, .string ⟨d.toArray⟩, .slice fa fn fc]) := Lib.hid rfl
  have HC : Hid ([Value.int .i64 op, .int .i64 k, .string ⟨o.toArray⟩, .string ⟨d.toArray⟩, .slice fa fn fc] = cellsL [Fm.mk op k (o, d) fa fn fc kids]) := Lib.hid rfl
  rw [HFV.out] at HT1 HT2 ⊢
  rw [hfx] at HC HA1 HA2 HFG
  clear hfx HFV
  have zs : IntKind.i64.wrap ((wp : Int) + (wq : Int)) = (wp : Int) + (wq : Int) := IntWalk.i64_in _ ⟨by omega, by omega⟩
  have st := Own.startOld W
  (try simp only [nsl, Value.cells, unB] at st)
  (try clear hc); have hc := st.facts; (try simp only [nfl, nft, Nat.reduceAdd] at hc)
  go_enter Try.func6, Try.ntmps6
  go_wp2_with ((first
        | ((with_reducible refine wl_box ?_ (fun K hK => ?_)); rfl; refine owp_box (o := ⟨some 3, _, _, _, _, _⟩) rfl st ?_; apply Exists.intro; refine ⟨?_, ?_⟩; (focus (go_simp; try rfl)); (clear st; intro b3 w hb st; clear hb))
        | ((with_reducible refine wl_box ?_ (fun K hK => ?_)); rfl; refine owp_box (o := ⟨some 4, _, _, _, _, _⟩) rfl st ?_; apply Exists.intro; refine ⟨?_, ?_⟩; (focus (go_simp; try rfl)); (clear st; intro b4 w hb st; clear hb))
        | ((with_reducible refine wl_box ?_ (fun K hK => ?_)); rfl; refine owp_box (o := ⟨some 5, _, _, _, _, _⟩) rfl st ?_; apply Exists.intro; refine ⟨?_, ?_⟩; (focus (go_simp; try rfl)); (clear st; intro b5 w hb st; clear hb))
        | ((with_reducible refine wl_buildSlice ?_ (fun K hK => ?_)); rfl; refine owp_buildSlice (o := ⟨some 17, _, _, _, _, _⟩) rfl st ?_; apply Exists.intro; apply Exists.intro; apply Exists.intro; apply Exists.intro; refine ⟨?_, ?_⟩; (focus (go_simp; (first | done | exact ⟨⟨rfl, rfl⟩, rfl⟩ | rfl))); (clear st; intro b17 w hb st; clear hb))
        | ((with_reducible refine wl_buildSlice ?_ (fun K hK => ?_)); rfl; refine owp_buildSlice (o := ⟨some 23, _, _, _, _, _⟩) rfl st ?_; apply Exists.intro; apply Exists.intro; apply Exists.intro; apply Exists.intro; refine ⟨?_, ?_⟩; (focus (go_simp; (first | done | exact ⟨⟨rfl, rfl⟩, rfl⟩ | rfl))); (clear st; intro b23 w hb st; clear hb))
        | ((with_reducible refine wl_buildSlice ?_ (fun K hK => ?_)); rfl; refine owp_buildSlice (o := ⟨some 27, _, _, _, _, _⟩) rfl st ?_; apply Exists.intro; apply Exists.intro; apply Exists.intro; apply Exists.intro; refine ⟨?_, ?_⟩; (focus (go_simp; (first | done | exact ⟨⟨rfl, rfl⟩, rfl⟩ | rfl))); (clear st; intro b27 w hb st; clear hb))); (try simp only [nsl, Value.cells, unB] at st); (try clear hc); have hc := st.facts; (try simp only [nfl, nft, Nat.reduceAdd] at hc))
  refine (first24_any _).mono ?_
  rintro en w ⟨rfl, hx⟩
  replace st := st.ext hx
  clear hx
  (try clear hc); have hc := st.facts; (try simp only [nfl, nft, Nat.reduceAdd] at hc)
  by_cases h1 : 6000 < wp + wq
  · have h1i : (6000 : Int) < (wp : Int) + (wq : Int) := by omega
    go_wp2_with fail
    refine Rg4.wp_region4 (Rel := Ext) #[0, 1, 0, 7, 15, 31, 63, 127, 255, 511, 1023, 2047]
      [(1, .val (.int .i64 (wp : Int))), (3, .val (.int .i64 (wq : Int)))] [8, 9] [0, 2, 7] (fun _ => True) [0, 1, 2, 3, 4, 5, 6, 7, 8, 9, 10, 11] (by kernel_rfl) (by kernel_rfl) (by kernel_rfl) (by kernel_rfl) Ext.refl (fun _ _ _ => Ext.trans) (show Rg4.PB _ by repeat (first | with_reducible exact Rg4.pb_body | with_reducible exact Rg4.pb_bodyD rfl | with_reducible refine Rg4.pb_then ?_ | with_reducible refine Rg4.pb_inBlock ?_ | with_reducible refine Rg4.pb_noGoto ?_)) (trivial) ?_
    replace st := st.drew
    change Rg4.wp4 _ _ _ _ _ _ _ _ _ (World.drew _) _ _
    generalize World.drew _ = w at st ⊢
    (try clear hc); have hc := st.facts; (try simp only [nfl, nft, Nat.reduceAdd] at hc)
    (refine Rg4.w4_read (Rg4.want_none rfl) rfl rfl ?_; apply Exists.intro; refine ⟨fun w' hw' hcl' => ?_, ?_⟩; focus (have st' := st.ext hw'; have hc' := st'.facts; (try simp only [nfl, nft, Nat.reduceAdd] at hc'); (focus (first | (go_simp; done) | (go_simp; first | rfl | (rw [if_neg] <;> first | rfl | omega) | (rw [if_pos] <;> first | rfl | omega))))); (try simp only [Rg4.nrm]))
    refine Rg4.w4_some (Rg4.want_none rfl) rfl (fun w' hw' hcl' _ => ?_) ?_
    · refine Rg.relAt_call (by go_simp; exact ⟨rfl, rfl⟩) ?_
      have st' := st.ext hw'
      refine (HG1.out _ st'.ext0).mono ?_
      rintro en w'' ⟨rfl, hx⟩
      exact ⟨_, rfl, hx, trivial, rfl⟩
    rintro v ⟨_, _, _, rfl⟩
    (try simp only [Rg4.nrm])
    (refine Rg4.w4_read (Rg4.want_none rfl) rfl rfl ?_; apply Exists.intro; refine ⟨fun w' hw' hcl' => ?_, ?_⟩; focus (have st' := st.ext hw'; have hc' := st'.facts; (try simp only [nfl, nft, Nat.reduceAdd] at hc'); (focus (first | (go_simp; done) | (go_simp; first | rfl | (rw [if_neg] <;> first | rfl | omega) | (rw [if_pos] <;> first | rfl | omega))))); (try simp only [Rg4.nrm]))
    refine Rg4.w4_some (Rg4.want_none rfl) rfl (fun w' hw' hcl' _ => ?_) ?_
    · refine Rg.relAt_call (by go_simp; exact ⟨rfl, rfl⟩) ?_
      have st' := st.ext hw'
      refine (HG2.out _ st'.ext0).mono ?_
      rintro en w'' ⟨rfl, hx⟩
      exact ⟨_, rfl, hx, trivial, rfl⟩
    rintro v ⟨_, _, _, rfl⟩
    (try simp only [Rg4.nrm])
    iterate 3 (refine Rg4.w4_any (Rg4.want_none rfl) rfl ?_; apply Exists.intro; refine ⟨fun w' => ?_, ?_⟩; (focus (first | (go_simp; done) | (go_simp; first | rfl | (rw [if_neg] <;> first | rfl | omega) | (rw [if_pos] <;> first | rfl | omega)))); (try simp only [Rg4.nrm]))
    (first | (refine Rg4.w4_read (Rg4.wt rfl rfl rfl) rfl rfl ?_; apply Exists.intro; refine ⟨fun w' hw' hcl' => ?_, ?_⟩; focus (have st' := st.ext hw'; have hc' := st'.facts; (try simp only [nfl, nft, Nat.reduceAdd] at hc'); (focus (first | (go_simp; done) | (go_simp; first | rfl | (rw [if_neg] <;> first | rfl | omega) | (rw [if_pos] <;> first | rfl | omega))))); (try simp only [Rg4.nrm])) | (refine Rg4.w4_skip (Rg4.uw rfl rfl rfl) ?_; (try simp only [Rg4.nrm])) | (refine Rg4.w4_skip (Rg4.un rfl rfl rfl) ?_; (try simp only [Rg4.nrm])))
    (first | (refine Rg4.w4_bar (Rg4.wt rfl rfl rfl) rfl (fun w' hw' hcl' _ K hK => ?_); replace st := st.ext hw'; (refine owp_buildSlice (o := ⟨some 17, _, _, _, _, _⟩) rfl st ?_; apply Exists.intro; apply Exists.intro; apply Exists.intro; apply Exists.intro; refine ⟨?_, ?_⟩; (focus (go_simp; (first | done | exact ⟨⟨rfl, rfl⟩, rfl⟩ | rfl))); (clear st; intro b17 w hb st; clear hb); (try simp only [nsl, Value.cells, unB] at st); (try clear hc); have hc := st.facts; (try simp only [nfl, nft, Nat.reduceAdd] at hc)); refine hK _ _ ⟨trivial, ?_⟩; (try simp only [Rg4.nrm])) | (refine Rg4.w4_skip (Rg4.uw rfl rfl rfl) ?_; (try simp only [Rg4.nrm])) | (refine Rg4.w4_skip (Rg4.un rfl rfl rfl) ?_; (try simp only [Rg4.nrm])))
    first | refine Rg4.w4_skip (Rg4.uw rfl rfl rfl) ?_ | refine Rg4.w4_skip (Rg4.un rfl rfl rfl) ?_
    (try simp only [Rg4.nrm])
    (first | (refine Rg4.w4_any (Rg4.wt rfl rfl rfl) rfl ?_; apply Exists.intro; refine ⟨fun w' => ?_, ?_⟩; (focus (first | (go_simp; done) | (go_simp; first | rfl | (rw [if_neg] <;> first | rfl | omega) | (rw [if_pos] <;> first | rfl | omega)))); (try simp only [Rg4.nrm])) | (refine Rg4.w4_skip (Rg4.uw rfl rfl rfl) ?_; (try simp only [Rg4.nrm])) | (refine Rg4.w4_skip (Rg4.un rfl rfl rfl) ?_; (try simp only [Rg4.nrm])))
    (refine Rg4.w4_any (Rg4.want_none rfl) rfl ?_; apply Exists.intro; refine ⟨fun w' => ?_, ?_⟩; (focus (first | (go_simp; done) | (go_simp; first | rfl | (rw [if_neg] <;> first | rfl | omega) | (rw [if_pos] <;> first | rfl | omega)))); (try simp only [Rg4.nrm]))
    refine Rg4.w4_nil (fun w' hw' hcl' _ => ?_); replace st := st.ext hw'; clear hw' hcl'; (try clear hc); have hc := st.facts; (try simp only [nfl, nft, Nat.reduceAdd] at hc)
    go_wp2_with fail
    go_ret
    exact ⟨rfl, st.ext0⟩
  have h1d : decide ((6000 : Int) < (wp : Int) + (wq : Int)) = false := by rw [decide_eq_false]; omega
  by_cases h2 : 200 < gr
  · have h2i : (200 : Int) < (gr : Int) := by omega
    go_wp2_with fail
    refine Rg4.wp_region4 (Rel := Ext) #[0, 1, 0, 7, 15, 31, 63, 127, 255, 511, 1023, 2047]
      [(1, .val (.int .i64 (wp : Int))), (3, .val (.int .i64 (wq : Int)))] [8, 9] [0, 2, 7] (fun _ => True) [0, 1, 2, 3, 4, 5, 6, 7, 8, 9, 10, 11] (by kernel_rfl) (by kernel_rfl) (by kernel_rfl) (by kernel_rfl) Ext.refl (fun _ _ _ => Ext.trans) (show Rg4.PB _ by repeat (first | with_reducible exact Rg4.pb_body | with_reducible exact Rg4.pb_bodyD rfl | with_reducible refine Rg4.pb_then ?_ | with_reducible refine Rg4.pb_inBlock ?_ | with_reducible refine Rg4.pb_noGoto ?_)) (trivial) ?_
    replace st := st.drew
    change Rg4.wp4 _ _ _ _ _ _ _ _ _ (World.drew _) _ _
    generalize World.drew _ = w at st ⊢
    (try clear hc); have hc := st.facts; (try simp only [nfl, nft, Nat.reduceAdd] at hc)
    (refine Rg4.w4_read (Rg4.want_none rfl) rfl rfl ?_; apply Exists.intro; refine ⟨fun w' hw' hcl' => ?_, ?_⟩; focus (have st' := st.ext hw'; have hc' := st'.facts; (try simp only [nfl, nft, Nat.reduceAdd] at hc'); (focus (first | (go_simp; done) | (go_simp; first | rfl | (rw [if_neg] <;> first | rfl | omega) | (rw [if_pos] <;> first | rfl | omega))))); (try simp only [Rg4.nrm]))
    refine Rg4.w4_some (Rg4.want_none rfl) rfl (fun w' hw' hcl' _ => ?_) ?_
    · refine Rg.relAt_call (by go_simp; exact ⟨rfl, rfl⟩) ?_
      have st' := st.ext hw'
      refine (HG1.out _ st'.ext0).mono ?_
      rintro en w'' ⟨rfl, hx⟩
      exact ⟨_, rfl, hx, trivial, rfl⟩
    rintro v ⟨_, _, _, rfl⟩
    (try simp only [Rg4.nrm])
    (refine Rg4.w4_read (Rg4.want_none rfl) rfl rfl ?_; apply Exists.intro; refine ⟨fun w' hw' hcl' => ?_, ?_⟩; focus (have st' := st.ext hw'; have hc' := st'.facts; (try simp only [nfl, nft, Nat.reduceAdd] at hc'); (focus (first | (go_simp; done) | (go_simp; first | rfl | (rw [if_neg] <;> first | rfl | omega) | (rw [if_pos] <;> first | rfl | omega))))); (try simp only [Rg4.nrm]))
    refine Rg4.w4_some (Rg4.want_none rfl) rfl (fun w' hw' hcl' _ => ?_) ?_
    · refine Rg.relAt_call (by go_simp; exact ⟨rfl, rfl⟩) ?_
      have st' := st.ext hw'
      refine (HG2.out _ st'.ext0).mono ?_
      rintro en w'' ⟨rfl, hx⟩
      exact ⟨_, rfl, hx, trivial, rfl⟩
    rintro v ⟨_, _, _, rfl⟩
    (try simp only [Rg4.nrm])
    iterate 3 (refine Rg4.w4_any (Rg4.want_none rfl) rfl ?_; apply Exists.intro; refine ⟨fun w' => ?_, ?_⟩; (focus (first | (go_simp; done) | (go_simp; first | rfl | (rw [if_neg] <;> first | rfl | omega) | (rw [if_pos] <;> first | rfl | omega)))); (try simp only [Rg4.nrm]))
    (first | (refine Rg4.w4_read (Rg4.wt rfl rfl rfl) rfl rfl ?_; apply Exists.intro; refine ⟨fun w' hw' hcl' => ?_, ?_⟩; focus (have st' := st.ext hw'; have hc' := st'.facts; (try simp only [nfl, nft, Nat.reduceAdd] at hc'); (focus (first | (go_simp; done) | (go_simp; first | rfl | (rw [if_neg] <;> first | rfl | omega) | (rw [if_pos] <;> first | rfl | omega))))); (try simp only [Rg4.nrm])) | (refine Rg4.w4_skip (Rg4.uw rfl rfl rfl) ?_; (try simp only [Rg4.nrm])) | (refine Rg4.w4_skip (Rg4.un rfl rfl rfl) ?_; (try simp only [Rg4.nrm])))
    (first | (refine Rg4.w4_bar (Rg4.wt rfl rfl rfl) rfl (fun w' hw' hcl' _ K hK => ?_); replace st := st.ext hw'; (refine owp_buildSlice (o := ⟨some 17, _, _, _, _, _⟩) rfl st ?_; apply Exists.intro; apply Exists.intro; apply Exists.intro; apply Exists.intro; refine ⟨?_, ?_⟩; (focus (go_simp; (first | done | exact ⟨⟨rfl, rfl⟩, rfl⟩ | rfl))); (clear st; intro b17 w hb st; clear hb); (try simp only [nsl, Value.cells, unB] at st); (try clear hc); have hc := st.facts; (try simp only [nfl, nft, Nat.reduceAdd] at hc)); refine hK _ _ ⟨trivial, ?_⟩; (try simp only [Rg4.nrm])) | (refine Rg4.w4_skip (Rg4.uw rfl rfl rfl) ?_; (try simp only [Rg4.nrm])) | (refine Rg4.w4_skip (Rg4.un rfl rfl rfl) ?_; (try simp only [Rg4.nrm])))
    refine Rg4.w4_bar (Rg4.want_of 6 15 false rfl rfl rfl) rfl (fun w' hw' hcl _ K hK => ?_)
    replace st := st.ext hw'
    clear hw'
    (try clear hc); have hc := st.facts; (try simp only [nfl, nft, Nat.reduceAdd] at hc)
    go_wp2_with fail
    refine (HFG.out _ _ st.ext0 (fl_lit (st.blk (i := 4) get4) [fx] HC.out)).mono ?_
    rintro en w ⟨rfl, hx⟩
    replace st := st.ext hx
    clear hx
    (try simp only [nsl, Value.cells, unB] at st)
    (try clear hc); have hc := st.facts; (try simp only [nfl, nft, Nat.reduceAdd] at hc)
    refine hK _ _ ⟨trivial, ?_⟩
    clear hK
    (try simp only [Rg4.nrm])
    (first | (refine Rg4.w4_any (Rg4.wt rfl rfl rfl) rfl ?_; apply Exists.intro; refine ⟨fun w' => ?_, ?_⟩; (focus (first | (go_simp; done) | (go_simp; first | rfl | (rw [if_neg] <;> first | rfl | omega) | (rw [if_pos] <;> first | rfl | omega)))); (try simp only [Rg4.nrm])) | (refine Rg4.w4_skip (Rg4.uw rfl rfl rfl) ?_; (try simp only [Rg4.nrm])) | (refine Rg4.w4_skip (Rg4.un rfl rfl rfl) ?_; (try simp only [Rg4.nrm])))
    (refine Rg4.w4_any (Rg4.want_none rfl) rfl ?_; apply Exists.intro; refine ⟨fun w' => ?_, ?_⟩; (focus (first | (go_simp; done) | (go_simp; first | rfl | (rw [if_neg] <;> first | rfl | omega) | (rw [if_pos] <;> first | rfl | omega)))); (try simp only [Rg4.nrm]))
    refine Rg4.w4_nil (fun w' hw' hcl' _ => ?_); replace st := st.ext hw'; clear hw' hcl'; (try clear hc); have hc := st.facts; (try simp only [nfl, nft, Nat.reduceAdd] at hc)
    go_wp2_with fail
    go_ret
    exact ⟨rfl, st.ext0⟩
  have h2i : ¬ (200 : Int) < (gr : Int) := by omega
  have hp1 := HS1.out (by omega) (by omega)
  have hp2 := HS2.out (by omega)
  have hmb := HMB.out (by omega) (by omega)
  have HB1 := Lib.hid (HA1.out hp1)
  have HB2 := Lib.hid (HA2.out hp1)
  have HU1 := Lib.hid (HT1.out hp1 hp2)
  have HU2 := Lib.hid (HT2.out hp1 hp2)
  clear HA1 HA2 HT1 HT2 HS1 HS2 HMB hp1 hp2
  go_wp2_with fail
  refine Rg4.wp_region4 (Rel := Ext) #[0, 1, 0, 7, 15, 31, 63, 127, 255, 511, 1023, 2047]
    [(1, .val (.int .i64 (wp : Int))), (3, .val (.int .i64 (wq : Int)))] [8, 9] [0, 2, 7] (fun _ => True) [0, 1, 2, 3, 4, 5, 6, 7, 8, 9, 10, 11] (by kernel_rfl) (by kernel_rfl) (by kernel_rfl) (by kernel_rfl) Ext.refl (fun _ _ _ => Ext.trans) (show Rg4.PB _ by repeat (first | with_reducible exact Rg4.pb_body | with_reducible exact Rg4.pb_bodyD rfl | with_reducible refine Rg4.pb_then ?_ | with_reducible refine Rg4.pb_inBlock ?_ | with_reducible refine Rg4.pb_noGoto ?_)) (trivial) ?_
  replace st := st.drew
  change Rg4.wp4 _ _ _ _ _ _ _ _ _ (World.drew _) _ _
  generalize World.drew _ = w at st ⊢
  (try clear hc); have hc := st.facts; (try simp only [nfl, nft, Nat.reduceAdd] at hc)
  (refine Rg4.w4_read (Rg4.want_none rfl) rfl rfl ?_; apply Exists.intro; refine ⟨fun w' hw' hcl' => ?_, ?_⟩; focus (have st' := st.ext hw'; have hc' := st'.facts; (try simp only [nfl, nft, Nat.reduceAdd] at hc'); (focus (first | (go_simp; done) | (go_simp; first | rfl | (rw [if_neg] <;> first | rfl | omega) | (rw [if_pos] <;> first | rfl | omega))))); (try simp only [Rg4.nrm]))
  refine Rg4.w4_some (Rg4.want_none rfl) rfl (fun w' hw' hcl' _ => ?_) ?_
  · refine Rg.relAt_call (by go_simp; exact ⟨rfl, rfl⟩) ?_
    have st' := st.ext hw'
    refine (HG1.out _ st'.ext0).mono ?_
    rintro en w'' ⟨rfl, hx⟩
    exact ⟨_, rfl, hx, trivial, rfl⟩
  rintro v ⟨_, _, _, rfl⟩
  (try simp only [Rg4.nrm])
  (refine Rg4.w4_read (Rg4.want_none rfl) rfl rfl ?_; apply Exists.intro; refine ⟨fun w' hw' hcl' => ?_, ?_⟩; focus (have st' := st.ext hw'; have hc' := st'.facts; (try simp only [nfl, nft, Nat.reduceAdd] at hc'); (focus (first | (go_simp; done) | (go_simp; first | rfl | (rw [if_neg] <;> first | rfl | omega) | (rw [if_pos] <;> first | rfl | omega))))); (try simp only [Rg4.nrm]))
  refine Rg4.w4_some (Rg4.want_none rfl) rfl (fun w' hw' hcl' _ => ?_) ?_
  · refine Rg.relAt_call (by go_simp; exact ⟨rfl, rfl⟩) ?_
    have st' := st.ext hw'
    refine (HG2.out _ st'.ext0).mono ?_
    rintro en w'' ⟨rfl, hx⟩
    exact ⟨_, rfl, hx, trivial, rfl⟩
  rintro v ⟨_, _, _, rfl⟩
  (try simp only [Rg4.nrm])
  iterate 3 (refine Rg4.w4_any (Rg4.want_none rfl) rfl ?_; apply Exists.intro; refine ⟨fun w' => ?_, ?_⟩; (focus (first | (go_simp; done) | (go_simp; first | rfl | (rw [if_neg] <;> first | rfl | omega) | (rw [if_pos] <;> first | rfl | omega)))); (try simp only [Rg4.nrm]))
  (first | (refine Rg4.w4_read (Rg4.wt rfl rfl rfl) rfl rfl ?_; apply Exists.intro; refine ⟨fun w' hw' hcl' => ?_, ?_⟩; focus (have st' := st.ext hw'; have hc' := st'.facts; (try simp only [nfl, nft, Nat.reduceAdd] at hc'); (focus (first | (go_simp; done) | (go_simp; first | rfl | (rw [if_neg] <;> first | rfl | omega) | (rw [if_pos] <;> first | rfl | omega))))); (try simp only [Rg4.nrm])) | (refine Rg4.w4_skip (Rg4.uw rfl rfl rfl) ?_; (try simp only [Rg4.nrm])) | (refine Rg4.w4_skip (Rg4.un rfl rfl rfl) ?_; (try simp only [Rg4.nrm])))
  (first | (refine Rg4.w4_bar (Rg4.wt rfl rfl rfl) rfl (fun w' hw' hcl' _ K hK => ?_); replace st := st.ext hw'; (refine owp_buildSlice (o := ⟨some 17, _, _, _, _, _⟩) rfl st ?_; apply Exists.intro; apply Exists.intro; apply Exists.intro; apply Exists.intro; refine ⟨?_, ?_⟩; (focus (go_simp; (first | done | exact ⟨⟨rfl, rfl⟩, rfl⟩ | rfl))); (clear st; intro b17 w hb st; clear hb); (try simp only [nsl, Value.cells, unB] at st); (try clear hc); have hc := st.facts; (try simp only [nfl, nft, Nat.reduceAdd] at hc)); refine hK _ _ ⟨trivial, ?_⟩; (try simp only [Rg4.nrm])) | (refine Rg4.w4_skip (Rg4.uw rfl rfl rfl) ?_; (try simp only [Rg4.nrm])) | (refine Rg4.w4_skip (Rg4.un rfl rfl rfl) ?_; (try simp only [Rg4.nrm])))
  refine Rg4.w4_bar (Rg4.want_of 6 15 false rfl rfl rfl) rfl (fun w' hw' hcl _ K hK => ?_)
  replace st := st.ext hw'
  clear hw'
  (try clear hc); have hc := st.facts; (try simp only [nfl, nft, Nat.reduceAdd] at hc)
  go_wp2_with fail
  refine (HFG.out _ _ st.ext0 (fl_lit (st.blk (i := 4) get4) [fx] HC.out)).mono ?_
  rintro en w ⟨rfl, hx⟩
  replace st := st.ext hx
  clear hx
  (try simp only [nsl, Value.cells, unB] at st)
  (try clear hc); have hc := st.facts; (try simp only [nfl, nft, Nat.reduceAdd] at hc)
  refine hK _ _ ⟨trivial, ?_⟩
  clear hK
  (try simp only [Rg4.nrm])
  (first | (refine Rg4.w4_any (Rg4.wt rfl rfl rfl) rfl ?_; apply Exists.intro; refine ⟨fun w' => ?_, ?_⟩; (focus (first | (go_simp; done) | (go_simp; first | rfl | (rw [if_neg] <;> first | rfl | omega) | (rw [if_pos] <;> first | rfl | omega)))); (try simp only [Rg4.nrm])) | (refine Rg4.w4_skip (Rg4.uw rfl rfl rfl) ?_; (try simp only [Rg4.nrm])) | (refine Rg4.w4_skip (Rg4.un rfl rfl rfl) ?_; (try simp only [Rg4.nrm])))
  (refine Rg4.w4_any (Rg4.want_none rfl) rfl ?_; apply Exists.intro; refine ⟨fun w' => ?_, ?_⟩; (focus (first | (go_simp; done) | (go_simp; first | rfl | (rw [if_neg] <;> first | rfl | omega) | (rw [if_pos] <;> first | rfl | omega)))); (try simp only [Rg4.nrm]))
  refine Rg4.w4_nil (fun w' hw' hcl' _ => ?_); replace st := st.ext hw'; clear hw' hcl'; (try clear hc); have hc := st.facts; (try simp only [nfl, nft, Nat.reduceAdd] at hc)
  go_wp2_with fail
  refine Rg4.wp_region4 (Rel := Ext) #[0, 0, 2, 7, 0, 0, 32, 127, 255, 511, 1023, 1023, 1023, 8191, 1023, 1023, 1023, 131071, 262143, 524287, 1048575, 2097151, 4194303, 2097151, 10485759, 27262975, 67108863, 134217727, 268435455]
    [(2, ⟨fun v w => ∃ b, v = .slice (some ⟨b, 0, none⟩) 1 1 ∧ Blk w b [.int .i64 op, .int .i64 k, .string ⟨o.toArray⟩, .string ⟨d.toArray⟩, .slice fa fn fc] , fun _ _ _ hx ⟨b, h1, h2⟩ => ⟨b, h1, h2.ext hx⟩⟩), (3, ⟨fun v w => ∃ va vc, v = .slice va m vc ∧ Fl w va m rs , fun _ _ _ hx ⟨va, vc, h1, h2⟩ => ⟨va, vc, h1, Arr.ext h2 hx⟩⟩), (6, ⟨fun v w => ∃ b, v = .slice (some ⟨b, 0, none⟩) 1 1 ∧ Blk w b [.int .i64 op, .int .i64 k, .string ⟨o.toArray⟩, .string ⟨d.toArray⟩, .slice fa fn fc] , fun _ _ _ hx ⟨b, h1, h2⟩ => ⟨b, h1, h2.ext hx⟩⟩), (7, ⟨fun v w => ∃ va vc, v = .slice va m vc ∧ Fl w va m rs , fun _ _ _ hx ⟨va, vc, h1, h2⟩ => ⟨va, vc, h1, Arr.ext h2 hx⟩⟩), (8, .val (.bool true)), (13, .val (.int .i64 (tn : Int))), (17, .val (.int .i64 (tn : Int))), (22, .val (.int .i64 (gn : Int)))] [] [0, 1, 4, 5, 10, 11, 12, 14, 15, 16, 21, 24] (fun _ => True) [0, 1, 2, 3, 4, 5, 6, 7, 8, 9, 10, 11, 12, 13, 14, 15, 16, 17, 18, 19, 20, 21, 22, 23, 24, 25, 26, 27, 28] (by kernel_rfl) (by kernel_rfl) (by kernel_rfl) (by kernel_rfl) Ext.refl (fun _ _ _ => Ext.trans) (show Rg4.PB _ by repeat (first | with_reducible exact Rg4.pb_body | with_reducible exact Rg4.pb_bodyD rfl | with_reducible refine Rg4.pb_then ?_ | with_reducible refine Rg4.pb_inBlock ?_ | with_reducible refine Rg4.pb_noGoto ?_)) (trivial) ?_
  replace st := st.drew
  change Rg4.wp4 _ _ _ _ _ _ _ _ _ (World.drew _) _ _
  generalize World.drew _ = w at st ⊢
  (try clear hc); have hc := st.facts; (try simp only [nfl, nft, Nat.reduceAdd] at hc)
  iterate 2 (refine Rg4.w4_read (Rg4.want_none rfl) rfl rfl ?_; apply Exists.intro; refine ⟨fun w' hw' hcl' => ?_, ?_⟩; focus (have st' := st.ext hw'; have hc' := st'.facts; (try simp only [nfl, nft, Nat.reduceAdd] at hc'); (focus (first | (go_simp; done) | (go_simp; first | rfl | (rw [if_neg] <;> first | rfl | omega) | (rw [if_pos] <;> first | rfl | omega))))); (try simp only [Rg4.nrm]))
  refine Rg4.w4_some (Rg4.want_none rfl) rfl (fun w' hw' hcl' _ => ?_) ?_
  · refine Rg.relAt_value (v := .slice (some ⟨w'.heap.size, 0, none⟩) 1 1) (w' := w'.alloc (.cells #[.int .i64 op, .int .i64 k, .string ⟨o.toArray⟩, .string ⟨d.toArray⟩, .slice fa fn fc] 26)) ?_ ⟨Ext.new _ _, trivial, _, rfl, Blk.new _ _ _⟩
    go_simp
  rintro v ⟨_, _, _, b23, rfl, _⟩
  (try simp only [Rg4.nrm])

  refine Rg4.w4_some (Rg4.want_none rfl) rfl (fun w' hw' hcl' hP => ?_) ?_
  · refine Rg.relAt_call (by go_simp; exact ⟨rfl, rfl⟩) ?_
    have st' := st.ext hw'
    have hb : Blk w' b23 [.int .i64 op, .int .i64 k, .string ⟨o.toArray⟩, .string ⟨d.toArray⟩, .slice fa fn fc] := by
      obtain ⟨b, h1, h2⟩ := (hP 2 (by kernel_rfl)).2 rfl
      cases h1
      exact h2
    refine (HB1.out _ _ st'.ext0 (fl_lit hb [fx] HC.out)).mono ?_
    rintro en w'' ⟨va, vc, rfl, hfl, hx⟩
    exact ⟨_, rfl, hx, trivial, va, vc, rfl, hfl⟩
  rintro v ⟨_, _, _, va1, vc1, rfl, _⟩
  (try simp only [Rg4.nrm])
  iterate 2 (refine Rg4.w4_read (Rg4.want_none rfl) rfl rfl ?_; apply Exists.intro; refine ⟨fun w' hw' hcl' => ?_, ?_⟩; focus (have st' := st.ext hw'; have hc' := st'.facts; (try simp only [nfl, nft, Nat.reduceAdd] at hc'); (focus (first | (go_simp; done) | (go_simp; first | rfl | (rw [if_neg] <;> first | rfl | omega) | (rw [if_pos] <;> first | rfl | omega))))); (try simp only [Rg4.nrm]))
  refine Rg4.w4_some (Rg4.want_none rfl) rfl (fun w' hw' hcl' _ => ?_) ?_
  · refine Rg.relAt_value (v := .slice (some ⟨w'.heap.size, 0, none⟩) 1 1) (w' := w'.alloc (.cells #[.int .i64 op, .int .i64 k, .string ⟨o.toArray⟩, .string ⟨d.toArray⟩, .slice fa fn fc] 26)) ?_ ⟨Ext.new _ _, trivial, _, rfl, Blk.new _ _ _⟩
    go_simp
  rintro v ⟨_, _, _, b27, rfl, _⟩
  (try simp only [Rg4.nrm])

  refine Rg4.w4_some (Rg4.want_none rfl) rfl (fun w' hw' hcl' hP => ?_) ?_
  · refine Rg.relAt_call (by go_simp; exact ⟨rfl, rfl⟩) ?_
    have st' := st.ext hw'
    have hb : Blk w' b27 [.int .i64 op, .int .i64 k, .string ⟨o.toArray⟩, .string ⟨d.toArray⟩, .slice fa fn fc] := by
      obtain ⟨b, h1, h2⟩ := (hP 6 (by kernel_rfl)).2 rfl
      cases h1
      exact h2
    refine (HB2.out _ _ st'.ext0 (fl_lit hb [fx] HC.out)).mono ?_
    rintro en w'' ⟨va, vc, rfl, hfl, hx⟩
    exact ⟨_, rfl, hx, trivial, va, vc, rfl, hfl⟩
  rintro v ⟨_, _, _, va2, vc2, rfl, _⟩
  (try simp only [Rg4.nrm])

  refine Rg4.w4_some (Rg4.want_none rfl) rfl (fun w' hw' hcl' hP => ?_) ?_
  · refine Rg.relAt_call (by go_simp; exact ⟨rfl, rfl⟩) ?_
    have f1 : Fl w' va1 m rs := by
      obtain ⟨va, vc, h1, h2⟩ := (hP 3 (by kernel_rfl)).1.1.2 rfl
      cases h1
      exact h2
    have f2 : Fl w' va2 m rs := by
      obtain ⟨va, vc, h1, h2⟩ := (hP 7 (by kernel_rfl)).2 rfl
      cases h1
      exact h2
    refine (refRoleSame_any _ _ _ rs _ _ _ rs _ f1 f2 (by omega) (by omega)).mono ?_
    rintro en w'' ⟨rfl, hx⟩
    exact ⟨_, rfl, hx, trivial, by rw [decide_eq_true rfl]; rfl⟩
  rintro v ⟨_, _, _, rfl⟩
  (try simp only [Rg4.nrm])
  (refine Rg4.w4_any (Rg4.want_none rfl) rfl ?_; apply Exists.intro; refine ⟨fun w' => ?_, ?_⟩; (focus (first | (go_simp; done) | (go_simp; first | rfl | (rw [if_neg] <;> first | rfl | omega) | (rw [if_pos] <;> first | rfl | omega)))); (try simp only [Rg4.nrm]))
  iterate 3 (first | (refine Rg4.w4_read (Rg4.wt rfl rfl rfl) rfl rfl ?_; apply Exists.intro; refine ⟨fun w' hw' hcl' => ?_, ?_⟩; focus (have st' := st.ext hw'; have hc' := st'.facts; (try simp only [nfl, nft, Nat.reduceAdd] at hc'); (focus (first | (go_simp; done) | (go_simp; first | rfl | (rw [if_neg] <;> first | rfl | omega) | (rw [if_pos] <;> first | rfl | omega))))); (try simp only [Rg4.nrm])) | (refine Rg4.w4_skip (Rg4.uw rfl rfl rfl) ?_; (try simp only [Rg4.nrm])) | (refine Rg4.w4_skip (Rg4.un rfl rfl rfl) ?_; (try simp only [Rg4.nrm])))
  refine Rg4.w4_some (Rg4.want_of 9 30 true rfl rfl rfl) rfl (fun w' hw' hcl' _ => ?_) ?_
  · refine Rg.relAt_call (by go_simp; exact ⟨rfl, rfl⟩) ?_
    have st' := st.ext hw'
    refine (HU1.out _ st'.ext0).mono ?_
    rintro en w'' ⟨rfl, hx⟩
    exact ⟨_, rfl, hx, trivial, rfl⟩
  rintro v ⟨_, _, _, rfl⟩
  (try simp only [Rg4.nrm])
  iterate 3 (first | (refine Rg4.w4_read (Rg4.wt rfl rfl rfl) rfl rfl ?_; apply Exists.intro; refine ⟨fun w' hw' hcl' => ?_, ?_⟩; focus (have st' := st.ext hw'; have hc' := st'.facts; (try simp only [nfl, nft, Nat.reduceAdd] at hc'); (focus (first | (go_simp; done) | (go_simp; first | rfl | (rw [if_neg] <;> first | rfl | omega) | (rw [if_pos] <;> first | rfl | omega))))); (try simp only [Rg4.nrm])) | (refine Rg4.w4_skip (Rg4.uw rfl rfl rfl) ?_; (try simp only [Rg4.nrm])) | (refine Rg4.w4_skip (Rg4.un rfl rfl rfl) ?_; (try simp only [Rg4.nrm])))
  refine Rg4.w4_some (Rg4.want_of 9 30 true rfl rfl rfl) rfl (fun w' hw' hcl' _ => ?_) ?_
  · refine Rg.relAt_call (by go_simp; exact ⟨rfl, rfl⟩) ?_
    have st' := st.ext hw'
    refine (HU2.out _ st'.ext0).mono ?_
    rintro en w'' ⟨rfl, hx⟩
    exact ⟨_, rfl, hx, trivial, rfl⟩
  rintro v ⟨_, _, _, rfl⟩
  (try simp only [Rg4.nrm])
  (first | (refine Rg4.w4_any (Rg4.wt rfl rfl rfl) rfl ?_; apply Exists.intro; refine ⟨fun w' => ?_, ?_⟩; (focus (first | (go_simp; done) | (go_simp; first | rfl | (rw [if_neg] <;> first | rfl | omega) | (rw [if_pos] <;> first | rfl | omega)))); (try simp only [Rg4.nrm])) | (refine Rg4.w4_skip (Rg4.uw rfl rfl rfl) ?_; (try simp only [Rg4.nrm])) | (refine Rg4.w4_skip (Rg4.un rfl rfl rfl) ?_; (try simp only [Rg4.nrm])))
  iterate 2 (refine Rg4.w4_any (Rg4.want_none rfl) rfl ?_; apply Exists.intro; refine ⟨fun w' => ?_, ?_⟩; (focus (first | (go_simp; done) | (go_simp; first | rfl | (rw [if_neg] <;> first | rfl | omega) | (rw [if_pos] <;> first | rfl | omega)))); (try simp only [Rg4.nrm]))
  (first | (refine Rg4.w4_read (Rg4.wt rfl rfl rfl) rfl rfl ?_; apply Exists.intro; refine ⟨fun w' hw' hcl' => ?_, ?_⟩; focus (have st' := st.ext hw'; have hc' := st'.facts; (try simp only [nfl, nft, Nat.reduceAdd] at hc'); (focus (first | (go_simp; done) | (go_simp; first | rfl | (rw [if_neg] <;> first | rfl | omega) | (rw [if_pos] <;> first | rfl | omega))))); (try simp only [Rg4.nrm])) | (refine Rg4.w4_skip (Rg4.uw rfl rfl rfl) ?_; (try simp only [Rg4.nrm])) | (refine Rg4.w4_skip (Rg4.un rfl rfl rfl) ?_; (try simp only [Rg4.nrm])))
  refine Rg4.w4_some (Rg4.want_of 20 41 true rfl rfl rfl) rfl (fun w' hw' hcl' _ => ?_) ?_
  · refine Rg.relAt_call (by go_simp; exact ⟨rfl, rfl⟩) ?_
    skip
    refine (HRM.out _).mono ?_
    rintro en w'' ⟨rfl, hx⟩
    exact ⟨_, rfl, hx, trivial, rfl⟩
  rintro v ⟨_, _, _, rfl⟩
  (try simp only [Rg4.nrm])
  (first | (refine Rg4.w4_any (Rg4.wt rfl rfl rfl) rfl ?_; apply Exists.intro; refine ⟨fun w' => ?_, ?_⟩; (focus (first | (go_simp; done) | (go_simp; first | rfl | (rw [if_neg] <;> first | rfl | omega) | (rw [if_pos] <;> first | rfl | omega)))); (try simp only [Rg4.nrm])) | (refine Rg4.w4_skip (Rg4.uw rfl rfl rfl) ?_; (try simp only [Rg4.nrm])) | (refine Rg4.w4_skip (Rg4.un rfl rfl rfl) ?_; (try simp only [Rg4.nrm])))
  (first | (refine Rg4.w4_read (Rg4.wt rfl rfl rfl) rfl rfl ?_; apply Exists.intro; refine ⟨fun w' hw' hcl' => ?_, ?_⟩; focus (have st' := st.ext hw'; have hc' := st'.facts; (try simp only [nfl, nft, Nat.reduceAdd] at hc'); (focus (first | (go_simp; done) | (go_simp; first | rfl | (rw [if_neg] <;> first | rfl | omega) | (rw [if_pos] <;> first | rfl | omega))))); (try simp only [Rg4.nrm])) | (refine Rg4.w4_skip (Rg4.uw rfl rfl rfl) ?_; (try simp only [Rg4.nrm])) | (refine Rg4.w4_skip (Rg4.un rfl rfl rfl) ?_; (try simp only [Rg4.nrm])))
  iterate 2 (first | (refine Rg4.w4_any (Rg4.wt rfl rfl rfl) rfl ?_; apply Exists.intro; refine ⟨fun w' => ?_, ?_⟩; (focus (first | (go_simp; done) | (go_simp; first | rfl | (rw [if_neg] <;> first | rfl | omega) | (rw [if_pos] <;> first | rfl | omega)))); (try simp only [Rg4.nrm])) | (refine Rg4.w4_skip (Rg4.uw rfl rfl rfl) ?_; (try simp only [Rg4.nrm])) | (refine Rg4.w4_skip (Rg4.un rfl rfl rfl) ?_; (try simp only [Rg4.nrm])))
  iterate 2 (refine Rg4.w4_any (Rg4.want_none rfl) rfl ?_; apply Exists.intro; refine ⟨fun w' => ?_, ?_⟩; (focus (first | (go_simp; done) | (go_simp; first | rfl | (rw [if_neg] <;> first | rfl | omega) | (rw [if_pos] <;> first | rfl | omega)))); (try simp only [Rg4.nrm]))
  refine Rg4.w4_nil (fun w' hw' hcl' _ => ?_); replace st := st.ext hw'; clear hw' hcl'; (try clear hc); have hc := st.facts; (try simp only [nfl, nft, Nat.reduceAdd] at hc)
  go_wp2_with fail
  go_ret
  exact ⟨by simp, st.ext0⟩
end Go.Proofs.Ythjaopojlhdjpaa

namespace Go.Proofs.Ythjaopojlhdjpaa
set_option linter.unusedSimpArgs false
set_option linter.unusedVariables false
open Go Go.RowKit Go.ChangeShapes Go.WideShapes Go.ChangeAt

section
variable {H : Type} {enc : TypeId × Value → H} {P : Program} {w : World} {base : Nat} {spare : Nat → Bool} {held : Bool}
end
end Go.Proofs.Ythjaopojlhdjpaa

namespace Go.Proofs.Ythjaopojlhdjpaa
set_option linter.unusedSimpArgs false
set_option linter.unusedVariables false
open Go Go.RowKit Go.ChangeShapes Go.WideShapes Go.ChangeAt
theorem upto_bound {H : Type} {l : List (DataW H)} (hk : Rows.uptoSmall H l = true) : Rows.uptoBulkAll l ≤ 1048576 := of_decide_eq_true hk
theorem bulk_pos {H : Type} (d : DataW H) : 1 ≤ Rows.uptoBulk d := by
  cases d with
  | lit l => cases l <;> simp [Rows.uptoBulk]
  | nil => simp [Rows.uptoBulk]
  | ptr d => simp [Rows.uptoBulk]
  | slice elems spare => simp [Rows.uptoBulk]
  | agg parts => simp [Rows.uptoBulk]
  | iface t d => simp [Rows.uptoBulk]
  | map entries => simp [Rows.uptoBulk]
  | held h => simp [Rows.uptoBulk]
theorem bulk_len {H : Type} (l : List (DataW H)) : l.length ≤ Rows.uptoBulkAll l := by
  induction l with
  | nil => simp [Rows.uptoBulkAll]
  | cons x r ih => have := bulk_pos x; simp only [Rows.uptoBulkAll, List.length_cons]; omega
theorem bulk_slice {H : Type} (elems spare : List (DataW H)) : Rows.uptoBulkAll elems + 1 ≤ Rows.uptoBulk (.slice elems spare) := by
  simp only [Rows.uptoBulk]; omega
section
variable {H : Type} {enc : TypeId × Value → H} {P : Program} {w : World} {base : Nat} {held : Bool}
end
end Go.Proofs.Ythjaopojlhdjpaa

namespace Go.Proofs.Ythjaopojlhdjpaa
set_option linter.unusedSimpArgs false
set_option linter.unusedVariables false
open Go Go.RowKit Go.ChangeShapes Go.WideShapes Go.ChangeAt
theorem mapM_at {f : Nat → Option Value} : ∀ {l : List Nat} {ys : List Value}, l.mapM f = some ys → ∀ (i k : Nat), l[i]? = some k → f k = ys[i]?
  | [], ys, h, i, k, hk => by simp at hk
  | a :: l, ys, h, i, k, hk => by
    rw [List.mapM_cons] at h
    cases ha : f a with
    | none => rw [ha] at h; cases h
    | some y =>
      rw [ha] at h
      cases hl : l.mapM f with
      | none => rw [hl] at h; cases h
      | some zs =>
        rw [hl] at h
        cases h
        cases i with
        | zero => simp at hk; subst hk; simp [ha]
        | succ i => simp at hk; simpa using mapM_at hl i k hk
theorem cells_at {w : World} {base k : Nat} {a : Addr} {cs : List Value} (h : w.cells? base a k = some cs) (j : Nat) (hj : j < k) : w.cell? (a.add j) = cs[j]? := by
  unfold World.cells? at h
  split at h
  · exact mapM_at (f := fun i => w.cell? (a.add i)) h j j (by simp [hj])
  · cases h
theorem bulk_map {H : Type} {α : Type} (D : Nat → DataW H) (f : Nat → α) (bulk : α → Nat) : ∀ (L : List Nat), (∀ i ∈ L, bulk (f i) ≤ Rows.uptoBulk (D i)) → ((L.map f).map bulk).sum ≤ Rows.uptoBulkAll (L.map D)
  | [], _ => by simp
  | i :: L, h => by
    have ih := bulk_map D f bulk L fun j hj => h j (List.mem_cons_of_mem _ hj)
    have h1 := h i (by simp)
    simp only [List.map_cons, Rows.uptoBulkAll, List.sum_cons]
    omega
section
variable {H : Type} {enc : TypeId × Value → H} {P : Program} {w : World} {base : Nat} {held : Bool}
theorem trod_flts {α : Type} [Flt α] [Inhabited α] (bulk : α → Nat) (R : α → Prop) {t e : TypeId} {fuel : Nat} {cs : List Value} {y : DataW H × List MemPlace} (ht : P.underlying t = some (.slice e)) (ce : P.cellsOf e = Flt.k α)
    (hel : ∀ (fuel : Nat) (cs : List Value) (x : DataW H × List MemPlace), DataW.trod enc P w base (fun _ => true) held fuel e cs = some x → ∃ y : α, cs = Flt.cells y ∧ bulk y ≤ Rows.uptoBulk x.1 ∧ R y)
    (h : DataW.trod enc P w base (fun _ => true) held fuel t cs = some y) : ∃ a n c xs, cs = [.slice a n c] ∧ Fl w a n (xs : List α) ∧ (n ≤ c ∧ c ≤ maxLen) ∧ (xs.map bulk).sum ≤ Rows.uptoBulk y.1 ∧ ∀ x ∈ xs, R x := by
  obtain ⟨d, p⟩ := y
  rcases Go.Deep.open_slice ht h with ⟨hcs, _⟩ | ⟨a', len, cap, m, n', D, Pl, hcs, hb, hl, hm, hmm, hxe, hx⟩
  · exact ⟨none, 0, 0, [], hcs, Fl.nil _ _, ⟨Nat.le_refl _, by simp [maxLen]⟩, by simp, by simp⟩
  · rw [ce] at hx
    simp at hmm
    injection hxe with hd hp
    have hel2 : ∀ i, i < len → ∃ x : α, (∀ j u, (Flt.cells x)[j]? = some u → w.cell? ((a'.add (i * Flt.k α)).add j) = some u) ∧ bulk x ≤ Rows.uptoBulk (D i) ∧ R x := fun i hi => by
      obtain ⟨cs', hc, htr⟩ := hx i (by omega)
      obtain ⟨x, h1, h2, h3⟩ := hel _ _ _ htr
      subst h1
      refine ⟨x, fun j u hu => ?_, h2, h3⟩
      have hj : j < Flt.k α := by
        have := (List.getElem?_eq_some_iff.1 hu).1
        rwa [Flt.len] at this
      rw [cells_at hc j hj, hu]
    obtain ⟨f, hF⟩ : ∃ f : Nat → α, ∀ i, i < len → (∀ j u, (Flt.cells (f i))[j]? = some u → w.cell? ((a'.add (i * Flt.k α)).add j) = some u) ∧ bulk (f i) ≤ Rows.uptoBulk (D i) ∧ R (f i) :=
      ⟨fun i => if h : i < len then (hel2 i h).choose else default, fun i hi => by simp only [hi, dite_true]; exact (hel2 i hi).choose_spec⟩
    refine ⟨some a', len, cap, (List.range len).map f, hcs, ⟨by simp, fun h0 => ?_⟩, ⟨hl, hm⟩, ?_, ?_⟩
    · have hk := Flt.pos (α := α)
      have hx0 : a'.spot = none := by
        obtain ⟨u, hu⟩ : ∃ u, (Flt.cells (f 0))[0]? = some u := ⟨_, List.getElem?_eq_getElem (by rw [Flt.len]; exact hk)⟩
        have := (hF 0 h0).1 0 u hu
        simp only [Addr.add, Nat.zero_mul, if_true] at this
        unfold World.cell? at this
        split at this
        · cases hs : a'.spot with
          | none => rfl
          | some q => simp [hs] at this
        · cases this
      obtain ⟨b, off, sp⟩ := a'
      simp at hx0
      subst hx0
      refine ⟨b, off, rfl, fun i x hi j u hu => ?_⟩
      obtain ⟨hin, hfx⟩ : i < len ∧ f i = x := by
        have h1 := (List.getElem?_eq_some_iff.1 hi).1
        have h2 := (List.getElem?_eq_some_iff.1 hi).2
        simp at h1 h2
        exact ⟨h1, h2⟩
      subst hfx
      have h1 := (hF i hin).1 j u hu
      rw [addr_add, addr_add] at h1
      exact h1
    · have hb1 := bulk_map D f bulk (List.range len) (fun i hi => (hF i (by simpa using hi)).2.1)
      have := bulk_slice (H := H) ((List.range len).map D) ((List.range (m - len)).map fun j => D (len + j))
      subst hd
      simp only
      omega
    · intro x hx
      simp only [List.mem_map, List.mem_range] at hx
      obtain ⟨i, hi, rfl⟩ := hx
      exact (hF i hi).2.2
/-- One of them. -/
theorem open_flt {α : Type} [Flt α] (bulk : α → Nat) (R : α → Prop) {r : Reach} {b0 : Nat} {t : TypeId} {fs : Array Field} {v : Value} {d : DataW H} {p : List MemPlace} (ht : P.underlying t = some (.struct fs))
    (hel : ∀ (fuel : Nat) (cs : List Value) (x : DataW H × List MemPlace), DataW.trod enc P w base (fun _ => true) held fuel t cs = some x → ∃ y : α, cs = Flt.cells y ∧ bulk y ≤ Rows.uptoBulk x.1 ∧ R y)
    (hv : Value.okWide P w r b0 t v) (h : DataW.Trod enc P w base (fun _ => true) held t v d p) : ∃ x : α, v = .agg (Flt.cells x).toArray ∧ bulk x ≤ Rows.uptoBulk d ∧ R x := by
  obtain ⟨cs, rfl, hsz⟩ := okWide_struct ht hv
  obtain ⟨fuel, hf⟩ := h
  obtain ⟨x, h1, h2, h3⟩ := hel _ _ _ hf
  refine ⟨x, ?_, h2, h3⟩
  have : cs.toList = Flt.cells x := by simpa [Value.cells] using h1
  congr 1
  apply Array.toList_inj.1
  rw [this]
theorem trod_fields {t : TypeId} {fs : Array Field} {fuel : Nat} {cs : List Value} {x : DataW H × List MemPlace} (ht : P.underlying t = some (.struct fs)) (h : DataW.trod enc P w base (fun _ => true) held fuel t cs = some x) :
    ∃ (xs : List (DataW H × List MemPlace)) (n : Nat), x.1 = .agg (xs.map (·.1)) ∧ cs.length = P.cellsOf t ∧ xs.length = fs.size ∧
      ∀ (i : Nat) (f : Field), fs[i]? = some f → ∃ y, xs[i]? = some y ∧ DataW.trod enc P w base (fun _ => true) held n f.type ((cs.drop f.offset).take (P.cellsOf f.type)) = some y := by
  obtain ⟨xs, n, _, rfl, hl, hlen, hf⟩ := DataW.trod_struct ht h
  refine ⟨xs, n, rfl, hl, hlen, fun i f hi => ?_⟩
  have := hf i f hi
  have hil : i < xs.length := by rw [hlen]; exact (Array.getElem?_eq_some_iff.1 hi).1
  refine ⟨xs[i], List.getElem?_eq_getElem hil, ?_⟩
  rw [this, List.getElem?_eq_getElem hil]
end
end Go.Proofs.Ythjaopojlhdjpaa

namespace Go.Proofs.Ythjaopojlhdjpaa
set_option linter.unusedSimpArgs false
set_option linter.unusedVariables false
open Go Go.RowKit Go.ChangeShapes Go.WideShapes Go.ChangeAt
section
variable {H : Type} {enc : TypeId × Value → H} {P : Program} {w : World} {base : Nat} {held : Bool}
theorem trod_role {t : TypeId} {f0 f1 : Field} {fuel : Nat} {cs : List Value} {x : DataW H × List MemPlace} (ht : P.underlying t = some (.struct #[f0, f1])) (ce : P.cellsOf t = 2) (o0 : f0.offset = 0) (o1 : f1.offset = 1) (c0 : P.cellsOf f0.type = 1) (c1 : P.cellsOf f1.type = 1)
    (t0 : P.underlying f0.type = some .string) (t1 : P.underlying f1.type = some .string) (h : DataW.trod enc P w base (fun _ => true) held fuel t cs = some x) : ∃ r : Role, cs = [S r.1, S r.2] ∧ Rows.uptoBulk x.1 = r.1.length + r.2.length + 3 := by
  obtain ⟨y0, y1, n, rfl, hl, h0, h1⟩ := trod_struct2 ht h
  rw [ce] at hl
  rw [o0, c0] at h0
  rw [o1, c1] at h1
  match cs, hl with
  | [u, v], _ =>
    simp at h0 h1
    obtain ⟨s0, q0, rfl, _⟩ := DataW.trod_string t0 h0
    obtain ⟨s1, q1, rfl, _⟩ := DataW.trod_string t1 h1
    simp at q0 q1
    subst q0 q1
    obtain ⟨⟨s0⟩⟩ := s0
    obtain ⟨⟨s1⟩⟩ := s1
    refine ⟨(s0, s1), rfl, ?_⟩
    simp [Rows.uptoBulk, Rows.uptoBulkAll]
    omega
end
end Go.Proofs.Ythjaopojlhdjpaa

namespace Go.Proofs.Ythjaopojlhdjpaa
set_option linter.unusedSimpArgs false
set_option linter.unusedVariables false
open Go Go.RowKit Go.ChangeShapes Go.WideShapes Go.ChangeAt
def bulkC (x : CredT) : Nat := 1 + x.h.1.length + x.h.2.length + x.w.length + x.b.1.length + x.b.2.length + x.c.1.length + x.c.2.length + x.e.length
theorem wtC_bulk (x : CredT) : wtC x ≤ 20 * bulkC x := by unfold wtC bulkC; omega
theorem weightC_bulk : ∀ l : List CredT, weightC l ≤ 20 * (l.map bulkC).sum
  | [] => by simp [weightC]
  | x :: l => by have := weightC_bulk l; have := wtC_bulk x; rw [weightC_cons]; simp only [List.map_cons, List.sum_cons]; omega
section
variable {H : Type} {enc : TypeId × Value → H} {P : Program} {w : World} {base : Nat} {held : Bool}
set_option maxRecDepth 100000 in
theorem trod_cred {fuel : Nat} {cs : List Value} {x : DataW H × List MemPlace} (h : DataW.trod enc Try.prog w base (fun _ => true) held fuel 59 cs = some x) : ∃ y : CredT, cs = Flt.cells y ∧ bulkC y ≤ Rows.uptoBulk x.1 ∧ True := by
  have hS := Try.underlying59
  obtain ⟨xs, n, hx, hl, hlen, hf⟩ := trod_fields hS h
  rw [show Try.prog.cellsOf 59 = 9 from by kernel_rfl] at hl
  obtain ⟨y0, e0, h0⟩ := hf 0 _ rfl
  obtain ⟨y1, e1, h1⟩ := hf 1 _ rfl
  obtain ⟨y2, e2, h2⟩ := hf 2 _ rfl
  obtain ⟨y3, e3, h3⟩ := hf 3 _ rfl
  obtain ⟨y4, e4, h4⟩ := hf 4 _ rfl
  obtain ⟨y5, e5, h5⟩ := hf 5 _ rfl
  change DataW.trod enc Try.prog w base (fun _ => true) held n 3 ((cs.drop 0).take (Try.prog.cellsOf 3)) = some y0 at h0
  change DataW.trod enc Try.prog w base (fun _ => true) held n 23 ((cs.drop 1).take (Try.prog.cellsOf 23)) = some y1 at h1
  change DataW.trod enc Try.prog w base (fun _ => true) held n 9 ((cs.drop 3).take (Try.prog.cellsOf 9)) = some y2 at h2
  change DataW.trod enc Try.prog w base (fun _ => true) held n 23 ((cs.drop 4).take (Try.prog.cellsOf 23)) = some y3 at h3
  change DataW.trod enc Try.prog w base (fun _ => true) held n 23 ((cs.drop 6).take (Try.prog.cellsOf 23)) = some y4 at h4
  change DataW.trod enc Try.prog w base (fun _ => true) held n 9 ((cs.drop 8).take (Try.prog.cellsOf 9)) = some y5 at h5
  have k1 : Try.prog.cellsOf 3 = 1 := by kernel_rfl
  have k2 : Try.prog.cellsOf 23 = 2 := by kernel_rfl
  have k3 : Try.prog.cellsOf 9 = 1 := by kernel_rfl
  rw [k1] at h0
  rw [k2] at h1 h3 h4
  rw [k3] at h2 h5
  have hl6 : xs.length = 6 := hlen
  match cs, hl, xs, hl6 with
  | [c0, c1, c2, c3, c4, c5, c6, c7, c8], _, [z0, z1, z2, z3, z4, z5], _ =>
    simp at e0 e1 e2 e3 e4 e5
    subst e0 e1 e2 e3 e4 e5
    simp only [List.drop_succ_cons, List.drop_zero, List.take_succ_cons, List.take_zero] at h0 h1 h2 h3 h4 h5
    obtain ⟨i0, q0, rfl, _⟩ := DataW.trod_int Try.underlying3 h0
    obtain ⟨r1, q1, b1⟩ := trod_role Try.underlying23 (by kernel_rfl) rfl rfl (by kernel_rfl) (by kernel_rfl) Try.underlying9 Try.underlying9 h1
    obtain ⟨s2, q2, rfl, _⟩ := DataW.trod_string Try.underlying9 h2
    obtain ⟨r3, q3, b3⟩ := trod_role Try.underlying23 (by kernel_rfl) rfl rfl (by kernel_rfl) (by kernel_rfl) Try.underlying9 Try.underlying9 h3
    obtain ⟨r4, q4, b4⟩ := trod_role Try.underlying23 (by kernel_rfl) rfl rfl (by kernel_rfl) (by kernel_rfl) Try.underlying9 Try.underlying9 h4
    obtain ⟨s5, q5, rfl, _⟩ := DataW.trod_string Try.underlying9 h5
    simp at q0 q1 q2 q3 q4 q5
    obtain ⟨⟨s2⟩⟩ := s2
    obtain ⟨⟨s5⟩⟩ := s5
    refine ⟨⟨i0, r1, s2, r3, r4, s5⟩, ?_, ?_, trivial⟩
    · rw [q0, q1.1, q1.2, q2, q3.1, q3.2, q4.1, q4.2, q5]; rfl
    · rw [hx]
      simp only [List.map_cons, List.map_nil, Rows.uptoBulk, Rows.uptoBulkAll, b1, b3, b4, bulkC]
      simp [Rows.uptoBulk]
      omega
  | [], hl, _, _ => simp at hl
end
end Go.Proofs.Ythjaopojlhdjpaa

namespace Go.Proofs.Ythjaopojlhdjpaa
set_option linter.unusedSimpArgs false
set_option linter.unusedVariables false
open Go Go.RowKit Go.ChangeShapes Go.WideShapes Go.ChangeAt
section
variable {H : Type} {enc : TypeId × Value → H} {w : World} {base : Nat} {held : Bool}
set_option maxRecDepth 100000 in
theorem trod_by {fuel : Nat} {cs : List Value} {x : DataW H × List MemPlace} (h : DataW.trod enc Try.prog w base (fun _ => true) held fuel 60 cs = some x) : ∃ a n c xs, cs = [.slice a n c] ∧ By w a n xs ∧ (n ≤ c ∧ c ≤ maxLen) ∧ n ≤ Rows.uptoBulk x.1 := by
  rcases open_ints Try.underlying60 Try.underlying5 (by kernel_rfl) h with ⟨rfl, _⟩ | ⟨a, l, c, zs, rfl, _, hl, hm, hz, hx, hcell, hwz⟩
  · exact ⟨none, 0, 0, [], rfl, By.nil _ _, ⟨Nat.le_refl _, by simp [maxLen]⟩, Nat.zero_le _⟩
  · have hz2 : zs.length = c := by simpa using hz
    obtain ⟨xs, h1, h2, h3⟩ := By.of_row (w := w) (a := some a) (len := l) (cap := c) (zs := zs) (.inr ⟨_, rfl, hl, hm, hz2, hcell, hwz⟩)
    refine ⟨some a, l, c, xs, rfl, h1, ⟨hl, hm⟩, ?_⟩
    rw [hx]
    simp only [Rows.uptoBulk]
    have := bulk_len (H := H) (lits .u8 (zs.take l))
    have hlen : (lits (H := H) .u8 (zs.take l)).length = l := by simp [lits, hz2, hl]
    omega
end
end Go.Proofs.Ythjaopojlhdjpaa

namespace Go.Proofs.Ythjaopojlhdjpaa
set_option linter.unusedSimpArgs false
set_option linter.unusedVariables false
open Go Go.RowKit Go.ChangeShapes Go.WideShapes Go.ChangeAt
def bulkSg (x : SgnT) : Nat := bulkC x.c + x.n
section
variable {H : Type} {enc : TypeId × Value → H} {w : World} {base : Nat} {held : Bool}
set_option maxRecDepth 100000 in
theorem trod_sgn {fuel : Nat} {cs : List Value} {x : DataW H × List MemPlace} (h : DataW.trod enc Try.prog w base (fun _ => true) held fuel 62 cs = some x) : ∃ y : SgnT, cs = Flt.cells y ∧ bulkSg y ≤ Rows.uptoBulk x.1 ∧ SgOk w y := by
  have hS := Try.underlying62
  obtain ⟨xs, n, hx, hl, hlen, hf⟩ := trod_fields hS h
  rw [show Try.prog.cellsOf 62 = 10 from by kernel_rfl] at hl
  obtain ⟨y0, e0, h0⟩ := hf 0 _ rfl
  obtain ⟨y1, e1, h1⟩ := hf 1 _ rfl
  change DataW.trod enc Try.prog w base (fun _ => true) held n 59 ((cs.drop 0).take (Try.prog.cellsOf 59)) = some y0 at h0
  change DataW.trod enc Try.prog w base (fun _ => true) held n 60 ((cs.drop 9).take (Try.prog.cellsOf 60)) = some y1 at h1
  have k1 : Try.prog.cellsOf 59 = 9 := by kernel_rfl
  have k2 : Try.prog.cellsOf 60 = 1 := by kernel_rfl
  rw [k1] at h0
  rw [k2] at h1
  have hl2 : xs.length = 2 := hlen
  match cs, hl, xs, hl2 with
  | [c0, c1, c2, c3, c4, c5, c6, c7, c8, c9], _, [z0, z1], _ =>
    simp at e0 e1
    subst e0 e1
    simp only [List.drop_succ_cons, List.drop_zero, List.take_succ_cons, List.take_zero] at h0 h1
    obtain ⟨y, q0, b0, _⟩ := trod_cred h0
    obtain ⟨a, m, c, ys, q1, hb, hc, hk⟩ := trod_by h1
    refine ⟨⟨y, a, m, c, ys⟩, ?_, ?_, hc, hb⟩
    · simp [Flt.cells, cC] at q0
      simp at q1
      obtain ⟨rfl, rfl, rfl, rfl, rfl, rfl, rfl, rfl, rfl⟩ := q0
      subst q1
      rfl
    · rw [hx]
      simp only [List.map_cons, List.map_nil, Rows.uptoBulk, Rows.uptoBulkAll, bulkSg]
      omega
  | [], hl, _, _ => simp at hl
end
end Go.Proofs.Ythjaopojlhdjpaa

namespace Go.Proofs.Ythjaopojlhdjpaa
set_option linter.unusedSimpArgs false
set_option linter.unusedVariables false
open Go Go.RowKit Go.ChangeShapes Go.WideShapes Go.ChangeAt
mutual
def Fo.bulk : Fo → Nat
  | .mk _ _ r kids => 1 + r.1.length + r.2.length + bulkFoL kids
def bulkFoL : List Fo → Nat
  | [] => 0
  | x :: l => x.bulk + bulkFoL l
end
def bulkFm (f : Fm) : Nat := f.strip.bulk
theorem bulkFoL_sum : ∀ l : List Fm, bulkFoL (l.map Fm.strip) = (l.map bulkFm).sum
  | [] => by simp [bulkFoL]
  | x :: l => by rw [List.map_cons, bulkFoL, bulkFoL_sum l]; simp [bulkFm]
theorem great_bulk (f : Fo) : f.great ≤ f.bulk := by
  refine Fo.ind (P := fun f => f.great ≤ f.bulk) (fun op k r kids ih => ?_) f
  rw [Fo.great, Fo.bulk]
  have : greatL kids ≤ bulkFoL kids := by
    clear op k r
    induction kids with
    | nil => simp [greatL]
    | cons x l ihl =>
      have h1 := ih x (by simp)
      have h2 := ihl fun y hy => ih y (by simp [hy])
      rw [greatL, bulkFoL]
      omega
  omega
section
variable {H : Type} {enc : TypeId × Value → H} {P : Program} {w : World} {base : Nat} {held : Bool}
theorem trod_flts_at {α : Type} [Flt α] [Inhabited α] (bulk : α → Nat) (R : α → Prop) {t e : TypeId} {fuel : Nat} {cs : List Value} {y : DataW H × List MemPlace} (ht : P.underlying t = some (.slice e)) (ce : P.cellsOf e = Flt.k α)
    (hel : ∀ (n : Nat), fuel = n + 1 → ∀ (cs : List Value) (x : DataW H × List MemPlace), DataW.trod enc P w base (fun _ => true) held n e cs = some x → ∃ y : α, cs = Flt.cells y ∧ bulk y ≤ Rows.uptoBulk x.1 ∧ R y)
    (h : DataW.trod enc P w base (fun _ => true) held fuel t cs = some y) : ∃ a n c xs, cs = [.slice a n c] ∧ Fl w a n (xs : List α) ∧ (n ≤ c ∧ c ≤ maxLen) ∧ (xs.map bulk).sum ≤ Rows.uptoBulk y.1 ∧ ∀ x ∈ xs, R x := by
  rcases DataW.trod_slice ht h with ⟨hcs, _⟩ | ⟨a', len, cap, elems, rest, n, hfu, rfl, rfl, hb, hl, hm, hlen, he, _, _⟩
  · exact ⟨none, 0, 0, [], hcs, Fl.nil _ _, ⟨Nat.le_refl _, by simp [maxLen]⟩, by simp, by simp⟩
  · rw [ce] at he
    have hel2 : ∀ i, i < len → ∃ x : α, (∀ j u, (Flt.cells x)[j]? = some u → w.cell? ((a'.add (i * Flt.k α)).add j) = some u) ∧ bulk x ≤ Rows.uptoBulk (elems.getD i (.nil, [])).1 ∧ R x := fun i hi => by
      have h1 := he i hi
      rw [List.getElem?_eq_getElem (by omega)] at h1
      obtain ⟨cs', hc, htr⟩ := Option.bind_eq_some_iff.1 h1
      obtain ⟨x, h1, h2, h3⟩ := hel n hfu _ _ htr
      subst h1
      refine ⟨x, fun j u hu => ?_, ?_, h3⟩
      · have hj : j < Flt.k α := by
          have := (List.getElem?_eq_some_iff.1 hu).1
          rwa [Flt.len] at this
        rw [cells_at hc j hj, hu]
      · rw [List.getD_eq_getElem?_getD, List.getElem?_eq_getElem (by omega)]; exact h2
    obtain ⟨f, hF⟩ : ∃ f : Nat → α, ∀ i, i < len → (∀ j u, (Flt.cells (f i))[j]? = some u → w.cell? ((a'.add (i * Flt.k α)).add j) = some u) ∧ bulk (f i) ≤ Rows.uptoBulk (elems.getD i (.nil, [])).1 ∧ R (f i) :=
      ⟨fun i => if h : i < len then (hel2 i h).choose else default, fun i hi => by simp only [hi, dite_true]; exact (hel2 i hi).choose_spec⟩
    refine ⟨some a', len, cap, (List.range len).map f, rfl, ⟨by simp, fun h0 => ?_⟩, ⟨hl, hm⟩, ?_, ?_⟩
    · have hk := Flt.pos (α := α)
      have hx0 : a'.spot = none := by
        obtain ⟨u, hu⟩ : ∃ u, (Flt.cells (f 0))[0]? = some u := ⟨_, List.getElem?_eq_getElem (by rw [Flt.len]; exact hk)⟩
        have := (hF 0 h0).1 0 u hu
        simp only [Addr.add, Nat.zero_mul, if_true] at this
        unfold World.cell? at this
        split at this
        · cases hs : a'.spot with
          | none => rfl
          | some q => simp [hs] at this
        · cases this
      obtain ⟨b, off, sp⟩ := a'
      simp at hx0
      subst hx0
      refine ⟨b, off, rfl, fun i x hi j u hu => ?_⟩
      obtain ⟨hin, hfx⟩ : i < len ∧ f i = x := by
        have h1 := (List.getElem?_eq_some_iff.1 hi).1
        have h2 := (List.getElem?_eq_some_iff.1 hi).2
        simp at h1 h2
        exact ⟨h1, h2⟩
      subst hfx
      have h1 := (hF i hin).1 j u hu
      rw [addr_add, addr_add] at h1
      exact h1
    · have hb1 := bulk_map (fun i => (elems.getD i (.nil, [])).1) f bulk (List.range len) (fun i hi => (hF i (by simpa using hi)).2.1)
      have e2 : (List.range len).map (fun i => (elems.getD i (.nil, [])).1) = elems.map (·.1) := by
        apply List.ext_getElem?
        intro i
        rw [List.getElem?_map, List.getElem?_map]
        by_cases hi : i < len
        · rw [List.getElem?_range hi, List.getElem?_eq_getElem (by omega)]
          simp only [Option.map_some]
          rw [List.getD_eq_getElem?_getD, List.getElem?_eq_getElem (by omega)]
          rfl
        · rw [List.getElem?_eq_none (by simp; omega), List.getElem?_eq_none (by omega)]
          rfl
      rw [e2] at hb1
      have := bulk_slice (H := H) (elems.map (·.1)) (rest.map (·.1))
      simp only
      omega
    · intro x hx
      simp only [List.mem_map, List.mem_range] at hx
      obtain ⟨i, hi, rfl⟩ := hx
      exact (hF i hi).2.2
set_option maxRecDepth 100000 in
theorem trod_fm : ∀ (fuel : Nat) {cs : List Value} {x : DataW H × List MemPlace}, DataW.trod enc Try.prog w base (fun _ => true) held fuel 26 cs = some x → ∃ y : Fm, cs = Flt.cells y ∧ bulkFm y ≤ Rows.uptoBulk x.1 ∧ FmOk w y := by
  intro fuel
  induction fuel using Nat.strongRecOn with
  | ind fuel ih =>
  intro cs x h
  have hS := Try.underlying26
  obtain ⟨xs, n, hfu, hx, hl, hlen, hf0⟩ := DataW.trod_struct hS h
  have hf : ∀ (i : Nat) (f : Field), (Try.prog.fieldsOf 26)[i]? = some f → ∃ y, xs[i]? = some y ∧ DataW.trod enc Try.prog w base (fun _ => true) held n f.type ((cs.drop f.offset).take (Try.prog.cellsOf f.type)) = some y := fun i f hi => by
    have := hf0 i f hi
    have hil : i < xs.length := by rw [hlen]; exact (Array.getElem?_eq_some_iff.1 hi).1
    refine ⟨xs[i], List.getElem?_eq_getElem hil, ?_⟩
    rw [this, List.getElem?_eq_getElem hil]
  rw [show Try.prog.cellsOf 26 = 5 from by kernel_rfl] at hl
  obtain ⟨y0, e0, h0⟩ := hf 0 _ rfl
  obtain ⟨y1, e1, h1⟩ := hf 1 _ rfl
  obtain ⟨y2, e2, h2⟩ := hf 2 _ rfl
  obtain ⟨y3, e3, h3⟩ := hf 3 _ rfl
  change DataW.trod enc Try.prog w base (fun _ => true) held n 3 ((cs.drop 0).take (Try.prog.cellsOf 3)) = some y0 at h0
  change DataW.trod enc Try.prog w base (fun _ => true) held n 3 ((cs.drop 1).take (Try.prog.cellsOf 3)) = some y1 at h1
  change DataW.trod enc Try.prog w base (fun _ => true) held n 23 ((cs.drop 2).take (Try.prog.cellsOf 23)) = some y2 at h2
  change DataW.trod enc Try.prog w base (fun _ => true) held n 24 ((cs.drop 4).take (Try.prog.cellsOf 24)) = some y3 at h3
  have k1 : Try.prog.cellsOf 3 = 1 := by kernel_rfl
  have k2 : Try.prog.cellsOf 23 = 2 := by kernel_rfl
  have k3 : Try.prog.cellsOf 24 = 1 := by kernel_rfl
  rw [k1] at h0 h1
  rw [k2] at h2
  rw [k3] at h3
  have hl4 : xs.length = 4 := hlen
  match cs, hl, xs, hl4 with
  | [c0, c1, c2, c3, c4], _, [z0, z1, z2, z3], _ =>
    simp at e0 e1 e2 e3
    subst e0 e1 e2 e3
    simp only [List.drop_succ_cons, List.drop_zero, List.take_succ_cons, List.take_zero] at h0 h1 h2 h3
    obtain ⟨i0, q0, rfl, _⟩ := DataW.trod_int Try.underlying3 h0
    obtain ⟨i1, q1, rfl, _⟩ := DataW.trod_int Try.underlying3 h1
    obtain ⟨r2, q2, b2⟩ := trod_role Try.underlying23 (by kernel_rfl) rfl rfl (by kernel_rfl) (by kernel_rfl) Try.underlying9 Try.underlying9 h2
    obtain ⟨ka, kn, kc, ks, q3, hk1, hk2, hk3, hk4⟩ := trod_flts_at (α := Fm) bulkFm (FmOk w) Try.underlying24 (by kernel_rfl) (fun m hm cs x hh => ih m (by omega) hh) h3
    simp at q0 q1 q2 q3
    refine ⟨.mk i0 i1 r2 ka kn kc ks, ?_, ?_, FmIn.mk hk2 hk1 (fun _ _ _ => trivial) hk4⟩
    · rw [q0, q1, q2.1, q2.2, q3]; rfl
    · rw [hx]
      unfold bulkFm
      rw [strip_mk, Fo.bulk, bulkFoL_sum]
      simp only [List.map_cons, List.map_nil, Rows.uptoBulk, Rows.uptoBulkAll, b2]
      simp [Rows.uptoBulk]
      omega
  | [], hl, _, _ => simp at hl
end
end Go.Proofs.Ythjaopojlhdjpaa

namespace Go.Proofs.Ythjaopojlhdjpaa
set_option linter.unusedSimpArgs false
set_option linter.unusedVariables false
open Go Go.RowKit Go.ChangeShapes Go.WideShapes Go.ChangeAt
def bulkGu (x : GuT) : Nat := bulkSg x.s + bulkFm x.f
def bulkAck (x : AckT) : Nat := x.r.1.length + x.r.2.length + bulkFm x.f + (x.cs.map bulkC).sum
def bulkPa (x : PaT) : Nat := x.nm.length + (x.gs.map bulkGu).sum + (x.ks.map bulkAck).sum
theorem gW_bulk (x : GuT) : gW x ≤ 20 * bulkGu x := by
  have h1 := wtC_bulk x.s.c
  have h2 := great_bulk x.f.strip
  have h3 : gW x = wtC x.s.c + x.s.n + 20 * x.f.strip.great := rfl
  have h4 : bulkGu x = bulkC x.s.c + x.s.n + x.f.strip.bulk := rfl
  omega
theorem aW_bulk (x : AckT) : aW x ≤ 20 * bulkAck x := by
  have h1 := weightC_bulk x.cs
  have h2 := great_bulk x.f.strip
  have h3 : aW x = x.r.1.length + x.r.2.length + 20 * x.f.strip.great + weightC x.cs := rfl
  have h4 : bulkAck x = x.r.1.length + x.r.2.length + x.f.strip.bulk + (x.cs.map bulkC).sum := rfl
  omega
theorem sum_bulk {α : Type} (f g : α → Nat) (h : ∀ x, f x ≤ 20 * g x) : ∀ l : List α, (l.map f).sum ≤ 20 * (l.map g).sum
  | [] => by simp
  | x :: l => by have := sum_bulk f g h l; have := h x; rw [List.map_cons, List.map_cons, List.sum_cons, List.sum_cons]; omega
theorem paW_bulk (x : PaT) : paW x ≤ 20 * bulkPa x := by
  have h1 := sum_bulk gW bulkGu gW_bulk x.gs
  have h2 := sum_bulk aW bulkAck aW_bulk x.ks
  unfold paW bulkPa
  omega
section
variable {H : Type} {enc : TypeId × Value → H} {w : World} {base : Nat} {held : Bool}
set_option maxRecDepth 100000 in
theorem trod_gu {fuel : Nat} {cs : List Value} {x : DataW H × List MemPlace} (h : DataW.trod enc Try.prog w base (fun _ => true) held fuel 64 cs = some x) : ∃ y : GuT, cs = Flt.cells y ∧ bulkGu y ≤ Rows.uptoBulk x.1 ∧ GuOk w y := by
  have hS := Try.underlying64
  obtain ⟨xs, n, hx, hl, hlen, hf⟩ := trod_fields hS h
  rw [show Try.prog.cellsOf 64 = 15 from by kernel_rfl] at hl
  obtain ⟨y0, e0, h0⟩ := hf 0 _ rfl
  obtain ⟨y1, e1, h1⟩ := hf 1 _ rfl
  change DataW.trod enc Try.prog w base (fun _ => true) held n 62 ((cs.drop 0).take (Try.prog.cellsOf 62)) = some y0 at h0
  change DataW.trod enc Try.prog w base (fun _ => true) held n 26 ((cs.drop 10).take (Try.prog.cellsOf 26)) = some y1 at h1
  have k1 : Try.prog.cellsOf 62 = 10 := by kernel_rfl
  have k2 : Try.prog.cellsOf 26 = 5 := by kernel_rfl
  rw [k1] at h0
  rw [k2] at h1
  have hl2 : xs.length = 2 := hlen
  match xs, hl2 with
  | [z0, z1], _ =>
    simp at e0 e1
    subst e0 e1
    obtain ⟨s, q0, b0, o0⟩ := trod_sgn h0
    obtain ⟨f, q1, b1, o1⟩ := trod_fm _ h1
    refine ⟨⟨s, f⟩, ?_, ?_, o0, o1⟩
    · rw [List.drop_zero] at q0
      have e := (List.take_append_drop 10 cs).symm
      rw [q0] at e
      have e2 : (cs.drop 10).take 5 = cs.drop 10 := List.take_of_length_le (by rw [List.length_drop]; omega)
      rw [e2] at q1
      rw [q1] at e
      exact e
    · rw [hx]
      simp only [List.map_cons, List.map_nil, Rows.uptoBulk, Rows.uptoBulkAll, bulkGu]
      omega
set_option maxRecDepth 100000 in
theorem trod_ack {fuel : Nat} {cs : List Value} {x : DataW H × List MemPlace} (h : DataW.trod enc Try.prog w base (fun _ => true) held fuel 95 cs = some x) : ∃ y : AckT, cs = Flt.cells y ∧ bulkAck y ≤ Rows.uptoBulk x.1 ∧ AckOk w y := by
  have hS := Try.underlying95
  obtain ⟨xs, n, hx, hl, hlen, hf⟩ := trod_fields hS h
  rw [show Try.prog.cellsOf 95 = 8 from by kernel_rfl] at hl
  obtain ⟨y0, e0, h0⟩ := hf 0 _ rfl
  obtain ⟨y1, e1, h1⟩ := hf 1 _ rfl
  obtain ⟨y2, e2, h2⟩ := hf 2 _ rfl
  change DataW.trod enc Try.prog w base (fun _ => true) held n 23 ((cs.drop 0).take (Try.prog.cellsOf 23)) = some y0 at h0
  change DataW.trod enc Try.prog w base (fun _ => true) held n 26 ((cs.drop 2).take (Try.prog.cellsOf 26)) = some y1 at h1
  change DataW.trod enc Try.prog w base (fun _ => true) held n 93 ((cs.drop 7).take (Try.prog.cellsOf 93)) = some y2 at h2
  have k1 : Try.prog.cellsOf 23 = 2 := by kernel_rfl
  have k2 : Try.prog.cellsOf 26 = 5 := by kernel_rfl
  have k3 : Try.prog.cellsOf 93 = 1 := by kernel_rfl
  rw [k1] at h0
  rw [k2] at h1
  rw [k3] at h2
  have hl3 : xs.length = 3 := hlen
  match cs, hl, xs, hl3 with
  | [c0, c1, c2, c3, c4, c5, c6, c7], _, [z0, z1, z2], _ =>
    simp at e0 e1 e2
    subst e0 e1 e2
    simp only [List.drop_succ_cons, List.drop_zero, List.take_succ_cons, List.take_zero] at h0 h1 h2
    obtain ⟨r, q0, b0⟩ := trod_role Try.underlying23 (by kernel_rfl) rfl rfl (by kernel_rfl) (by kernel_rfl) Try.underlying9 Try.underlying9 h0
    obtain ⟨f, q1, b1, o1⟩ := trod_fm _ h1
    obtain ⟨ca, cn, cc, cs', q2, hw1, hw2, hw3, _⟩ := trod_flts (α := CredT) bulkC (fun _ => True) Try.underlying93 (by kernel_rfl) (fun _ _ _ h => trod_cred h) h2
    refine ⟨⟨r, f, ca, cn, cc, cs'⟩, ?_, ?_, o1, hw2, hw1⟩
    · have e : [c0, c1, c2, c3, c4, c5, c6, c7] = [c0, c1] ++ [c2, c3, c4, c5, c6] ++ [c7] := rfl
      rw [e, q0, q1, q2]
      rfl
    · rw [hx]
      simp only [List.map_cons, List.map_nil, Rows.uptoBulk, Rows.uptoBulkAll, bulkAck, b0]
      omega
  | [], hl, _, _ => simp at hl
set_option maxRecDepth 100000 in
theorem trod_pa {fuel : Nat} {cs : List Value} {x : DataW H × List MemPlace} (h : DataW.trod enc Try.prog w base (fun _ => true) held fuel 51 cs = some x) : ∃ y : PaT, cs = Flt.cells y ∧ bulkPa y ≤ Rows.uptoBulk x.1 ∧ PaOk w y := by
  have hS := Try.underlying51
  obtain ⟨xs, n, hx, hl, hlen, hf⟩ := trod_fields hS h
  rw [show Try.prog.cellsOf 51 = 3 from by kernel_rfl] at hl
  obtain ⟨y0, e0, h0⟩ := hf 0 _ rfl
  obtain ⟨y1, e1, h1⟩ := hf 1 _ rfl
  obtain ⟨y2, e2, h2⟩ := hf 2 _ rfl
  change DataW.trod enc Try.prog w base (fun _ => true) held n 9 ((cs.drop 0).take (Try.prog.cellsOf 9)) = some y0 at h0
  change DataW.trod enc Try.prog w base (fun _ => true) held n 48 ((cs.drop 1).take (Try.prog.cellsOf 48)) = some y1 at h1
  change DataW.trod enc Try.prog w base (fun _ => true) held n 49 ((cs.drop 2).take (Try.prog.cellsOf 49)) = some y2 at h2
  have k1 : Try.prog.cellsOf 9 = 1 := by kernel_rfl
  have k2 : Try.prog.cellsOf 48 = 1 := by kernel_rfl
  have k3 : Try.prog.cellsOf 49 = 1 := by kernel_rfl
  rw [k1] at h0
  rw [k2] at h1
  rw [k3] at h2
  have hl3 : xs.length = 3 := hlen
  match cs, hl, xs, hl3 with
  | [c0, c1, c2], _, [z0, z1, z2], _ =>
    simp at e0 e1 e2
    subst e0 e1 e2
    simp only [List.drop_succ_cons, List.drop_zero, List.take_succ_cons, List.take_zero] at h0 h1 h2
    obtain ⟨s0, q0, rfl, _⟩ := DataW.trod_string Try.underlying9 h0
    obtain ⟨ga, gn, gc, gs, q1, hg1, hg2, hg3, hg4⟩ := trod_flts (α := GuT) bulkGu (GuOk w) Try.underlying48 (by kernel_rfl) (fun _ _ _ h => trod_gu h) h1
    obtain ⟨aa, an, ac, ks, q2, ha1, ha2, ha3, ha4⟩ := trod_flts (α := AckT) bulkAck (AckOk w) Try.underlying49 (by kernel_rfl) (fun _ _ _ h => trod_ack h) h2
    simp at q0 q1 q2
    obtain ⟨⟨s0⟩⟩ := s0
    refine ⟨⟨s0, ga, gn, gc, gs, aa, an, ac, ks⟩, ?_, ?_, ⟨hg2, hg1, hg4⟩, ⟨ha2, ha1, ha4⟩⟩
    · rw [q0, q1, q2]; rfl
    · rw [hx]
      simp only [List.map_cons, List.map_nil, Rows.uptoBulk, Rows.uptoBulkAll, bulkPa]
      simp [Rows.uptoBulk]
      omega
  | [], hl, _, _ => simp at hl
end
theorem fmV_cells' (x : Fm) : Value.agg (Flt.cells x).toArray = fmV x := by cases x; rfl
theorem capsCount_law (p q : PaT) (f : Fm) (W : World) (hp : PaOk W p) (hq : PaOk W q) (hf : FmOk W f) (hs : paW p + paW q ≤ 2000000000) (hgf : f.strip.great ≤ 2000000000) :
    Calls Try.prog 6 #[.agg (Flt.cells p).toArray, .agg (Flt.cells q).toArray, .agg (Flt.cells f).toArray] W fun e w' => e = .returned (.bool true) ∧ Ext W w' := by
  rw [fmV_cells']
  exact capsCount_all p q f W hp hq hf hs hgf
end Go.Proofs.Ythjaopojlhdjpaa
