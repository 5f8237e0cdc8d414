/- Sets of roles. -/
import Derived.Test.YthjaopojlhdjpaaSortK
import Derived.Test.YthjaopojlhdjpaaSort
import Derived.Lib.BytesEntry
import Derived.Laws.Externs
import Derived.ProofKit
import Derived.OpenShut
import Derived.Test.YthjaopojlhdjpaaRows
import Derived.Deep.Strs
import Derived.Deep.Slices
import Derived.ChangeSame
import Derived.ChangeArms
namespace Go.Proofs.Ythjaopojlhdjpaa
set_option linter.unusedSimpArgs false
set_option linter.unusedVariables false
open Go Go.RowKit Go.Sort Go.Lib
theorem roleCmp_lt (x y : Role) : ltOf roleCmp x y = roleLt x y := by
  unfold ltOf roleCmp
  cases h : roleLt x y with
  | true => simp
  | false => cases h2 : roleLt y x <;> simp
theorem roleSwo : SWO (ltOf roleCmp) where
  irrefl x := by rw [roleCmp_lt]; exact (roleOrd (fun _ => true)).irr x
  trans x y z h1 h2 := by rw [roleCmp_lt] at *; exact (roleOrd (fun _ => true)).tr x y z h1 h2
  ntrans x y z h1 h2 := by
    rw [roleCmp_lt] at *
    have o := roleOrd (fun _ => true)
    cases h : roleLt x z with
    | false => rfl
    | true =>
      rcases o.tri x y rfl rfl with q | q | q
      · rw [q] at h1; cases h1
      · rw [q] at h; rw [h] at h2; cases h2
      · have := o.tr _ _ _ q h; rw [this] at h2; cases h2
theorem roleTot (x y : Role) (h1 : ltOf roleCmp x y = false) (h2 : ltOf roleCmp y x = false) : x = y := by
  rw [roleCmp_lt] at h1 h2
  rcases (roleOrd (fun _ => true)).tri x y rfl rfl with q | q | q
  · rw [q] at h1; cases h1
  · exact q
  · rw [q] at h2; cases h2
def roleSort (xs : List Role) : List Role := xs.mergeSort fun x y => !(ltOf roleCmp) y x
theorem roleSort_mem (xs : List Role) (x : Role) : x ∈ roleSort xs ↔ x ∈ xs := by unfold roleSort; exact List.mem_mergeSort
theorem roleSort_pw (xs : List Role) : (roleSort xs).Pairwise (fun x y => roleLt y x = false) := by
  have o := roleOrd (fun _ => true)
  have h1 := List.pairwise_mergeSort (le := fun x y : Role => !(ltOf roleCmp) y x) (fun a b c h1 h2 => by
    simp only [Bool.not_eq_true'] at *; exact roleSwo.ntrans _ _ _ h2 h1) (fun a b => by
    cases h : ltOf roleCmp b a with
    | false => rfl
    | true => cases h2 : ltOf roleCmp a b with
      | false => rfl
      | true => have := roleSwo.trans _ _ _ h h2; rw [roleSwo.irrefl] at this; cases this) xs
  refine h1.imp fun {a b} h => ?_
  simpa [roleCmp_lt] using h
/-- The set of the right roles of a list. -/
@[irreducible] def roleSet (l : List Role) : List Role := Lib.compact (roleSort (l.filter roleR))
theorem roleSet_eq (l : List Role) : roleSet l = Lib.compact (roleSort (l.filter roleR)) := by unfold roleSet; rfl
theorem roleSet_set (l : List Role) : SSet roleLt roleR l (roleSet l) := by
  rw [roleSet_eq]
  exact compact_set (roleOrd roleR) _ l (fun x => by rw [roleSort_mem, List.mem_filter]) (roleSort_pw _)
theorem roleSet_len (l : List Role) : (roleSet l).length ≤ l.length := (roleSet_set l).len (roleOrd roleR).irr
theorem role55 (args : Array Value) (w : World) : (callFunc 98 args).run Try.prog w = .ok (.enter 98 args) w := enters_of Try.func98 (by kernel_rfl) rfl args w
section
variable {fr al : Nat → Prop} {w0 w : World} {L : List It}
theorem sortRole_c (st : Own fr al w0 L w) (i : Nat) {n c : Nat} {a : Option Addr} {xs : List Role} (hi : L[i]? = some (rowI 23 2 (.slice a n c) n (cellsL xs))) (hn : n ≤ 2000000) :
    Calls Try.prog 97 #[.slice a n c, .func (.func 98) #[] #[]] w fun e w' => e = .returned (.tuple #[]) ∧ Own fr al w0 (L.set i (rowI 23 2 (.slice a n c) n (cellsL (roleSort xs)))) w' := by
  have hrow := st.row hi
  have hnx := roleLen hrow
  rcases Nat.eq_zero_or_pos n with h0 | h0
  · subst h0
    have hx : xs = [] := List.eq_nil_of_length_eq_zero hnx.symm
    subst hx
    refine (AnyF.slices_SortFunc_none Try.sortRole a c _ w).mono ?_
    rintro e w' ⟨rfl, rfl⟩
    refine ⟨rfl, ?_⟩
    have : L.set i (rowI 23 2 (.slice a 0 c) 0 (cellsL (roleSort []))) = L := by
      apply List.ext_getElem?
      intro q
      rw [List.getElem?_set]
      split
      · rename_i h; subst h; rw [hi, if_pos (get_lt hi)]; unfold roleSort; rw [List.mergeSort_nil]
      · rfl
    rw [this]; exact st
  · obtain ⟨g, cap', hv, hcap, _⟩ := st.rowAt hi h0
    injection hv with hv1 hv2 hv3
    subst hv1 hv3
    have hH := st.holdsK (α := Role) (xs := xs) hi
    have hcon := AnyQ.slices_SortFunc_total Try.sortRole 2 Try.isAgg23 Try.sizeOf23 (Flt.cells : Role → List Value) (fun x => Flt.len x) (fun x v hv => Flt.one x v hv) roleCmp roleSwo 98 #[] g 0 c xs.toArray w role55
      (fun m os dk _ x y => (roleCompare_any x y _).mono fun e w' h => ⟨h.1, h.2.grow⟩) hH.1 hH.2 (by simp; omega) roleTot
    change Calls Try.prog 97 _ _ _ at hcon
    rw [show xs.toArray.size = n by simp [hnx]] at hcon
    refine hcon.mono ?_
    rintro e w' ⟨rfl, m, os, rfl⟩
    exact ⟨rfl, st.sortedK (α := Role) hi (by unfold roleSort; simp) m os⟩
end
set_option maxRecDepth 100000 in
set_option maxHeartbeats 1000000 in
theorem roleSet_any (a : Option Addr) (n c : Nat) (l : List Role) (W : World) (h : Fl W a n l) (hn : n ≤ 2000000) (hs : ∀ x ∈ l, x.1.length ≤ 100000 ∧ x.2.length ≤ 100000) :
    Calls Try.prog 58 #[.slice a n c] W fun e w' => ∃ va vc, e = .returned (.slice va (roleSet l).length vc) ∧ FreshI W w' (rowI 23 2 (.slice va (roleSet l).length vc) (roleSet l).length (cellsL (roleSet l))) := by
  have H := Lib.hid (And.intro h hs)
  have st := Own.startOld W
  clear h hs
  (try simp only [nsl, Value.cells, unB] at st)
  (try clear hc); have hc := st.facts; (try simp only [nfl, nft, Nat.reduceAdd] at hc)
  go_enter Try.func58, Try.ntmps58
  go_wp2_with fail
  refine (roleClone_any a n c l _ (st.oldFl (i := 0) get0 H.out.1) hn).mono ?_
  rintro en w ⟨va, vc, rfl, hnew⟩
  replace st := st.fresh hnew
  clear hnew
  (try simp only [nsl, Value.cells, unB] at st)
  (try clear hc); have hc := st.facts; (try simp only [nfl, nft, Nat.reduceAdd] at hc)
  go_wp2_with fail
  obtain ⟨fr', al', st', back⟩ := st.sub [1] (by decide) (by simp)
  (try simp only [nsl, Value.cells, unB] at st')
  refine (deleteFuncRole_c st' hn 95 #[] (fun x => !roleR x) (fun _ _ => by kernel_rfl) (fun x hx w => roleSet1_any x w (H.out.2 x hx).1 (H.out.2 x hx).2)).mono ?_
  clear st'
  rintro en w ⟨m, rfl, st'⟩
  replace st := back _ _ (by simp) st'
  clear back st'
  (try simp only [nsl, Value.cells, unB] at st)
  (try clear hc); have hc := st.facts; (try simp only [nfl, nft, Nat.reduceAdd] at hc)
  simp only [Bool.not_not] at st
  have hm : m ≤ n := by
    have h1 := roleLen (st.row (i := 1) get1)
    have h2 := List.length_filter_le (fun x => roleR x) l
    have h3 := H.out.1.1
    omega
  go_wp2_with fail
  refine (sortRole_c st 1 get1 (by omega)).mono ?_
  rintro en w ⟨rfl, st'⟩
  clear st
  have st := st'
  clear st'
  (try simp only [nsl, Value.cells, unB] at st)
  (try clear hc); have hc := st.facts; (try simp only [nfl, nft, Nat.reduceAdd] at hc)
  go_wp2_with fail
  obtain ⟨fr', al', st', back⟩ := st.sub [1] (by decide) (by simp)
  (try simp only [nsl, Value.cells, unB] at st')
  refine (compactRole_c st' (by omega)).mono ?_
  clear st'
  rintro en w ⟨m2, rfl, st'⟩
  replace st := back _ _ (by simp) st'
  clear back st'
  (try simp only [nsl, Value.cells, unB] at st)
  (try clear hc); have hc := st.facts; (try simp only [nfl, nft, Nat.reduceAdd] at hc)
  rw [← roleSet_eq l] at st
  have hm2 := roleLen (st.row (i := 1) get1)
  subst hm2
  have hfin := st.toFresh (i := 1) get1
  have HF := Lib.hid hfin
  clear hfin st
  go_wp2_with fail
  go_ret
  exact ⟨va, vc, rfl, HF.out⟩
end Go.Proofs.Ythjaopojlhdjpaa

namespace Go.Proofs.Ythjaopojlhdjpaa
set_option linter.unusedSimpArgs false
set_option linter.unusedVariables false
open Go Go.RowKit
end Go.Proofs.Ythjaopojlhdjpaa

namespace Go.Proofs.Ythjaopojlhdjpaa
set_option linter.unusedSimpArgs false
set_option linter.unusedVariables false
open Go Go.RowKit
@[go_sem high] theorem neqNilFunc (F : FuncId) (cs : Array Value) (w : World) : (binOp .neq 39 (.func (.func F) #[] cs) .nilFunc).run Try.prog w = .ok (.bool true) w := by
  have h : ∀ d : Nat, (Op.equalIn (d + 1) 39 (.func (.func F) #[] cs) .nilFunc).run Try.prog w = .ok false w := fun d => by
    simp [Op.equalIn, run_underlying Try.underlying39]
  simp only [binOp]
  simp [Op.equal, Op.maxDepth, h 9999]
theorem atomsL_nodes (l : List Fo) : (atomsL l).length ≤ nodesL l := by
  have := atoms_nodes (.mk 0 0 ([], []) l)
  rw [Fo.atoms, Fo.nodes, if_neg (by decide)] at this
  induction l with
  | nil => simp [atomsL]
  | cons x l ih =>
    have h1 := atoms_nodes x
    have h2 := ih (by
      have := atoms_nodes (.mk 0 0 ([], []) l)
      rw [Fo.atoms, Fo.nodes, if_neg (by decide)] at this
      exact this)
    rw [atomsL, nodesL, List.length_append]
    omega
/-- A slice of roles, laid anew. -/
def RolesAre (W : World) (l : List Role) (e : Ending) (w' : World) : Prop := ∃ va n vc, e = .returned (.slice va n vc) ∧ Own (fun _ => False) (fun _ => False) W [flI va n l] w'
theorem roleRes {W w : World} {va : Option Addr} {n vc : Nat} {l : List Role} (st : Own (fun _ => False) (fun _ => False) W [flI va n l] w) : RolesAre W l (.returned (.slice va n vc)) w := ⟨va, n, vc, rfl, st⟩
set_option maxRecDepth 100000 in
set_option maxHeartbeats 2000000 in
theorem fmRoles_f (f : Fm) : ∀ (W : World), FmOk W f → f.strip.nodes ≤ 1000000000 →
    Calls Try.prog 92 #[fmV f] W (RolesAre W f.strip.atoms) := by
  induction f using Fm.ind
  rename_i op k r a n c kids ih
  intro W hok hs
  obtain ⟨o, d⟩ := r
  rw [strip_mk] at *
  rw [Fo.nodes] at hs
  rw [Fo.atoms]
  have st := Own.start (fun _ => False) (fun _ => False) W
  unfold fmV S
  simp only
  by_cases o1 : op = 1
  · subst o1
    rw [if_pos rfl]
    clear hok ih hs
    (try simp only [nsl, Value.cells, unB] at st)
    (try clear hc); have hc := st.facts; (try simp only [nfl, nft, Nat.reduceAdd] at hc)
    go_enter Try.func92, Try.ntmps92
    go_wp2_with ((first
          | ((with_reducible refine wl_box ?_ (fun K hK => ?_)); rfl; refine owp_box (o := ⟨some 1, _, _, _, _, _⟩) rfl st ?_; apply Exists.intro; refine ⟨?_, ?_⟩; (focus (go_simp; try rfl)); (clear st; intro b1 w hb st; clear hb))
          | ((with_reducible refine wl_buildSlice ?_ (fun K hK => ?_)); rfl; refine owp_buildSlice (o := ⟨some 11, _, _, _, _, _⟩) rfl st ?_; apply Exists.intro; apply Exists.intro; apply Exists.intro; apply Exists.intro; refine ⟨?_, ?_⟩; (focus (go_simp; (first | done | exact ⟨⟨rfl, rfl⟩, rfl⟩ | rfl))); (clear st; intro b11 w hb st; clear hb))
          | ((with_reducible refine wl_alloc ?_ (fun K hK => ?_)); rfl; refine owp_alloc (o := ⟨some 5, _, _, _, _, _⟩) rfl st ?_; apply Exists.intro; apply Exists.intro; refine ⟨?_, ?_⟩; (focus (first | (go_simp; done) | (go_simp; rfl))); (clear st; intro b5 w hb st; clear hb))
          | ((with_reducible refine wl_store ?_ (fun K hK => ?_)); rfl; refine owp_store rfl st ?_; apply Exists.intro; apply Exists.intro; refine ⟨?_, ?_, ?_⟩; (focus (go_simp; try rfl)); (focus (go_simp; try rfl)); (first | (with_reducible refine ⟨0, _, _, _, _, get0, rfl, rfl, ?_, ?_, ?_, ?_⟩) | (with_reducible refine ⟨1, _, _, _, _, get1, rfl, rfl, ?_, ?_, ?_, ?_⟩) | (with_reducible refine ⟨2, _, _, _, _, get2, rfl, rfl, ?_, ?_, ?_, ?_⟩) | (with_reducible refine ⟨3, _, _, _, _, get3, rfl, rfl, ?_, ?_, ?_, ?_⟩) | (with_reducible refine ⟨4, _, _, _, _, get4, rfl, rfl, ?_, ?_, ?_, ?_⟩)); (kernel_rfl); (simp [Value.cells]); (rfl); (clear st; intro w st))); (try simp only [nsl, Value.cells, unB] at st); (try clear hc); have hc := st.facts; (try simp only [nfl, nft, Nat.reduceAdd] at hc))
    go_ret
    have st2 := st.keep [1] (by decide) (by simp)
    simp only [pick, List.map_cons, List.map_nil, List.getElem?_cons_zero, List.getElem?_cons_succ, Option.getD_some] at st2
    have st' := st2.blkToFl (i := 0) (n := 1) ([(o, d)] : List Role) get0 rfl rfl
    exact roleRes st' 
  · rw [if_neg o1]
    have hob : (op == 1) = false := by simpa using o1
    have HOK := Lib.hid hok
    have HI := Lib.hid ih
    have HN : Hid (n = kids.length) := Lib.hid hok.fl.1
    have hn : n ≤ 1000000000 := by have := nodesL_len (kids.map Fm.strip); rw [List.length_map] at this; have := hok.fl.1; omega
    have HS := Lib.hid hs
    clear hok ih hs o1
    (try simp only [nsl, Value.cells, unB] at st)
    (try clear hc); have hc := st.facts; (try simp only [nfl, nft, Nat.reduceAdd] at hc)
    go_enter Try.func92, Try.ntmps92
    go_wp2_with ((first
          | ((with_reducible refine wl_box ?_ (fun K hK => ?_)); rfl; refine owp_box (o := ⟨some 1, _, _, _, _, _⟩) rfl st ?_; apply Exists.intro; refine ⟨?_, ?_⟩; (focus (go_simp; try rfl)); (clear st; intro b1 w hb st; clear hb))
          | ((with_reducible refine wl_buildSlice ?_ (fun K hK => ?_)); rfl; refine owp_buildSlice (o := ⟨some 11, _, _, _, _, _⟩) rfl st ?_; apply Exists.intro; apply Exists.intro; apply Exists.intro; apply Exists.intro; refine ⟨?_, ?_⟩; (focus (go_simp; (first | done | exact ⟨⟨rfl, rfl⟩, rfl⟩ | rfl))); (clear st; intro b11 w hb st; clear hb))
          | ((with_reducible refine wl_alloc ?_ (fun K hK => ?_)); rfl; refine owp_alloc (o := ⟨some 5, _, _, _, _, _⟩) rfl st ?_; apply Exists.intro; apply Exists.intro; refine ⟨?_, ?_⟩; (focus (first | (go_simp; done) | (go_simp; rfl))); (clear st; intro b5 w hb st; clear hb))
          | ((with_reducible refine wl_store ?_ (fun K hK => ?_)); rfl; refine owp_store rfl st ?_; apply Exists.intro; apply Exists.intro; refine ⟨?_, ?_, ?_⟩; (focus (go_simp; try rfl)); (focus (go_simp; try rfl)); (first | (with_reducible refine ⟨0, _, _, _, _, get0, rfl, rfl, ?_, ?_, ?_, ?_⟩) | (with_reducible refine ⟨1, _, _, _, _, get1, rfl, rfl, ?_, ?_, ?_, ?_⟩) | (with_reducible refine ⟨2, _, _, _, _, get2, rfl, rfl, ?_, ?_, ?_, ?_⟩) | (with_reducible refine ⟨3, _, _, _, _, get3, rfl, rfl, ?_, ?_, ?_, ?_⟩) | (with_reducible refine ⟨4, _, _, _, _, get4, rfl, rfl, ?_, ?_, ?_, ?_⟩)); (kernel_rfl); (simp [Value.cells]); (rfl); (clear st; intro w st))); (try simp only [nsl, Value.cells, unB] at st); (try clear hc); have hc := st.facts; (try simp only [nfl, nft, Nat.reduceAdd] at hc))
    have st9 := (st.keep [0] (by decide) (by simp)).row_nil 23 2
    clear st
    have st := st9
    clear st9
    simp only [pick, List.map_cons, List.map_nil, List.getElem?_cons_zero, List.getElem?_cons_succ, Option.getD_some, List.cons_append, List.nil_append] at st
    go_loopg [3, 15] n (fun q ov i wr => ∃ (j r : Nat) (xs : List Role), j ≤ n ∧ q = n - j ∧ i = .int .i64 (j : Int) ∧ r ≤ 1000000000 ∧ Hid (xs = atomsL ((kids.take j).map Fm.strip)) ∧ Hid (r = xs.length) ∧ Own (fun _ => False) (fun _ => False) W [blkI b1 [.int .i64 op, .int .i64 k, .string ⟨o.toArray⟩, .string ⟨d.toArray⟩, .slice a n c], rowI 23 2 ov r (cellsL xs)] wr)
    case atStart => exact ⟨0, 0, [], by omega, by omega, rfl, by omega, Lib.hid (by simp [atomsL]), Lib.hid rfl, by simpa [cellsL] using st⟩
    case round =>
      obtain ⟨j, r, xs, hj, rfl, rfl, hr, HX, HR, st'⟩ := hrel
      clear st hc
      have st := st'
      clear st'
      obtain ⟨oa, oc, rfl⟩ := own_slice (st.row (i := 1) get1)
      by_cases hjn : j < n
      · obtain ⟨b, off, ha, hcell⟩ := (HOK.out.ext st.ext0).fl.fm (by omega)
        have hjl : j < kids.length := by have := HN.out; omega
        have hsn := map_snoc_strip kids j hjl
        have hle := nodesL_take (kids.map Fm.strip) (j + 1)
        rw [← List.map_take, hsn, nodesL_snoc] at hle
        have hsv := HS.out
        have hok := HOK.out.kids _ (List.getElem_mem hjl)
        have hih := HI.out _ (List.getElem_mem hjl)
        have hgt := List.getElem?_eq_getElem hjl
        generalize kids[j] = x at *
        have HC := Lib.hid (fun W' (hx : Ext W W') => hih W' (hok.ext hx) (by omega))
        obtain ⟨sx, hsx⟩ : ∃ v, x.strip = v := ⟨_, rfl⟩
        rw [hsx] at HC hsn hle
        have hax := atoms_nodes sx
        have hal := atomsL_nodes ((kids.take j).map Fm.strip)
        have HAX : Hid (sx.atoms.length ≤ 1000000000 - r) := Lib.hid (by have := HR.out; rw [HX.out] at this; omega)
        have HX2 : Hid (xs ++ sx.atoms = atomsL ((kids.take (j + 1)).map Fm.strip)) := Lib.hid (by rw [hsn, atomsL_snoc, HX.out])
        generalize sx.atoms = ys at *
        clear hsx hsn hle hsv hih hjl hax hal hok
        obtain ⟨op', k', ⟨o', d'⟩, a', n', c', kids'⟩ := x
        obtain ⟨r0, r1, r2, r3, r4⟩ := hcell j op' k' (o', d') a' n' c' kids' hgt
        unfold fmV S at HC
        simp only at HC
        clear hcell hgt
        subst ha
        unfold S at r2 r3
        simp only at r2 r3
        (try simp only [nsl, Value.cells, unB] at st)
        (try clear hc); have hc := st.facts; (try simp only [nfl, nft, Nat.reduceAdd] at hc)
        go_wp2_with ((first
              | ((with_reducible refine wl_box ?_ (fun K hK => ?_)); rfl; refine owp_box (o := ⟨some 1, _, _, _, _, _⟩) rfl st ?_; apply Exists.intro; refine ⟨?_, ?_⟩; (focus (go_simp; try rfl)); (clear st; intro b1 w hb st; clear hb))
              | ((with_reducible refine wl_buildSlice ?_ (fun K hK => ?_)); rfl; refine owp_buildSlice (o := ⟨some 11, _, _, _, _, _⟩) rfl st ?_; apply Exists.intro; apply Exists.intro; apply Exists.intro; apply Exists.intro; refine ⟨?_, ?_⟩; (focus (go_simp; (first | done | exact ⟨⟨rfl, rfl⟩, rfl⟩ | rfl))); (clear st; intro b11 w hb st; clear hb))
              | ((with_reducible refine wl_alloc ?_ (fun K hK => ?_)); rfl; refine owp_alloc (o := ⟨some 5, _, _, _, _, _⟩) rfl st ?_; apply Exists.intro; apply Exists.intro; refine ⟨?_, ?_⟩; (focus (first | (go_simp; done) | (go_simp; rfl))); (clear st; intro b5 w hb st; clear hb))
              | ((with_reducible refine wl_store ?_ (fun K hK => ?_)); rfl; refine owp_store rfl st ?_; apply Exists.intro; apply Exists.intro; refine ⟨?_, ?_, ?_⟩; (focus (go_simp; try rfl)); (focus (go_simp; try rfl)); (first | (with_reducible refine ⟨0, _, _, _, _, get0, rfl, rfl, ?_, ?_, ?_, ?_⟩) | (with_reducible refine ⟨1, _, _, _, _, get1, rfl, rfl, ?_, ?_, ?_, ?_⟩) | (with_reducible refine ⟨2, _, _, _, _, get2, rfl, rfl, ?_, ?_, ?_, ?_⟩) | (with_reducible refine ⟨3, _, _, _, _, get3, rfl, rfl, ?_, ?_, ?_, ?_⟩) | (with_reducible refine ⟨4, _, _, _, _, get4, rfl, rfl, ?_, ?_, ?_, ?_⟩)); (kernel_rfl); (simp [Value.cells]); (rfl); (clear st; intro w st))); (try simp only [nsl, Value.cells, unB] at st); (try clear hc); have hc := st.facts; (try simp only [nfl, nft, Nat.reduceAdd] at hc))
        clear r0 r1 r2 r3 r4
        refine (HC.out _ st.ext0).mono ?_
        rintro en w ⟨va, m, vc, rfl, h2⟩
        have hm := (h2.flAt (i := 0) get0).1
        have hmb : m ≤ 1000000000 - r := by rw [hm]; exact HAX.out
        have HM := Lib.hid hm
        clear hm
        replace st := st.join h2
        clear h2
        simp only [List.cons_append, List.nil_append] at st
        (try simp only [nsl, Value.cells, unB] at st)
        (try clear hc); have hc := st.facts; (try simp only [nfl, nft, Nat.reduceAdd] at hc)
        go_wp2_with (first
            | ((with_reducible refine wl_append ?_ (fun K hK => ?_)); (rfl); (obtain ⟨inf, hinf, hz0, hz1, hz2⟩ := roleInfo); (refine owp_append rfl st 1 get1 Try.underlying37 hinf hz0 hz1 hz2 rfl (by decide) rfl rfl ((st.flAt (i := 3) get3).flat) (by first | exact cellsL_all _ | simp [Value.oneCell']) (by simp only [maxLen]; omega) (by omega) ?_); (clear hinf hz0 hz1 hz2 inf); (clear st; intro v' w st); (obtain ⟨va', vc', rfl⟩ := own_slice (st.row (i := 1) get1)); (try simp only [nsl, Value.cells, unB] at st); (try simp only [Nat.zero_add] at st); (try clear hc); have hc := st.facts; (try simp only [nfl, nft, Nat.reduceAdd] at hc))
            | ((first
              | ((with_reducible refine wl_box ?_ (fun K hK => ?_)); rfl; refine owp_box (o := ⟨some 1, _, _, _, _, _⟩) rfl st ?_; apply Exists.intro; refine ⟨?_, ?_⟩; (focus (go_simp; try rfl)); (clear st; intro b1 w hb st; clear hb))
              | ((with_reducible refine wl_buildSlice ?_ (fun K hK => ?_)); rfl; refine owp_buildSlice (o := ⟨some 11, _, _, _, _, _⟩) rfl st ?_; apply Exists.intro; apply Exists.intro; apply Exists.intro; apply Exists.intro; refine ⟨?_, ?_⟩; (focus (go_simp; (first | done | exact ⟨⟨rfl, rfl⟩, rfl⟩ | rfl))); (clear st; intro b11 w hb st; clear hb))
              | ((with_reducible refine wl_alloc ?_ (fun K hK => ?_)); rfl; refine owp_alloc (o := ⟨some 5, _, _, _, _, _⟩) rfl st ?_; apply Exists.intro; apply Exists.intro; refine ⟨?_, ?_⟩; (focus (first | (go_simp; done) | (go_simp; rfl))); (clear st; intro b5 w hb st; clear hb))
              | ((with_reducible refine wl_store ?_ (fun K hK => ?_)); rfl; refine owp_store rfl st ?_; apply Exists.intro; apply Exists.intro; refine ⟨?_, ?_, ?_⟩; (focus (go_simp; try rfl)); (focus (go_simp; try rfl)); (first | (with_reducible refine ⟨0, _, _, _, _, get0, rfl, rfl, ?_, ?_, ?_, ?_⟩) | (with_reducible refine ⟨1, _, _, _, _, get1, rfl, rfl, ?_, ?_, ?_, ?_⟩) | (with_reducible refine ⟨2, _, _, _, _, get2, rfl, rfl, ?_, ?_, ?_, ?_⟩) | (with_reducible refine ⟨3, _, _, _, _, get3, rfl, rfl, ?_, ?_, ?_, ?_⟩) | (with_reducible refine ⟨4, _, _, _, _, get4, rfl, rfl, ?_, ?_, ?_, ?_⟩)); (kernel_rfl); (simp [Value.cells]); (rfl); (clear st; intro w st))); (try simp only [nsl, Value.cells, unB] at st); (try clear hc); have hc := st.facts; (try simp only [nfl, nft, Nat.reduceAdd] at hc)))
        have st' := st.keep [0, 1] (by decide) (by simp)
        have HR2 : Hid (r + m = (xs ++ ys).length) := Lib.hid (by rw [List.length_append, HR.out, HM.out])
        go_roundg (n - (j + 1))
        case measure => omega
        case rel => exact ⟨j + 1, r + m, xs ++ ys, by omega, by omega, by go_num, by omega, HX2, HR2, by rw [cellsL_append]; simpa [pick] using st'⟩
      · obtain rfl : n = j := by omega
        have HE : Hid (xs = atomsL (kids.map Fm.strip)) := Lib.hid (by rw [HX.out, List.take_of_length_le (by have := HN.out; omega)])
        (try simp only [nsl, Value.cells, unB] at st)
        (try clear hc); have hc := st.facts; (try simp only [nfl, nft, Nat.reduceAdd] at hc)
        go_wp2_with fail
        go_ret
        have st2 := st.keep [1] (by decide) (by simp)
        simp only [pick, List.map_cons, List.map_nil, List.getElem?_cons_zero, List.getElem?_cons_succ, Option.getD_some] at st2
        have st' := st2.rowToFl (α := Role) (i := 0) get0
        rw [← HE.out]
        exact roleRes st' 
set_option maxRecDepth 100000 in
set_option maxHeartbeats 1000000 in
theorem fmAtoms_f (f : Fm) (W : World) (h : FmOk W f) (hs : f.strip.nodes ≤ 1000000) (hl : FoL 100000 f.strip) :
    Calls Try.prog 57 #[fmV f] W fun e w' => ∃ va vc, e = .returned (.slice va (roleSet f.strip.atoms).length vc) ∧ Own (fun _ => False) (fun _ => False) W [rowI 23 2 (.slice va (roleSet f.strip.atoms).length vc) (roleSet f.strip.atoms).length (cellsL (roleSet f.strip.atoms))] w' := by
  have HC := Lib.hid (fun W' (hx : Ext W W') => fmRoles_f f W' (h.ext hx) (by omega))
  have hn := atoms_nodes f.strip
  have HS := Lib.hid (fun a n c W (hf : Fl W a n f.strip.atoms) => roleSet_any a n c f.strip.atoms W hf (by have := hf.1; omega) (fun x hx => hl.atoms x hx))
  generalize f.strip.atoms = xs at *
  generalize roleSet xs = ys at *
  obtain ⟨m, hm⟩ : ∃ m, ys.length = m := ⟨_, rfl⟩
  rw [hm] at HS ⊢
  clear hm hn hl hs
  obtain ⟨op, k, ⟨o, d⟩, a, n, c, kids⟩ := f
  clear h
  have st := Own.start (fun _ => False) (fun _ => False) W
  unfold fmV S at HC ⊢
  simp only at HC ⊢
  (try simp only [nsl, Value.cells, unB] at st)
  (try clear hc); have hc := st.facts; (try simp only [nfl, nft, Nat.reduceAdd] at hc)
  go_enter Try.func57, Try.ntmps57
  go_wp2_with ((((with_reducible refine wl_box ?_ (fun K hK => ?_)); rfl; refine owp_box (o := ⟨some 1, _, _, _, _, _⟩) rfl st ?_; apply Exists.intro; refine ⟨?_, ?_⟩; (focus (go_simp; try rfl)); (clear st; intro b1 w hb st; clear hb))); (try simp only [nsl, Value.cells, unB] at st); (try clear hc); have hc := st.facts; (try simp only [nfl, nft, Nat.reduceAdd] at hc))
  refine (HC.out _ st.ext0).mono ?_
  rintro en w ⟨va, q, vc, rfl, h2⟩
  replace st := st.join h2
  clear h2
  simp only [List.cons_append, List.nil_append] at st
  (try simp only [nsl, Value.cells, unB] at st)
  (try clear hc); have hc := st.facts; (try simp only [nfl, nft, Nat.reduceAdd] at hc)
  go_wp2_with ((((with_reducible refine wl_box ?_ (fun K hK => ?_)); rfl; refine owp_box (o := ⟨some 1, _, _, _, _, _⟩) rfl st ?_; apply Exists.intro; refine ⟨?_, ?_⟩; (focus (go_simp; try rfl)); (clear st; intro b1 w hb st; clear hb))); (try simp only [nsl, Value.cells, unB] at st); (try clear hc); have hc := st.facts; (try simp only [nfl, nft, Nat.reduceAdd] at hc))
  refine (HS.out _ _ _ _ (st.flAt (i := 1) get1)).mono ?_
  rintro en w ⟨va2, vc2, rfl, h2⟩
  replace st := st.fresh h2
  clear h2
  (try simp only [nsl, Value.cells, unB] at st)
  (try clear hc); have hc := st.facts; (try simp only [nfl, nft, Nat.reduceAdd] at hc)
  go_wp2_with ((((with_reducible refine wl_box ?_ (fun K hK => ?_)); rfl; refine owp_box (o := ⟨some 1, _, _, _, _, _⟩) rfl st ?_; apply Exists.intro; refine ⟨?_, ?_⟩; (focus (go_simp; try rfl)); (clear st; intro b1 w hb st; clear hb))); (try simp only [nsl, Value.cells, unB] at st); (try clear hc); have hc := st.facts; (try simp only [nfl, nft, Nat.reduceAdd] at hc))
  go_ret
  have st' := st.keep [2] (by decide) (by simp)
  exact ⟨_, _, rfl, by simpa [pick] using st'⟩
end Go.Proofs.Ythjaopojlhdjpaa

namespace Go.Proofs.Ythjaopojlhdjpaa
set_option linter.unusedSimpArgs false
set_option linter.unusedVariables false
open Go Go.RowKit
structure CredT where
  k : Int
  h : Role
  w : List UInt8
  b : Role
  c : Role
  e : List UInt8
deriving DecidableEq, Inhabited
def cC (x : CredT) : List Value := [.int .i64 x.k, S x.h.1, S x.h.2, S x.w, S x.b.1, S x.b.2, S x.c.1, S x.c.2, S x.e]
instance fltCred : Flt CredT := ⟨9, cC, fun _ => rfl, by decide, fun x u hu => by simp [cC] at hu; rcases hu with rfl | rfl | rfl | rfl | rfl | rfl | rfl | rfl | rfl <;> rfl⟩
end Go.Proofs.Ythjaopojlhdjpaa

namespace Go.Proofs.Ythjaopojlhdjpaa
set_option linter.unusedSimpArgs false
set_option linter.unusedVariables false
open Go Go.RowKit
/-- A credential and its tag. -/
structure SgnT where
  c : CredT
  a : Option Addr
  n : Nat
  m : Nat
  xs : List UInt8
deriving Inhabited
def sgC (x : SgnT) : List Value := [.int .i64 x.c.k, S x.c.h.1, S x.c.h.2, S x.c.w, S x.c.b.1, S x.c.b.2, S x.c.c.1, S x.c.c.2, S x.c.e, .slice x.a x.n x.m]
instance fltSgn : Flt SgnT := ⟨10, sgC, fun _ => rfl, by decide, fun x u hu => by simp [sgC] at hu; rcases hu with rfl | rfl | rfl | rfl | rfl | rfl | rfl | rfl | rfl | rfl <;> rfl⟩
def SgOk (W : World) (x : SgnT) : Prop := (x.n ≤ x.m ∧ x.m ≤ maxLen) ∧ By W x.a x.n x.xs
theorem SgOk.ext {W W' : World} {x : SgnT} (h : SgOk W x) (hx : Ext W W') : SgOk W' x := ⟨h.1, h.2.ext hx⟩
theorem Fl.sgn {w : World} {a : Option Addr} {n : Nat} {xs : List SgnT} (h : Fl w a n xs) (h0 : 0 < n) : ∃ b off, a = some ⟨b, off, none⟩ ∧ ∀ j x, xs[j]? = some x → w.cell? ⟨b, off + j * 10, none⟩ = some (.int .i64 x.c.k) ∧ w.cell? ⟨b, off + j * 10 + 1, none⟩ = some (S x.c.h.1) ∧ w.cell? ⟨b, off + j * 10 + 2, none⟩ = some (S x.c.h.2) ∧ w.cell? ⟨b, off + j * 10 + 3, none⟩ = some (S x.c.w) ∧ w.cell? ⟨b, off + j * 10 + 4, none⟩ = some (S x.c.b.1) ∧ w.cell? ⟨b, off + j * 10 + 5, none⟩ = some (S x.c.b.2) ∧ w.cell? ⟨b, off + j * 10 + 6, none⟩ = some (S x.c.c.1) ∧ w.cell? ⟨b, off + j * 10 + 7, none⟩ = some (S x.c.c.2) ∧ w.cell? ⟨b, off + j * 10 + 8, none⟩ = some (S x.c.e) ∧ w.cell? ⟨b, off + j * 10 + 9, none⟩ = some (.slice x.a x.n x.m) := by
  obtain ⟨b, off, rfl, hc⟩ := h.2 h0
  exact ⟨b, off, rfl, fun j x hj => ⟨hc j x hj 0 _ rfl, hc j x hj 1 _ rfl, hc j x hj 2 _ rfl, hc j x hj 3 _ rfl, hc j x hj 4 _ rfl, hc j x hj 5 _ rfl, hc j x hj 6 _ rfl, hc j x hj 7 _ rfl, hc j x hj 8 _ rfl, hc j x hj 9 _ rfl⟩⟩
end Go.Proofs.Ythjaopojlhdjpaa

namespace Go.Proofs.Ythjaopojlhdjpaa
set_option linter.unusedSimpArgs false
set_option linter.unusedVariables false
open Go Go.RowKit
end Go.Proofs.Ythjaopojlhdjpaa

namespace Go.Proofs.Ythjaopojlhdjpaa
set_option linter.unusedSimpArgs false
set_option linter.unusedVariables false
open Go Go.RowKit
end Go.Proofs.Ythjaopojlhdjpaa

namespace Go.Proofs.Ythjaopojlhdjpaa
set_option linter.unusedSimpArgs false
set_option linter.unusedVariables false
open Go Go.RowKit
end Go.Proofs.Ythjaopojlhdjpaa

namespace Go.Proofs.Ythjaopojlhdjpaa
set_option linter.unusedSimpArgs false
set_option linter.unusedVariables false
open Go Go.RowKit
end Go.Proofs.Ythjaopojlhdjpaa

namespace Go.Proofs.Ythjaopojlhdjpaa
set_option linter.unusedSimpArgs false
set_option linter.unusedVariables false
open Go Go.RowKit
end Go.Proofs.Ythjaopojlhdjpaa

namespace Go.Proofs.Ythjaopojlhdjpaa
set_option linter.unusedSimpArgs false
set_option linter.unusedVariables false
open Go Go.RowKit
end Go.Proofs.Ythjaopojlhdjpaa

namespace Go.Proofs.Ythjaopojlhdjpaa
set_option linter.unusedSimpArgs false
set_option linter.unusedVariables false
open Go Go.RowKit
end Go.Proofs.Ythjaopojlhdjpaa

namespace Go.Proofs.Ythjaopojlhdjpaa
set_option linter.unusedSimpArgs false
set_option linter.unusedVariables false
open Go Go.RowKit
@[go_sem] theorem roleEq_self (x : Role) : roleEq x x = true := by rw [roleEq_eq]; simp
end Go.Proofs.Ythjaopojlhdjpaa

namespace Go.Proofs.Ythjaopojlhdjpaa.Rg4
set_option linter.unusedSimpArgs false
set_option linter.unusedVariables false
open Go Go.Proofs.Ythjaopojlhdjpaa.Rg
section
variable (P : Program) (ops : Array Oper) (T : Array Nat) (Rel : World → World → Prop) (ld : Nat → Bool) (Cl : World → Prop) (kd : Nat → Kd) (Q : Exit → Act → World → Prop)
/-- The walk up to a fork. -/
def wp5 (E : World → Facts → Act → Prop) : List (Nat × Oper) → World → Facts → Act → Prop
  | [], w0, F, a => E w0 F a
  | (k, o) :: rest, w0, F, a =>
    if Region.wanted o (yielded ops a.tmps) = true then
      match kd k with
      | .none => ∃ c, (∀ w, (ld k = true → Rel w0 w) → Cl w → stillAt P o a w c) ∧ wp5 E rest w0 F (a.put o.dst c)
      | .some (.some S) => (∀ w, Rel w0 w → Cl w → Pre ops T F k w → relAt P o a w (fun v w' => Rel w w' ∧ Cl w' ∧ S v w')) ∧
          ∀ v, (∃ w, Rel w0 w ∧ Cl w ∧ S v w) → wp5 E rest w0 (upd F k (S v)) (a.put o.dst v)
      | .some .none => ∀ w, Rel w0 w → Cl w → All F w → o.wp P a w (fun a' w' => Cl w' ∧ wp5 E rest w' none a') Q ∨ (o.asks P a w ∧ LetsOut Q)
    else wp5 E rest w0 F (a.put o.dst undef)
end
section
variable {P : Program} {ops : Array Oper} {T : Array Nat} {Rel : World → World → Prop} {ld : Nat → Bool} {Cl : World → Prop} {kd : Nat → Kd} {Q : Exit → Act → World → Prop}
section steps
variable {E : World → Facts → Act → Prop} {w0 : World} {o : Oper} {rest : List (Nat × Oper)} {k : Nat} {F : Facts} {a : Act}
end steps
end
section
open Go.RowKit
variable {fr al : Nat → Prop} {w0 w : World} {L : List It}
variable {P : Program} {ops : Array Oper} {T : Array Nat} {ld : Nat → Bool} {Cl : World → Prop} {kd : Nat → Kd} {Q : Exit → Act → World → Prop}
end
attribute [irreducible] wp5
end Go.Proofs.Ythjaopojlhdjpaa.Rg4

namespace Go.Proofs.Ythjaopojlhdjpaa.Rg4
set_option linter.unusedSimpArgs false
set_option linter.unusedVariables false
open Go Go.Proofs.Ythjaopojlhdjpaa.Rg
section
variable (P : Program) (ops : Array Oper) (T : Array Nat) (Rel : World → World → Prop) (ld : Nat → Bool) (Cl : World → Prop) (kd : Nat → Kd) (Q : Exit → Act → World → Prop)
end
section
variable {P : Program} {ops : Array Oper} {T : Array Nat} {Rel : World → World → Prop} {ld : Nat → Bool} {Cl : World → Prop} {kd : Nat → Kd} {Q : Exit → Act → World → Prop}
end
end Go.Proofs.Ythjaopojlhdjpaa.Rg4

namespace Go.Proofs.Ythjaopojlhdjpaa
set_option linter.unusedSimpArgs false
set_option linter.unusedVariables false
open Go Go.RowKit
section
variable {fr al : Nat → Prop} {w0 w : World} {L : List It}
end
end Go.Proofs.Ythjaopojlhdjpaa

namespace Go.Proofs.Ythjaopojlhdjpaa
set_option linter.unusedSimpArgs false
set_option linter.unusedVariables false
open Go Go.RowKit
/-- A guarded credential. -/
structure GuT where
  s : SgnT
  f : Fm
deriving Inhabited
def guC (x : GuT) : List Value := sgC x.s ++ fmC x.f
theorem fmC_len (f : Fm) : (fmC f).length = 5 := by cases f; rfl
theorem fmC_one (f : Fm) : ∀ u ∈ fmC f, u.oneCell' = true := Flt.one f
theorem sgC_one (s : SgnT) : ∀ u ∈ sgC s, u.oneCell' = true := Flt.one s
instance fltGu : Flt GuT := ⟨15, guC, fun x => by unfold guC; rw [List.length_append, fmC_len]; rfl, by decide, fun x u hu => by
  rcases List.mem_append.1 hu with h | h
  · exact sgC_one _ u h
  · exact fmC_one _ u h⟩
/-- An acknowledgement. -/
structure AckT where
  r : Role
  f : Fm
  a : Option Addr
  n : Nat
  c : Nat
  cs : List CredT
deriving Inhabited
def ackC (x : AckT) : List Value := [S x.r.1, S x.r.2] ++ fmC x.f ++ [.slice x.a x.n x.c]
instance fltAck : Flt AckT := ⟨8, ackC, fun x => by unfold ackC; rw [List.length_append, List.length_append, fmC_len]; rfl, by decide, fun x u hu => by
  unfold ackC at hu
  rw [List.mem_append, List.mem_append] at hu
  rcases hu with (h | h) | h
  · simp at h; rcases h with rfl | rfl <;> rfl
  · exact fmC_one _ u h
  · simp at h; subst h; rfl⟩
/-- A party. -/
structure PaT where
  nm : List UInt8
  ga : Option Addr
  gn : Nat
  gc : Nat
  gs : List GuT
  aa : Option Addr
  an : Nat
  ac : Nat
  ks : List AckT
deriving Inhabited
def paC (x : PaT) : List Value := [.string ⟨x.nm.toArray⟩, .slice x.ga x.gn x.gc, .slice x.aa x.an x.ac]
def paV (x : PaT) : Value := .agg #[.string ⟨x.nm.toArray⟩, .slice x.ga x.gn x.gc, .slice x.aa x.an x.ac]
instance fltPa : Flt PaT := ⟨3, paC, fun _ => rfl, by decide, fun x u hu => by simp [paC] at hu; rcases hu with rfl | rfl | rfl <;> rfl⟩
def GuOk (w : World) (x : GuT) : Prop := SgOk w x.s ∧ FmOk w x.f
def AckOk (w : World) (x : AckT) : Prop := FmOk w x.f ∧ (x.n ≤ x.c ∧ x.c ≤ maxLen) ∧ Fl w x.a x.n x.cs
def PaOk (w : World) (x : PaT) : Prop := ((x.gn ≤ x.gc ∧ x.gc ≤ maxLen) ∧ Fl w x.ga x.gn x.gs ∧ ∀ g ∈ x.gs, GuOk w g) ∧ ((x.an ≤ x.ac ∧ x.ac ≤ maxLen) ∧ Fl w x.aa x.an x.ks ∧ ∀ a ∈ x.ks, AckOk w a)
theorem GuOk.ext {w w' : World} {x : GuT} (h : GuOk w x) (hx : Ext w w') : GuOk w' x := ⟨h.1.ext hx, FmOk.ext h.2 hx⟩
theorem AckOk.ext {w w' : World} {x : AckT} (h : AckOk w x) (hx : Ext w w') : AckOk w' x := ⟨FmOk.ext h.1 hx, h.2.1, Arr.ext h.2.2 hx⟩
theorem PaOk.ext {w w' : World} {x : PaT} (h : PaOk w x) (hx : Ext w w') : PaOk w' x := ⟨⟨h.1.1, Arr.ext h.1.2.1 hx, fun g hg => (h.1.2.2 g hg).ext hx⟩, ⟨h.2.1, Arr.ext h.2.2.1 hx, fun g hg => (h.2.2.2 g hg).ext hx⟩⟩
/-- The cells of a guarded credential, of an acknowledgement. -/
theorem Fl.gu {w : World} {a : Option Addr} {n : Nat} {xs : List GuT} (h : Fl w a n xs) (h0 : 0 < n) : ∃ b off, a = some ⟨b, off, none⟩ ∧ ∀ (j : Nat) (c : CredT) sa sn sm sx op k r a' n' c' kids', xs[j]? = some ⟨⟨c, sa, sn, sm, sx⟩, .mk op k r a' n' c' kids'⟩ →
    (w.cell? ⟨b, off + j * 15, none⟩ = some (.int .i64 c.k) ∧ w.cell? ⟨b, off + j * 15 + 1, none⟩ = some (S c.h.1) ∧ w.cell? ⟨b, off + j * 15 + 2, none⟩ = some (S c.h.2) ∧ w.cell? ⟨b, off + j * 15 + 3, none⟩ = some (S c.w) ∧ w.cell? ⟨b, off + j * 15 + 4, none⟩ = some (S c.b.1) ∧ w.cell? ⟨b, off + j * 15 + 5, none⟩ = some (S c.b.2) ∧ w.cell? ⟨b, off + j * 15 + 6, none⟩ = some (S c.c.1) ∧ w.cell? ⟨b, off + j * 15 + 7, none⟩ = some (S c.c.2) ∧ w.cell? ⟨b, off + j * 15 + 8, none⟩ = some (S c.e) ∧ w.cell? ⟨b, off + j * 15 + 9, none⟩ = some (.slice sa sn sm)) ∧
    (w.cell? ⟨b, off + j * 15 + 10, none⟩ = some (.int .i64 op) ∧ w.cell? ⟨b, off + j * 15 + 11, none⟩ = some (.int .i64 k) ∧ w.cell? ⟨b, off + j * 15 + 12, none⟩ = some (S r.1) ∧ w.cell? ⟨b, off + j * 15 + 13, none⟩ = some (S r.2) ∧ w.cell? ⟨b, off + j * 15 + 14, none⟩ = some (.slice a' n' c')) := by
  obtain ⟨b, off, rfl, hc⟩ := h.2 h0
  exact ⟨b, off, rfl, fun j c sa sn sm sx op k r a' n' c' kids' hj => ⟨⟨hc j _ hj 0 _ rfl, hc j _ hj 1 _ rfl, hc j _ hj 2 _ rfl, hc j _ hj 3 _ rfl, hc j _ hj 4 _ rfl, hc j _ hj 5 _ rfl, hc j _ hj 6 _ rfl, hc j _ hj 7 _ rfl, hc j _ hj 8 _ rfl, hc j _ hj 9 _ rfl⟩, ⟨hc j _ hj 10 _ rfl, hc j _ hj 11 _ rfl, hc j _ hj 12 _ rfl, hc j _ hj 13 _ rfl, hc j _ hj 14 _ rfl⟩⟩⟩
theorem Fl.ack {w : World} {a : Option Addr} {n : Nat} {xs : List AckT} (h : Fl w a n xs) (h0 : 0 < n) : ∃ b off, a = some ⟨b, off, none⟩ ∧ ∀ (j : Nat) (q : Role) op k r a' n' c' kids' ca cn cc cs, xs[j]? = some ⟨q, .mk op k r a' n' c' kids', ca, cn, cc, cs⟩ →
    w.cell? ⟨b, off + j * 8, none⟩ = some (S q.1) ∧ w.cell? ⟨b, off + j * 8 + 1, none⟩ = some (S q.2) ∧ w.cell? ⟨b, off + j * 8 + 2, none⟩ = some (.int .i64 op) ∧ w.cell? ⟨b, off + j * 8 + 3, none⟩ = some (.int .i64 k) ∧ w.cell? ⟨b, off + j * 8 + 4, none⟩ = some (S r.1) ∧ w.cell? ⟨b, off + j * 8 + 5, none⟩ = some (S r.2) ∧ w.cell? ⟨b, off + j * 8 + 6, none⟩ = some (.slice a' n' c') ∧ w.cell? ⟨b, off + j * 8 + 7, none⟩ = some (.slice ca cn cc) := by
  obtain ⟨b, off, rfl, hc⟩ := h.2 h0
  exact ⟨b, off, rfl, fun j q op k r a' n' c' kids' ca cn cc cs hj => ⟨hc j _ hj 0 _ rfl, hc j _ hj 1 _ rfl, hc j _ hj 2 _ rfl, hc j _ hj 3 _ rfl, hc j _ hj 4 _ rfl, hc j _ hj 5 _ rfl, hc j _ hj 6 _ rfl, hc j _ hj 7 _ rfl⟩⟩
/-- The formulas of a party. -/
def paF (p : PaT) : List Fo := p.gs.map (fun g => g.f.strip) ++ p.ks.map (fun a => a.f.strip)
/-- Formulas are small. -/
def FsL (l : List Fo) : Prop := nodesL l ≤ 100000 ∧ ∀ f ∈ l, FoL 100000 f
theorem nodesL_append : ∀ (l m : List Fo), nodesL (l ++ m) = nodesL l + nodesL m
  | [], m => by simp [nodesL]
  | x :: l, m => by rw [List.cons_append, nodesL, nodesL_append l m, nodesL]; omega
/-- Sets of each, one behind another. -/
def setsL (l : List Fo) : List Role := l.flatMap fun f => roleSet f.atoms
theorem setsL_snoc (l : List Fo) (f : Fo) : setsL (l ++ [f]) = setsL l ++ roleSet f.atoms := by simp [setsL]
theorem setsL_append (l m : List Fo) : setsL (l ++ m) = setsL l ++ setsL m := by simp [setsL]
theorem setsL_len (l : List Fo) : (setsL l).length ≤ nodesL l := by
  induction l with
  | nil => simp [setsL]
  | cons x l ih =>
    have h1 := roleSet_len x.atoms
    have h2 := atoms_nodes x
    have e : setsL (x :: l) = roleSet x.atoms ++ setsL l := by simp [setsL]
    rw [e, nodesL, List.length_append]
    omega
theorem setsL_L {l : List Fo} (h : ∀ f ∈ l, FoL 100000 f) : ∀ r ∈ setsL l, r.1.length ≤ 100000 ∧ r.2.length ≤ 100000 := by
  intro r hr
  obtain ⟨f, hf, hr2⟩ := List.mem_flatMap.1 hr
  exact (h f hf).atoms r (((roleSet_set f.atoms).2 r).1 hr2).1
theorem FsL.sub {l m : List Fo} (h : FsL (l ++ m)) : FsL l ∧ FsL m := by
  obtain ⟨h1, h2⟩ := h
  rw [nodesL_append] at h1
  exact ⟨⟨by omega, fun f hf => h2 f (List.mem_append_left _ hf)⟩, ⟨by omega, fun f hf => h2 f (List.mem_append_right _ hf)⟩⟩
end Go.Proofs.Ythjaopojlhdjpaa

namespace Go.Proofs.Ythjaopojlhdjpaa
set_option linter.unusedSimpArgs false
set_option linter.unusedVariables false
open Go Go.RowKit
theorem paF_def (p : PaT) : paF p = p.gs.map (fun g => g.f.strip) ++ p.ks.map (fun a => a.f.strip) := rfl
theorem snoc_of {α : Type} (f : α → Fo) (l : List α) (j : Nat) (h : j < l.length) : (l.take (j + 1)).map f = (l.take j).map f ++ [f l[j]] := by
  rw [← List.take_append_getElem h, List.map_append]; rfl
theorem setsL_take_le {α : Type} (f : α → Fo) (l : List α) (j : Nat) : (setsL ((l.take j).map f)).length ≤ nodesL (l.map f) := by
  have h1 := setsL_len ((l.take j).map f)
  have h2 := nodesL_take (l.map f) j
  rw [← List.map_take] at h2
  omega
set_option maxRecDepth 100000 in
set_option maxHeartbeats 1000000 in
theorem capsRoom_any (p : PaT) (W : World) : Calls Try.prog 31 #[paV p] W fun e w' => e = .returned (.int .i64 (p.gn : Int)) ∧ Ext W w' := by
  obtain ⟨nm, ga, gn, gc, gs, aa, an, ac, ks⟩ := p
  have st := Own.startOld W
  unfold paV
  simp only
  (try simp only [nsl, Value.cells, unB] at st)
  (try clear hc); have hc := st.facts; (try simp only [nfl, nft, Nat.reduceAdd] at hc)
  go_enter Try.func31, Try.ntmps31
  go_wp2_with ((((with_reducible refine wl_box ?_ (fun K hK => ?_)); rfl; refine owp_box (o := ⟨some 1, _, _, _, _, _⟩) rfl st ?_; apply Exists.intro; refine ⟨?_, ?_⟩; (focus (go_simp; try rfl)); (clear st; intro b1 w hb st; clear hb))); (try simp only [nsl, Value.cells, unB] at st); (try clear hc); have hc := st.facts; (try simp only [nfl, nft, Nat.reduceAdd] at hc))
  go_ret
  exact ⟨rfl, st.ext0⟩
set_option maxRecDepth 100000 in
set_option maxHeartbeats 8000000 in
theorem capsAtoms_f (p : PaT) (fa : Option Addr) (fn fc : Nat) (fl : List Fm) (W : World) (hp : PaOk W p) (hf : Fl W fa fn fl) (hk : ∀ x ∈ fl, FmOk W x) (hs : FsL (paF p ++ fl.map Fm.strip)) :
    Calls Try.prog 27 #[paV p, .slice fa fn fc] W fun e w' => ∃ va vc, e = .returned (.slice va (roleSet (setsL (paF p ++ fl.map Fm.strip))).length vc) ∧ Fl w' va (roleSet (setsL (paF p ++ fl.map Fm.strip))).length (roleSet (setsL (paF p ++ fl.map Fm.strip))) ∧ Ext W w' := by
  have HW : Hid (setsL (p.gs.map (fun g => g.f.strip)) ++ setsL (p.ks.map (fun a => a.f.strip)) ++ setsL (fl.map Fm.strip) = setsL (paF p ++ fl.map Fm.strip)) := Lib.hid (by rw [paF_def, setsL_append, setsL_append])
  have hbig : ∀ r ∈ setsL (paF p ++ fl.map Fm.strip), r.1.length ≤ 100000 ∧ r.2.length ≤ 100000 := setsL_L hs.2
  have HRL := Lib.hid hbig
  have hn1 := hs.1
  rw [nodesL_append, paF_def, nodesL_append] at hn1
  have hfl : (∀ g ∈ p.gs, FoL 100000 g.f.strip) ∧ (∀ a ∈ p.ks, FoL 100000 a.f.strip) ∧ (∀ f ∈ fl, FoL 100000 f.strip) :=
    ⟨fun g hg => hs.2 _ (List.mem_append_left _ (List.mem_append_left _ (List.mem_map.2 ⟨g, hg, rfl⟩))), fun a ha => hs.2 _ (List.mem_append_left _ (List.mem_append_right _ (List.mem_map.2 ⟨a, ha, rfl⟩))), fun f hf => hs.2 _ (List.mem_append_right _ (List.mem_map.2 ⟨f, hf, rfl⟩))⟩
  have HFL := Lib.hid hfl
  have HP := Lib.hid hp
  have HF := Lib.hid hf
  have HK := Lib.hid hk
  have HNN := Lib.hid hn1
  have HN1 : Hid (p.gn = p.gs.length) := Lib.hid hp.1.2.1.1
  have HN2 : Hid (p.an = p.ks.length) := Lib.hid hp.2.2.1.1
  have HN3 : Hid (fn = fl.length) := Lib.hid hf.1
  have hg1 : p.gn ≤ 100000 := by have := nodesL_len (p.gs.map (fun g => g.f.strip)); rw [List.length_map] at this; have := hp.1.2.1.1; omega
  have hg2 : p.an ≤ 100000 := by have := nodesL_len (p.ks.map (fun a => a.f.strip)); rw [List.length_map] at this; have := hp.2.2.1.1; omega
  have hg3 : fn ≤ 100000 := by have := nodesL_len (fl.map Fm.strip); rw [List.length_map] at this; have := hf.1; omega
  obtain ⟨res, hres⟩ : ∃ r, setsL (paF p ++ fl.map Fm.strip) = r := ⟨_, rfl⟩
  rw [hres] at HW HRL ⊢
  have HRS : Hid (∀ rs, rs = roleSet res → rs = roleSet res) := Lib.hid (fun _ h => h)
  clear HRS
  obtain ⟨rs, hrs⟩ : ∃ l, roleSet res = l := ⟨_, rfl⟩
  rw [hrs]
  have HRS := Lib.hid hrs
  obtain ⟨ln, hln⟩ : ∃ l, rs.length = l := ⟨_, rfl⟩
  rw [hln]
  have HLN := Lib.hid hln
  clear hp hf hk hs hbig hn1 hfl hres hln hrs
  obtain ⟨nm, ga, gn, gc, gs, aa, an, ac, ks⟩ := p
  simp only at HW HFL HNN HN1 HN2 hg1 hg2
  have st := Own.start (fun _ => False) (fun _ => False) W
  unfold paV
  simp only
  (try simp only [nsl, Value.cells, unB] at st)
  (try clear hc); have hc := st.facts; (try simp only [nfl, nft, Nat.reduceAdd] at hc)
  go_enter Try.func27, Try.ntmps27
  go_wp2_with ((first
        | ((with_reducible refine wl_box ?_ (fun K hK => ?_)); rfl; refine owp_box (o := ⟨some 2, _, _, _, _, _⟩) rfl st ?_; apply Exists.intro; refine ⟨?_, ?_⟩; (focus (go_simp; try rfl)); (clear st; intro b2 w hb st; clear hb))
        | ((with_reducible refine wl_alloc ?_ (fun K hK => ?_)); rfl; refine owp_alloc (o := ⟨some 7, _, _, _, _, _⟩) rfl st ?_; apply Exists.intro; apply Exists.intro; refine ⟨?_, ?_⟩; (focus (first | (go_simp; done) | (go_simp; rfl))); (clear st; intro b7 w hb st; clear hb))
        | ((with_reducible refine wl_store ?_ (fun K hK => ?_)); rfl; refine owp_store rfl st ?_; apply Exists.intro; apply Exists.intro; refine ⟨?_, ?_, ?_⟩; (focus (go_simp; try rfl)); (focus (go_simp; try rfl)); (first | (with_reducible refine ⟨0, _, _, _, _, get0, rfl, rfl, ?_, ?_, ?_, ?_⟩) | (with_reducible refine ⟨1, _, _, _, _, get1, rfl, rfl, ?_, ?_, ?_, ?_⟩) | (with_reducible refine ⟨2, _, _, _, _, get2, rfl, rfl, ?_, ?_, ?_, ?_⟩) | (with_reducible refine ⟨3, _, _, _, _, get3, rfl, rfl, ?_, ?_, ?_, ?_⟩) | (with_reducible refine ⟨4, _, _, _, _, get4, rfl, rfl, ?_, ?_, ?_, ?_⟩) | (with_reducible refine ⟨5, _, _, _, _, get5, rfl, rfl, ?_, ?_, ?_, ?_⟩)); (kernel_rfl); (simp [Value.cells]); (rfl); (clear st; intro w st))
        | ((with_reducible refine wl_alloc ?_ (fun K hK => ?_)); rfl; refine owp_alloc (o := ⟨some 9, _, _, _, _, _⟩) rfl st ?_; apply Exists.intro; apply Exists.intro; refine ⟨?_, ?_⟩; (focus (first | (go_simp; done) | (go_simp; rfl))); (clear st; intro b9 w hb st; clear hb))
        | ((with_reducible refine wl_alloc ?_ (fun K hK => ?_)); rfl; refine owp_alloc (o := ⟨some 11, _, _, _, _, _⟩) rfl st ?_; apply Exists.intro; apply Exists.intro; refine ⟨?_, ?_⟩; (focus (first | (go_simp; done) | (go_simp; rfl))); (clear st; intro b11 w hb st; clear hb))); (try simp only [nsl, Value.cells, unB] at st); (try clear hc); have hc := st.facts; (try simp only [nfl, nft, Nat.reduceAdd] at hc))
  replace st := st.row_nil 23 2
  simp only [List.cons_append, List.nil_append] at st
  (try simp only [nsl, Value.cells, unB] at st)
  (try clear hc); have hc := st.facts; (try simp only [nfl, nft, Nat.reduceAdd] at hc)
  go_loopg [5, 15] gn (fun q ov i wr => ∃ (j r : Nat) (xs : List Role), j ≤ gn ∧ q = gn - j ∧ i = .int .i64 (j : Int) ∧ r ≤ 100000 ∧ Hid (xs = setsL ((gs.take j).map (fun g => g.f.strip))) ∧ Hid (r = xs.length) ∧ Own (fun _ => False) (fun _ => False) W [blkI b2 [.string ⟨nm.toArray⟩, .slice ga gn gc, .slice aa an ac], rowI 23 2 ov r (cellsL xs)] wr)
  case atStart => exact ⟨0, 0, [], by omega, by omega, rfl, by omega, Lib.hid (by simp [setsL]), Lib.hid rfl, by simpa [cellsL] using st⟩
  case round =>
    obtain ⟨j, r, xs, hj, rfl, rfl, hr, HX, HR, st'⟩ := hrel
    clear st hc
    have st := st'
    clear st'
    obtain ⟨oa, oc, rfl⟩ := own_slice (st.row (i := 1) get1)
    by_cases hjn : j < gn
    · obtain ⟨b, off, ha, hcell⟩ := Fl.gu (a := ga) (n := gn) (xs := gs) (HP.out.ext st.ext0).1.2.1 (by omega)
      have hjl : j < gs.length := by have := HN1.out; omega
      have hsn := snoc_of (fun g : GuT => g.f.strip) gs j hjl
      have hgt := List.getElem?_eq_getElem hjl
      have hok := (HP.out.1.2.2 _ (List.getElem_mem hjl)).2
      have hl5 := HFL.out.1 _ (List.getElem_mem hjl)
      have hle := setsL_take_le (fun g : GuT => g.f.strip) gs (j + 1)
      have hnd := nodesL_mem (gs.map (fun g => g.f.strip)) (gs[j].f.strip) (List.mem_map.2 ⟨_, List.getElem_mem hjl, rfl⟩)
      have hnn := HNN.out
      rw [hsn, setsL_snoc, ← HX.out, List.length_append, ← HR.out] at hle
      generalize gs[j] = x at *
      obtain ⟨⟨cx, sa, sn, sm, sx⟩, fx⟩ := x
      simp only at hok hl5 hsn hle hnd
      have HC := Lib.hid (fun W' (hx : Ext W W') => fmAtoms_f fx W' (hok.ext hx) (by omega) hl5)
      have HX2 : Hid (xs ++ roleSet fx.strip.atoms = setsL ((gs.take (j + 1)).map (fun g => g.f.strip))) := Lib.hid (by rw [hsn, setsL_snoc, HX.out])
      obtain ⟨ys, hys⟩ : ∃ y, roleSet fx.strip.atoms = y := ⟨_, rfl⟩
      rw [hys] at HC HX2 hle
      obtain ⟨m, hm⟩ : ∃ m, ys.length = m := ⟨_, rfl⟩
      rw [hm] at HC hle
      have HM := Lib.hid hm
      have hrm : r + m ≤ 100000 := by omega
      clear hsn hok hl5 hle hnd hnn hys hm hjl
      obtain ⟨ck, ⟨ho, hd⟩, nw, ⟨bo, bd⟩, ⟨co, cd⟩, we⟩ := cx
      obtain ⟨op, k, ⟨o, d⟩, a', n', c', kids⟩ := fx
      obtain ⟨⟨r0, r1, r2, r3, r4, r5, r6, r7, r8, r9⟩, s0, s1, s2, s3, s4⟩ := hcell j _ sa sn sm sx op k (o, d) a' n' c' kids hgt
      clear hcell hgt
      subst ha
      unfold fmV S at HC
      unfold S at r1 r2 r3 r4 r5 r6 r7 r8 s2 s3
      simp only at HC r0 r1 r2 r3 r4 r5 r6 r7 r8 s2 s3
      (try simp only [nsl, Value.cells, unB] at st)
      (try clear hc); have hc := st.facts; (try simp only [nfl, nft, Nat.reduceAdd] at hc)
      go_wp2_with ((first
            | ((with_reducible refine wl_box ?_ (fun K hK => ?_)); rfl; refine owp_box (o := ⟨some 2, _, _, _, _, _⟩) rfl st ?_; apply Exists.intro; refine ⟨?_, ?_⟩; (focus (go_simp; try rfl)); (clear st; intro b2 w hb st; clear hb))
            | ((with_reducible refine wl_alloc ?_ (fun K hK => ?_)); rfl; refine owp_alloc (o := ⟨some 7, _, _, _, _, _⟩) rfl st ?_; apply Exists.intro; apply Exists.intro; refine ⟨?_, ?_⟩; (focus (first | (go_simp; done) | (go_simp; rfl))); (clear st; intro b7 w hb st; clear hb))
            | ((with_reducible refine wl_store ?_ (fun K hK => ?_)); rfl; refine owp_store rfl st ?_; apply Exists.intro; apply Exists.intro; refine ⟨?_, ?_, ?_⟩; (focus (go_simp; try rfl)); (focus (go_simp; try rfl)); (first | (with_reducible refine ⟨0, _, _, _, _, get0, rfl, rfl, ?_, ?_, ?_, ?_⟩) | (with_reducible refine ⟨1, _, _, _, _, get1, rfl, rfl, ?_, ?_, ?_, ?_⟩) | (with_reducible refine ⟨2, _, _, _, _, get2, rfl, rfl, ?_, ?_, ?_, ?_⟩) | (with_reducible refine ⟨3, _, _, _, _, get3, rfl, rfl, ?_, ?_, ?_, ?_⟩) | (with_reducible refine ⟨4, _, _, _, _, get4, rfl, rfl, ?_, ?_, ?_, ?_⟩) | (with_reducible refine ⟨5, _, _, _, _, get5, rfl, rfl, ?_, ?_, ?_, ?_⟩)); (kernel_rfl); (simp [Value.cells]); (rfl); (clear st; intro w st))
            | ((with_reducible refine wl_alloc ?_ (fun K hK => ?_)); rfl; refine owp_alloc (o := ⟨some 9, _, _, _, _, _⟩) rfl st ?_; apply Exists.intro; apply Exists.intro; refine ⟨?_, ?_⟩; (focus (first | (go_simp; done) | (go_simp; rfl))); (clear st; intro b9 w hb st; clear hb))
            | ((with_reducible refine wl_alloc ?_ (fun K hK => ?_)); rfl; refine owp_alloc (o := ⟨some 11, _, _, _, _, _⟩) rfl st ?_; apply Exists.intro; apply Exists.intro; refine ⟨?_, ?_⟩; (focus (first | (go_simp; done) | (go_simp; rfl))); (clear st; intro b11 w hb st; clear hb))); (try simp only [nsl, Value.cells, unB] at st); (try clear hc); have hc := st.facts; (try simp only [nfl, nft, Nat.reduceAdd] at hc))
      clear r0 r1 r2 r3 r4 r5 r6 r7 r8 r9 s0 s1 s2 s3 s4
      refine (HC.out _ st.ext0).mono ?_
      rintro en w ⟨ra, rc, rfl, h2⟩
      replace st := st.join h2
      clear h2
      simp only [List.cons_append, List.nil_append] at st
      (try simp only [nsl, Value.cells, unB] at st)
      (try clear hc); have hc := st.facts; (try simp only [nfl, nft, Nat.reduceAdd] at hc)
      go_wp2_with (first
          | ((with_reducible refine wl_append ?_ (fun K hK => ?_)); (rfl); (obtain ⟨inf, hinf, hz0, hz1, hz2⟩ := roleInfo); (refine owp_append rfl st 1 get1 Try.underlying37 hinf hz0 hz1 hz2 rfl (by decide) rfl rfl ((rowFl' (α := Role) st (i := 3) get3).2.flat) (by first | exact cellsL_all _ | simp [Value.oneCell']) (by simp only [maxLen]; omega) (by omega) ?_); (clear hinf hz0 hz1 hz2 inf); (clear st; intro v' w st); (obtain ⟨va', vc', rfl⟩ := own_slice (st.row (i := 1) get1)); (try simp only [nsl, Value.cells, unB] at st); (try simp only [Nat.zero_add] at st); (try clear hc); have hc := st.facts; (try simp only [nfl, nft, Nat.reduceAdd] at hc))
          | ((first
            | ((with_reducible refine wl_box ?_ (fun K hK => ?_)); rfl; refine owp_box (o := ⟨some 2, _, _, _, _, _⟩) rfl st ?_; apply Exists.intro; refine ⟨?_, ?_⟩; (focus (go_simp; try rfl)); (clear st; intro b2 w hb st; clear hb))
            | ((with_reducible refine wl_alloc ?_ (fun K hK => ?_)); rfl; refine owp_alloc (o := ⟨some 7, _, _, _, _, _⟩) rfl st ?_; apply Exists.intro; apply Exists.intro; refine ⟨?_, ?_⟩; (focus (first | (go_simp; done) | (go_simp; rfl))); (clear st; intro b7 w hb st; clear hb))
            | ((with_reducible refine wl_store ?_ (fun K hK => ?_)); rfl; refine owp_store rfl st ?_; apply Exists.intro; apply Exists.intro; refine ⟨?_, ?_, ?_⟩; (focus (go_simp; try rfl)); (focus (go_simp; try rfl)); (first | (with_reducible refine ⟨0, _, _, _, _, get0, rfl, rfl, ?_, ?_, ?_, ?_⟩) | (with_reducible refine ⟨1, _, _, _, _, get1, rfl, rfl, ?_, ?_, ?_, ?_⟩) | (with_reducible refine ⟨2, _, _, _, _, get2, rfl, rfl, ?_, ?_, ?_, ?_⟩) | (with_reducible refine ⟨3, _, _, _, _, get3, rfl, rfl, ?_, ?_, ?_, ?_⟩) | (with_reducible refine ⟨4, _, _, _, _, get4, rfl, rfl, ?_, ?_, ?_, ?_⟩) | (with_reducible refine ⟨5, _, _, _, _, get5, rfl, rfl, ?_, ?_, ?_, ?_⟩)); (kernel_rfl); (simp [Value.cells]); (rfl); (clear st; intro w st))
            | ((with_reducible refine wl_alloc ?_ (fun K hK => ?_)); rfl; refine owp_alloc (o := ⟨some 9, _, _, _, _, _⟩) rfl st ?_; apply Exists.intro; apply Exists.intro; refine ⟨?_, ?_⟩; (focus (first | (go_simp; done) | (go_simp; rfl))); (clear st; intro b9 w hb st; clear hb))
            | ((with_reducible refine wl_alloc ?_ (fun K hK => ?_)); rfl; refine owp_alloc (o := ⟨some 11, _, _, _, _, _⟩) rfl st ?_; apply Exists.intro; apply Exists.intro; refine ⟨?_, ?_⟩; (focus (first | (go_simp; done) | (go_simp; rfl))); (clear st; intro b11 w hb st; clear hb))); (try simp only [nsl, Value.cells, unB] at st); (try clear hc); have hc := st.facts; (try simp only [nfl, nft, Nat.reduceAdd] at hc)))
      have st' := st.keep [0, 1] (by decide) (by simp)
      have HR2 : Hid (r + m = (xs ++ ys).length) := Lib.hid (by rw [List.length_append, HR.out, HM.out])
      go_roundg (gn - (j + 1))
      case measure => omega
      case rel => exact ⟨j + 1, r + m, xs ++ ys, by omega, by omega, by go_num, hrm, HX2, HR2, by rw [cellsL_append]; simpa [pick] using st'⟩
    · obtain rfl : gn = j := by omega
      have HE1 : Hid (xs = setsL (gs.map (fun g => g.f.strip))) := Lib.hid (by rw [HX.out, List.take_of_length_le (by have := HN1.out; omega)])
      have HB1 : Hid (r ≤ nodesL (gs.map (fun g => g.f.strip))) := Lib.hid (by rw [HR.out, HE1.out]; exact setsL_len _)
      have HX1 := HX
      clear HX
      (try simp only [nsl, Value.cells, unB] at st)
      (try clear hc); have hc := st.facts; (try simp only [nfl, nft, Nat.reduceAdd] at hc)
      go_wp2_with fail
      go_loopg [5, 28] an (fun q ov i wr => ∃ (j r2 : Nat) (zs : List Role), j ≤ an ∧ q = an - j ∧ i = .int .i64 (j : Int) ∧ r2 ≤ 100000 ∧ Hid (zs = xs ++ setsL ((ks.take j).map (fun a => a.f.strip))) ∧ Hid (r2 = zs.length) ∧ Own (fun _ => False) (fun _ => False) W [blkI b2 [.string ⟨nm.toArray⟩, .slice ga gn gc, .slice aa an ac], rowI 23 2 ov r2 (cellsL zs)] wr)
      case atStart => exact ⟨0, r, xs, by omega, by omega, rfl, hr, Lib.hid (by simp [setsL]), HR, st⟩
      case round =>
        obtain ⟨j, r2, zs, hj, rfl, rfl, hr2, HZ, HR2, st'⟩ := hrel
        clear st hc
        have st := st'
        clear st'
        obtain ⟨oa2, oc2, rfl⟩ := own_slice (st.row (i := 1) get1)
        by_cases hjn2 : j < an
        · obtain ⟨b, off, ha, hcell⟩ := Fl.ack (a := aa) (n := an) (xs := ks) (HP.out.ext st.ext0).2.2.1 (by omega)
          have hjl : j < ks.length := by have := HN2.out; omega
          have hsn := snoc_of (fun a : AckT => a.f.strip) ks j hjl
          have hgt := List.getElem?_eq_getElem hjl
          have hok := (HP.out.2.2.2 _ (List.getElem_mem hjl)).1
          have hl5 := HFL.out.2.1 _ (List.getElem_mem hjl)
          have hle := setsL_take_le (fun a : AckT => a.f.strip) ks (j + 1)
          have hnd := nodesL_mem (ks.map (fun a => a.f.strip)) (ks[j].f.strip) (List.mem_map.2 ⟨_, List.getElem_mem hjl, rfl⟩)
          have hnn := HNN.out
          have hb1 := HB1.out
          have hz := HR2.out
          rw [HZ.out, List.length_append, ← HR.out] at hz
          rw [hsn, setsL_snoc, List.length_append] at hle
          generalize ks[j] = x at *
          obtain ⟨qr, fx, ca, cn, cc, cs⟩ := x
          simp only at hok hl5 hsn hle hnd
          have HC := Lib.hid (fun W' (hx : Ext W W') => fmAtoms_f fx W' (hok.ext hx) (by omega) hl5)
          have HZ2 : Hid (zs ++ roleSet fx.strip.atoms = xs ++ setsL ((ks.take (j + 1)).map (fun a => a.f.strip))) := Lib.hid (by rw [hsn, setsL_snoc, HZ.out, List.append_assoc])
          obtain ⟨ys, hys⟩ : ∃ y, roleSet fx.strip.atoms = y := ⟨_, rfl⟩
          rw [hys] at HC HZ2 hle
          obtain ⟨m, hm⟩ : ∃ m, ys.length = m := ⟨_, rfl⟩
          rw [hm] at HC hle
          have HM := Lib.hid hm
          have hrm : r2 + m ≤ 100000 := by omega
          clear hsn hok hl5 hle hnd hnn hys hm hjl hb1 hz
          obtain ⟨op, k, ⟨o, d⟩, a', n', c', kids⟩ := fx
          obtain ⟨qo, qd⟩ := qr
          obtain ⟨r0, r1, s0, s1, s2, s3, s4, s5⟩ := hcell j (qo, qd) op k (o, d) a' n' c' kids ca cn cc cs hgt
          clear hcell hgt
          subst ha
          unfold fmV S at HC
          unfold S at r0 r1 s2 s3
          simp only at HC r0 r1 s2 s3
          (try simp only [nsl, Value.cells, unB] at st)
          (try clear hc); have hc := st.facts; (try simp only [nfl, nft, Nat.reduceAdd] at hc)
          go_wp2_with ((first
                | ((with_reducible refine wl_box ?_ (fun K hK => ?_)); rfl; refine owp_box (o := ⟨some 2, _, _, _, _, _⟩) rfl st ?_; apply Exists.intro; refine ⟨?_, ?_⟩; (focus (go_simp; try rfl)); (clear st; intro b2 w hb st; clear hb))
                | ((with_reducible refine wl_alloc ?_ (fun K hK => ?_)); rfl; refine owp_alloc (o := ⟨some 7, _, _, _, _, _⟩) rfl st ?_; apply Exists.intro; apply Exists.intro; refine ⟨?_, ?_⟩; (focus (first | (go_simp; done) | (go_simp; rfl))); (clear st; intro b7 w hb st; clear hb))
                | ((with_reducible refine wl_store ?_ (fun K hK => ?_)); rfl; refine owp_store rfl st ?_; apply Exists.intro; apply Exists.intro; refine ⟨?_, ?_, ?_⟩; (focus (go_simp; try rfl)); (focus (go_simp; try rfl)); (first | (with_reducible refine ⟨0, _, _, _, _, get0, rfl, rfl, ?_, ?_, ?_, ?_⟩) | (with_reducible refine ⟨1, _, _, _, _, get1, rfl, rfl, ?_, ?_, ?_, ?_⟩) | (with_reducible refine ⟨2, _, _, _, _, get2, rfl, rfl, ?_, ?_, ?_, ?_⟩) | (with_reducible refine ⟨3, _, _, _, _, get3, rfl, rfl, ?_, ?_, ?_, ?_⟩) | (with_reducible refine ⟨4, _, _, _, _, get4, rfl, rfl, ?_, ?_, ?_, ?_⟩) | (with_reducible refine ⟨5, _, _, _, _, get5, rfl, rfl, ?_, ?_, ?_, ?_⟩)); (kernel_rfl); (simp [Value.cells]); (rfl); (clear st; intro w st))
                | ((with_reducible refine wl_alloc ?_ (fun K hK => ?_)); rfl; refine owp_alloc (o := ⟨some 9, _, _, _, _, _⟩) rfl st ?_; apply Exists.intro; apply Exists.intro; refine ⟨?_, ?_⟩; (focus (first | (go_simp; done) | (go_simp; rfl))); (clear st; intro b9 w hb st; clear hb))
                | ((with_reducible refine wl_alloc ?_ (fun K hK => ?_)); rfl; refine owp_alloc (o := ⟨some 11, _, _, _, _, _⟩) rfl st ?_; apply Exists.intro; apply Exists.intro; refine ⟨?_, ?_⟩; (focus (first | (go_simp; done) | (go_simp; rfl))); (clear st; intro b11 w hb st; clear hb))); (try simp only [nsl, Value.cells, unB] at st); (try clear hc); have hc := st.facts; (try simp only [nfl, nft, Nat.reduceAdd] at hc))
          clear r0 r1 s0 s1 s2 s3 s4 s5
          refine (HC.out _ st.ext0).mono ?_
          rintro en w ⟨ra, rc, rfl, h2⟩
          replace st := st.join h2
          clear h2
          simp only [List.cons_append, List.nil_append] at st
          (try simp only [nsl, Value.cells, unB] at st)
          (try clear hc); have hc := st.facts; (try simp only [nfl, nft, Nat.reduceAdd] at hc)
          go_wp2_with (first
              | ((with_reducible refine wl_append ?_ (fun K hK => ?_)); (rfl); (obtain ⟨inf, hinf, hz0, hz1, hz2⟩ := roleInfo); (refine owp_append rfl st 1 get1 Try.underlying37 hinf hz0 hz1 hz2 rfl (by decide) rfl rfl ((rowFl' (α := Role) st (i := 3) get3).2.flat) (by first | exact cellsL_all _ | simp [Value.oneCell']) (by simp only [maxLen]; omega) (by omega) ?_); (clear hinf hz0 hz1 hz2 inf); (clear st; intro v' w st); (obtain ⟨va', vc', rfl⟩ := own_slice (st.row (i := 1) get1)); (try simp only [nsl, Value.cells, unB] at st); (try simp only [Nat.zero_add] at st); (try clear hc); have hc := st.facts; (try simp only [nfl, nft, Nat.reduceAdd] at hc))
              | ((first
                | ((with_reducible refine wl_box ?_ (fun K hK => ?_)); rfl; refine owp_box (o := ⟨some 2, _, _, _, _, _⟩) rfl st ?_; apply Exists.intro; refine ⟨?_, ?_⟩; (focus (go_simp; try rfl)); (clear st; intro b2 w hb st; clear hb))
                | ((with_reducible refine wl_alloc ?_ (fun K hK => ?_)); rfl; refine owp_alloc (o := ⟨some 7, _, _, _, _, _⟩) rfl st ?_; apply Exists.intro; apply Exists.intro; refine ⟨?_, ?_⟩; (focus (first | (go_simp; done) | (go_simp; rfl))); (clear st; intro b7 w hb st; clear hb))
                | ((with_reducible refine wl_store ?_ (fun K hK => ?_)); rfl; refine owp_store rfl st ?_; apply Exists.intro; apply Exists.intro; refine ⟨?_, ?_, ?_⟩; (focus (go_simp; try rfl)); (focus (go_simp; try rfl)); (first | (with_reducible refine ⟨0, _, _, _, _, get0, rfl, rfl, ?_, ?_, ?_, ?_⟩) | (with_reducible refine ⟨1, _, _, _, _, get1, rfl, rfl, ?_, ?_, ?_, ?_⟩) | (with_reducible refine ⟨2, _, _, _, _, get2, rfl, rfl, ?_, ?_, ?_, ?_⟩) | (with_reducible refine ⟨3, _, _, _, _, get3, rfl, rfl, ?_, ?_, ?_, ?_⟩) | (with_reducible refine ⟨4, _, _, _, _, get4, rfl, rfl, ?_, ?_, ?_, ?_⟩) | (with_reducible refine ⟨5, _, _, _, _, get5, rfl, rfl, ?_, ?_, ?_, ?_⟩)); (kernel_rfl); (simp [Value.cells]); (rfl); (clear st; intro w st))
                | ((with_reducible refine wl_alloc ?_ (fun K hK => ?_)); rfl; refine owp_alloc (o := ⟨some 9, _, _, _, _, _⟩) rfl st ?_; apply Exists.intro; apply Exists.intro; refine ⟨?_, ?_⟩; (focus (first | (go_simp; done) | (go_simp; rfl))); (clear st; intro b9 w hb st; clear hb))
                | ((with_reducible refine wl_alloc ?_ (fun K hK => ?_)); rfl; refine owp_alloc (o := ⟨some 11, _, _, _, _, _⟩) rfl st ?_; apply Exists.intro; apply Exists.intro; refine ⟨?_, ?_⟩; (focus (first | (go_simp; done) | (go_simp; rfl))); (clear st; intro b11 w hb st; clear hb))); (try simp only [nsl, Value.cells, unB] at st); (try clear hc); have hc := st.facts; (try simp only [nfl, nft, Nat.reduceAdd] at hc)))
          have st' := st.keep [0, 1] (by decide) (by simp)
          have HR3 : Hid (r2 + m = (zs ++ ys).length) := Lib.hid (by rw [List.length_append, HR2.out, HM.out])
          go_roundg (an - (j + 1))
          case measure => omega
          case rel => exact ⟨j + 1, r2 + m, zs ++ ys, by omega, by omega, by go_num, hrm, HZ2, HR3, by rw [cellsL_append]; simpa [pick] using st'⟩
        · obtain rfl : an = j := by omega
          have HE2 : Hid (zs = xs ++ setsL (ks.map (fun a => a.f.strip))) := Lib.hid (by rw [HZ.out, List.take_of_length_le (by have := HN2.out; omega)])
          have HB2 : Hid (r2 ≤ nodesL (gs.map (fun g => g.f.strip)) + nodesL (ks.map (fun a => a.f.strip))) := Lib.hid (by
            have h1 := setsL_len (ks.map (fun a => a.f.strip))
            have h2 := HB1.out
            rw [HR2.out, HE2.out, List.length_append, ← HR.out]
            omega)
          clear HZ
          (try simp only [nsl, Value.cells, unB] at st)
          (try clear hc); have hc := st.facts; (try simp only [nfl, nft, Nat.reduceAdd] at hc)
          go_wp2_with fail
          go_loopg [5, 40] fn (fun q ov i wr => ∃ (j r3 : Nat) (us : List Role), j ≤ fn ∧ q = fn - j ∧ i = .int .i64 (j : Int) ∧ r3 ≤ 100000 ∧ Hid (us = zs ++ setsL ((fl.take j).map Fm.strip)) ∧ Hid (r3 = us.length) ∧ Own (fun _ => False) (fun _ => False) W [blkI b2 [.string ⟨nm.toArray⟩, .slice ga gn gc, .slice aa an ac], rowI 23 2 ov r3 (cellsL us)] wr)
          case atStart => exact ⟨0, r2, zs, by omega, by omega, rfl, hr2, Lib.hid (by simp [setsL]), HR2, st⟩
          case round =>
            obtain ⟨j, r3', us, hj, rfl, rfl, hr3, HU, HR3, st'⟩ := hrel
            clear st hc
            have st := st'
            clear st'
            obtain ⟨oa3, oc3, rfl⟩ := own_slice (st.row (i := 1) get1)
            by_cases hjn3 : j < fn
            · obtain ⟨b, off, ha, hcell⟩ := Fl.fm (Arr.ext HF.out st.ext0) (by omega)
              have hjl : j < fl.length := by have := HN3.out; omega
              have hsn := map_snoc_strip fl j hjl
              have hgt := List.getElem?_eq_getElem hjl
              have hok := HK.out _ (List.getElem_mem hjl)
              have hl5 := HFL.out.2.2 _ (List.getElem_mem hjl)
              have hle := setsL_take_le Fm.strip fl (j + 1)
              have hnd := nodesL_mem (fl.map Fm.strip) (fl[j].strip) (List.mem_map.2 ⟨_, List.getElem_mem hjl, rfl⟩)
              have hnn := HNN.out
              have hb2 := HB2.out
              have hz := HR3.out
              rw [HU.out, List.length_append, ← HR2.out] at hz
              rw [hsn, setsL_snoc, List.length_append] at hle
              generalize fl[j] = fx at *
              have HC := Lib.hid (fun W' (hx : Ext W W') => fmAtoms_f fx W' (hok.ext hx) (by omega) hl5)
              have HU2 : Hid (us ++ roleSet fx.strip.atoms = zs ++ setsL ((fl.take (j + 1)).map Fm.strip)) := Lib.hid (by rw [hsn, setsL_snoc, HU.out, List.append_assoc])
              obtain ⟨ys, hys⟩ : ∃ y, roleSet fx.strip.atoms = y := ⟨_, rfl⟩
              rw [hys] at HC HU2 hle
              obtain ⟨m, hm⟩ : ∃ m, ys.length = m := ⟨_, rfl⟩
              rw [hm] at HC hle
              have HM := Lib.hid hm
              have hrm : r3' + m ≤ 100000 := by omega
              clear hsn hok hl5 hle hnd hnn hys hm hjl hb2 hz
              obtain ⟨op, k, ⟨o, d⟩, a', n', c', kids⟩ := fx
              obtain ⟨s0, s1, s2, s3, s4⟩ := hcell j op k (o, d) a' n' c' kids hgt
              clear hcell hgt
              subst ha
              unfold fmV S at HC
              unfold S at s2 s3
              simp only at HC s2 s3
              (try simp only [nsl, Value.cells, unB] at st)
              (try clear hc); have hc := st.facts; (try simp only [nfl, nft, Nat.reduceAdd] at hc)
              go_wp2_with ((first
                    | ((with_reducible refine wl_box ?_ (fun K hK => ?_)); rfl; refine owp_box (o := ⟨some 2, _, _, _, _, _⟩) rfl st ?_; apply Exists.intro; refine ⟨?_, ?_⟩; (focus (go_simp; try rfl)); (clear st; intro b2 w hb st; clear hb))
                    | ((with_reducible refine wl_alloc ?_ (fun K hK => ?_)); rfl; refine owp_alloc (o := ⟨some 7, _, _, _, _, _⟩) rfl st ?_; apply Exists.intro; apply Exists.intro; refine ⟨?_, ?_⟩; (focus (first | (go_simp; done) | (go_simp; rfl))); (clear st; intro b7 w hb st; clear hb))
                    | ((with_reducible refine wl_store ?_ (fun K hK => ?_)); rfl; refine owp_store rfl st ?_; apply Exists.intro; apply Exists.intro; refine ⟨?_, ?_, ?_⟩; (focus (go_simp; try rfl)); (focus (go_simp; try rfl)); (first | (with_reducible refine ⟨0, _, _, _, _, get0, rfl, rfl, ?_, ?_, ?_, ?_⟩) | (with_reducible refine ⟨1, _, _, _, _, get1, rfl, rfl, ?_, ?_, ?_, ?_⟩) | (with_reducible refine ⟨2, _, _, _, _, get2, rfl, rfl, ?_, ?_, ?_, ?_⟩) | (with_reducible refine ⟨3, _, _, _, _, get3, rfl, rfl, ?_, ?_, ?_, ?_⟩) | (with_reducible refine ⟨4, _, _, _, _, get4, rfl, rfl, ?_, ?_, ?_, ?_⟩) | (with_reducible refine ⟨5, _, _, _, _, get5, rfl, rfl, ?_, ?_, ?_, ?_⟩)); (kernel_rfl); (simp [Value.cells]); (rfl); (clear st; intro w st))
                    | ((with_reducible refine wl_alloc ?_ (fun K hK => ?_)); rfl; refine owp_alloc (o := ⟨some 9, _, _, _, _, _⟩) rfl st ?_; apply Exists.intro; apply Exists.intro; refine ⟨?_, ?_⟩; (focus (first | (go_simp; done) | (go_simp; rfl))); (clear st; intro b9 w hb st; clear hb))
                    | ((with_reducible refine wl_alloc ?_ (fun K hK => ?_)); rfl; refine owp_alloc (o := ⟨some 11, _, _, _, _, _⟩) rfl st ?_; apply Exists.intro; apply Exists.intro; refine ⟨?_, ?_⟩; (focus (first | (go_simp; done) | (go_simp; rfl))); (clear st; intro b11 w hb st; clear hb))); (try simp only [nsl, Value.cells, unB] at st); (try clear hc); have hc := st.facts; (try simp only [nfl, nft, Nat.reduceAdd] at hc))
              clear s0 s1 s2 s3 s4
              refine (HC.out _ st.ext0).mono ?_
              rintro en w ⟨ra, rc, rfl, h2⟩
              replace st := st.join h2
              clear h2
              simp only [List.cons_append, List.nil_append] at st
              (try simp only [nsl, Value.cells, unB] at st)
              (try clear hc); have hc := st.facts; (try simp only [nfl, nft, Nat.reduceAdd] at hc)
              go_wp2_with (first
                  | ((with_reducible refine wl_append ?_ (fun K hK => ?_)); (rfl); (obtain ⟨inf, hinf, hz0, hz1, hz2⟩ := roleInfo); (refine owp_append rfl st 1 get1 Try.underlying37 hinf hz0 hz1 hz2 rfl (by decide) rfl rfl ((rowFl' (α := Role) st (i := 3) get3).2.flat) (by first | exact cellsL_all _ | simp [Value.oneCell']) (by simp only [maxLen]; omega) (by omega) ?_); (clear hinf hz0 hz1 hz2 inf); (clear st; intro v' w st); (obtain ⟨va', vc', rfl⟩ := own_slice (st.row (i := 1) get1)); (try simp only [nsl, Value.cells, unB] at st); (try simp only [Nat.zero_add] at st); (try clear hc); have hc := st.facts; (try simp only [nfl, nft, Nat.reduceAdd] at hc))
                  | ((first
                    | ((with_reducible refine wl_box ?_ (fun K hK => ?_)); rfl; refine owp_box (o := ⟨some 2, _, _, _, _, _⟩) rfl st ?_; apply Exists.intro; refine ⟨?_, ?_⟩; (focus (go_simp; try rfl)); (clear st; intro b2 w hb st; clear hb))
                    | ((with_reducible refine wl_alloc ?_ (fun K hK => ?_)); rfl; refine owp_alloc (o := ⟨some 7, _, _, _, _, _⟩) rfl st ?_; apply Exists.intro; apply Exists.intro; refine ⟨?_, ?_⟩; (focus (first | (go_simp; done) | (go_simp; rfl))); (clear st; intro b7 w hb st; clear hb))
                    | ((with_reducible refine wl_store ?_ (fun K hK => ?_)); rfl; refine owp_store rfl st ?_; apply Exists.intro; apply Exists.intro; refine ⟨?_, ?_, ?_⟩; (focus (go_simp; try rfl)); (focus (go_simp; try rfl)); (first | (with_reducible refine ⟨0, _, _, _, _, get0, rfl, rfl, ?_, ?_, ?_, ?_⟩) | (with_reducible refine ⟨1, _, _, _, _, get1, rfl, rfl, ?_, ?_, ?_, ?_⟩) | (with_reducible refine ⟨2, _, _, _, _, get2, rfl, rfl, ?_, ?_, ?_, ?_⟩) | (with_reducible refine ⟨3, _, _, _, _, get3, rfl, rfl, ?_, ?_, ?_, ?_⟩) | (with_reducible refine ⟨4, _, _, _, _, get4, rfl, rfl, ?_, ?_, ?_, ?_⟩) | (with_reducible refine ⟨5, _, _, _, _, get5, rfl, rfl, ?_, ?_, ?_, ?_⟩)); (kernel_rfl); (simp [Value.cells]); (rfl); (clear st; intro w st))
                    | ((with_reducible refine wl_alloc ?_ (fun K hK => ?_)); rfl; refine owp_alloc (o := ⟨some 9, _, _, _, _, _⟩) rfl st ?_; apply Exists.intro; apply Exists.intro; refine ⟨?_, ?_⟩; (focus (first | (go_simp; done) | (go_simp; rfl))); (clear st; intro b9 w hb st; clear hb))
                    | ((with_reducible refine wl_alloc ?_ (fun K hK => ?_)); rfl; refine owp_alloc (o := ⟨some 11, _, _, _, _, _⟩) rfl st ?_; apply Exists.intro; apply Exists.intro; refine ⟨?_, ?_⟩; (focus (first | (go_simp; done) | (go_simp; rfl))); (clear st; intro b11 w hb st; clear hb))); (try simp only [nsl, Value.cells, unB] at st); (try clear hc); have hc := st.facts; (try simp only [nfl, nft, Nat.reduceAdd] at hc)))
              have st' := st.keep [0, 1] (by decide) (by simp)
              have HR4 : Hid (r3' + m = (us ++ ys).length) := Lib.hid (by rw [List.length_append, HR3.out, HM.out])
              go_roundg (fn - (j + 1))
              case measure => omega
              case rel => exact ⟨j + 1, r3' + m, us ++ ys, by omega, by omega, by go_num, hrm, HU2, HR4, by rw [cellsL_append]; simpa [pick] using st'⟩
            · obtain rfl : fn = j := by omega
              have HE3 : Hid (us = res) := Lib.hid (by rw [← HW.out, HU.out, HE2.out, HE1.out, List.take_of_length_le (by have := HN3.out; omega)])
              have HST := Lib.hid (fun a n c W (h : Fl W a n us) (hn : n ≤ 2000000) => roleSet_any a n c us W h hn (by rw [HE3.out]; exact HRL.out))
              rw [HE3.out, HRS.out, HLN.out] at HST
              clear HLN
              have hfl2 := (rowFl' (α := Role) st (i := 1) get1).2
              rw [HE3.out] at hfl2
              have HFL2 := Lib.hid hfl2
              clear hfl2
              (try simp only [nsl, Value.cells, unB] at st)
              (try clear hc); have hc := st.facts; (try simp only [nfl, nft, Nat.reduceAdd] at hc)
              go_wp2_with fail
              refine (HST.out _ _ _ _ HFL2.out (by omega)).mono ?_
              rintro en w ⟨va, vc, rfl, hfr⟩
              replace st := st.ext hfr.ext
              have hans := (FreshI.fl (α := Role) hfr).2
              have HANS := Lib.hid hans
              clear hfr HFL2 hans
              (try simp only [nsl, Value.cells, unB] at st)
              (try clear hc); have hc := st.facts; (try simp only [nfl, nft, Nat.reduceAdd] at hc)
              go_wp2_with fail
              go_ret
              exact ⟨_, _, rfl, HANS.out, st.ext0⟩
end Go.Proofs.Ythjaopojlhdjpaa

namespace Go.Proofs.Ythjaopojlhdjpaa
set_option linter.unusedSimpArgs false
set_option linter.unusedVariables false
open Go Go.RowKit
def wIn (n lo hi : Int) : Bool := decide (lo ≤ n) && decide (n ≤ hi)
/-- Right terms. -/
def termR (p r t y b : Int) : Bool := wIn p 1 2 && wIn r 0 256 && wIn t 1 1000 && wIn y 0 100 && wIn b 0 1073741824
def tickN (n r t : Int) : Int := if (wIn n 0 1048576 && wIn r 0 1048576 && wIn t 0 1048576) = true then n * max r t + 1 else 0
theorem wIn_t {n lo hi : Int} (h1 : lo ≤ n) (h2 : n ≤ hi) : wIn n lo hi = true := by unfold wIn; rw [decide_eq_true h1, decide_eq_true h2]; rfl
theorem wIn_f {n lo hi : Int} (h : ¬ (lo ≤ n ∧ n ≤ hi)) : wIn n lo hi = false := by
  unfold wIn
  by_cases h1 : lo ≤ n
  · rw [decide_eq_false (fun q => h ⟨h1, q⟩), Bool.and_false]
  · rw [decide_eq_false h1, Bool.false_and]
set_option maxRecDepth 100000 in
set_option maxHeartbeats 1000000 in
theorem within_any (n lo hi : Int) (W : World) : Calls Try.prog 54 #[.int .i64 n, .int .i64 lo, .int .i64 hi] W fun e w' => e = .returned (.bool (wIn n lo hi)) ∧ Ext W w' := by
  have st := Own.startOld W
  by_cases h1 : lo ≤ n
  · by_cases h2 : n ≤ hi
    · have H := Lib.hid (wIn_t h1 h2)
      rw [H.out]
      go_enter Try.func54, Try.ntmps54
      go_wp2_with fail
      go_ret
      exact ⟨rfl, Ext.refl _⟩
    · have H := Lib.hid (wIn_f (n := n) (lo := lo) (hi := hi) (fun q => h2 q.2))
      rw [H.out]
      go_enter Try.func54, Try.ntmps54
      go_wp2_with fail
      go_ret
      exact ⟨rfl, Ext.refl _⟩
  · have H := Lib.hid (wIn_f (n := n) (lo := lo) (hi := hi) (fun q => h1 q.1))
    rw [H.out]
    go_enter Try.func54, Try.ntmps54
    go_wp2_with fail
    go_ret
    exact ⟨rfl, Ext.refl _⟩
def tV (o : Bool) (p r t y b : Int) : Value := .agg #[.bool o, .int .i64 p, .int .i64 r, .int .i64 t, .int .i64 y, .int .i64 b]
set_option maxRecDepth 100000 in
set_option maxHeartbeats 2000000 in
theorem capsRight_any (o : Bool) (p r t y b : Int) (W : World) : Calls Try.prog 21 #[tV o p r t y b] W fun e w' => e = .returned (.bool (termR p r t y b)) ∧ Ext W w' := by
  have st := Own.startOld W
  have H1 := Lib.hid (within_any p 1 2)
  have H2 := Lib.hid (within_any r 0 256)
  have H3 := Lib.hid (within_any t 1 1000)
  have H4 := Lib.hid (within_any y 0 100)
  have H5 := Lib.hid (within_any b 0 1073741824)
  have HV0 : Hid (termR p r t y b = (wIn p 1 2 && wIn r 0 256 && wIn t 1 1000 && wIn y 0 100 && wIn b 0 1073741824)) := Lib.hid rfl
  obtain ⟨v, hv⟩ : ∃ v, termR p r t y b = v := ⟨_, rfl⟩
  rw [hv] at HV0 ⊢
  clear hv
  generalize wIn p 1 2 = a1 at *
  generalize wIn r 0 256 = a2 at *
  generalize wIn t 1 1000 = a3 at *
  generalize wIn y 0 100 = a4 at *
  generalize wIn b 0 1073741824 = a5 at *
  have HV := HV0
  clear HV0
  unfold tV
  (try simp only [nsl, Value.cells, unB] at st)
  (try clear hc); have hc := st.facts; (try simp only [nfl, nft, Nat.reduceAdd] at hc)
  go_enter Try.func21, Try.ntmps21
  go_wp2_with ((((with_reducible refine wl_box ?_ (fun K hK => ?_)); rfl; refine owp_box (o := ⟨some 1, _, _, _, _, _⟩) rfl st ?_; apply Exists.intro; refine ⟨?_, ?_⟩; (focus (go_simp; try rfl)); (clear st; intro b1 w hb st; clear hb))); (try simp only [nsl, Value.cells, unB] at st); (try clear hc); have hc := st.facts; (try simp only [nfl, nft, Nat.reduceAdd] at hc))
  refine (H1.out _).mono ?_
  rintro en w ⟨rfl, hx⟩
  replace st := st.ext hx
  clear hx
  (try clear hc); have hc := st.facts; (try simp only [nfl, nft, Nat.reduceAdd] at hc)
  cases a1 with
  | false =>
    have H : Hid (v = false) := Lib.hid (by rw [HV.out]; rfl)
    go_wp2_with ((((with_reducible refine wl_box ?_ (fun K hK => ?_)); rfl; refine owp_box (o := ⟨some 1, _, _, _, _, _⟩) rfl st ?_; apply Exists.intro; refine ⟨?_, ?_⟩; (focus (go_simp; try rfl)); (clear st; intro b1 w hb st; clear hb))); (try simp only [nsl, Value.cells, unB] at st); (try clear hc); have hc := st.facts; (try simp only [nfl, nft, Nat.reduceAdd] at hc))
    go_ret
    exact ⟨by rw [H.out] <;> rfl, st.ext0⟩
  | true =>
    go_wp2_with ((((with_reducible refine wl_box ?_ (fun K hK => ?_)); rfl; refine owp_box (o := ⟨some 1, _, _, _, _, _⟩) rfl st ?_; apply Exists.intro; refine ⟨?_, ?_⟩; (focus (go_simp; try rfl)); (clear st; intro b1 w hb st; clear hb))); (try simp only [nsl, Value.cells, unB] at st); (try clear hc); have hc := st.facts; (try simp only [nfl, nft, Nat.reduceAdd] at hc))
    refine (H2.out _).mono ?_
    rintro en w ⟨rfl, hx⟩
    replace st := st.ext hx
    clear hx
    (try clear hc); have hc := st.facts; (try simp only [nfl, nft, Nat.reduceAdd] at hc)
    cases a2 with
    | false =>
      have H : Hid (v = false) := Lib.hid (by rw [HV.out]; rfl)
      go_wp2_with ((((with_reducible refine wl_box ?_ (fun K hK => ?_)); rfl; refine owp_box (o := ⟨some 1, _, _, _, _, _⟩) rfl st ?_; apply Exists.intro; refine ⟨?_, ?_⟩; (focus (go_simp; try rfl)); (clear st; intro b1 w hb st; clear hb))); (try simp only [nsl, Value.cells, unB] at st); (try clear hc); have hc := st.facts; (try simp only [nfl, nft, Nat.reduceAdd] at hc))
      go_ret
      exact ⟨by rw [H.out] <;> rfl, st.ext0⟩
    | true =>
      go_wp2_with ((((with_reducible refine wl_box ?_ (fun K hK => ?_)); rfl; refine owp_box (o := ⟨some 1, _, _, _, _, _⟩) rfl st ?_; apply Exists.intro; refine ⟨?_, ?_⟩; (focus (go_simp; try rfl)); (clear st; intro b1 w hb st; clear hb))); (try simp only [nsl, Value.cells, unB] at st); (try clear hc); have hc := st.facts; (try simp only [nfl, nft, Nat.reduceAdd] at hc))
      refine (H3.out _).mono ?_
      rintro en w ⟨rfl, hx⟩
      replace st := st.ext hx
      clear hx
      (try clear hc); have hc := st.facts; (try simp only [nfl, nft, Nat.reduceAdd] at hc)
      cases a3 with
      | false =>
        have H : Hid (v = false) := Lib.hid (by rw [HV.out]; rfl)
        go_wp2_with ((((with_reducible refine wl_box ?_ (fun K hK => ?_)); rfl; refine owp_box (o := ⟨some 1, _, _, _, _, _⟩) rfl st ?_; apply Exists.intro; refine ⟨?_, ?_⟩; (focus (go_simp; try rfl)); (clear st; intro b1 w hb st; clear hb))); (try simp only [nsl, Value.cells, unB] at st); (try clear hc); have hc := st.facts; (try simp only [nfl, nft, Nat.reduceAdd] at hc))
        go_ret
        exact ⟨by rw [H.out] <;> rfl, st.ext0⟩
      | true =>
        go_wp2_with ((((with_reducible refine wl_box ?_ (fun K hK => ?_)); rfl; refine owp_box (o := ⟨some 1, _, _, _, _, _⟩) rfl st ?_; apply Exists.intro; refine ⟨?_, ?_⟩; (focus (go_simp; try rfl)); (clear st; intro b1 w hb st; clear hb))); (try simp only [nsl, Value.cells, unB] at st); (try clear hc); have hc := st.facts; (try simp only [nfl, nft, Nat.reduceAdd] at hc))
        refine (H4.out _).mono ?_
        rintro en w ⟨rfl, hx⟩
        replace st := st.ext hx
        clear hx
        (try clear hc); have hc := st.facts; (try simp only [nfl, nft, Nat.reduceAdd] at hc)
        cases a4 with
        | false =>
          have H : Hid (v = false) := Lib.hid (by rw [HV.out]; rfl)
          go_wp2_with ((((with_reducible refine wl_box ?_ (fun K hK => ?_)); rfl; refine owp_box (o := ⟨some 1, _, _, _, _, _⟩) rfl st ?_; apply Exists.intro; refine ⟨?_, ?_⟩; (focus (go_simp; try rfl)); (clear st; intro b1 w hb st; clear hb))); (try simp only [nsl, Value.cells, unB] at st); (try clear hc); have hc := st.facts; (try simp only [nfl, nft, Nat.reduceAdd] at hc))
          go_ret
          exact ⟨by rw [H.out] <;> rfl, st.ext0⟩
        | true =>
          have H : Hid (v = a5) := Lib.hid (by rw [HV.out]; simp)
          go_wp2_with ((((with_reducible refine wl_box ?_ (fun K hK => ?_)); rfl; refine owp_box (o := ⟨some 1, _, _, _, _, _⟩) rfl st ?_; apply Exists.intro; refine ⟨?_, ?_⟩; (focus (go_simp; try rfl)); (clear st; intro b1 w hb st; clear hb))); (try simp only [nsl, Value.cells, unB] at st); (try clear hc); have hc := st.facts; (try simp only [nfl, nft, Nat.reduceAdd] at hc))
          refine (H5.out _).mono ?_
          rintro en w ⟨rfl, hx⟩
          replace st := st.ext hx
          clear hx
          (try clear hc); have hc := st.facts; (try simp only [nfl, nft, Nat.reduceAdd] at hc)
          go_wp2_with ((((with_reducible refine wl_box ?_ (fun K hK => ?_)); rfl; refine owp_box (o := ⟨some 1, _, _, _, _, _⟩) rfl st ?_; apply Exists.intro; refine ⟨?_, ?_⟩; (focus (go_simp; try rfl)); (clear st; intro b1 w hb st; clear hb))); (try simp only [nsl, Value.cells, unB] at st); (try clear hc); have hc := st.facts; (try simp only [nfl, nft, Nat.reduceAdd] at hc))
          go_ret
          exact ⟨by rw [H.out] <;> simp, st.ext0⟩
set_option maxRecDepth 100000 in
set_option maxHeartbeats 2000000 in
theorem refCapsRight_any (o : Bool) (p r t y b : Int) (W : World) : Calls Try.prog 22 #[tV o p r t y b] W fun e w' => e = .returned (.bool (termR p r t y b)) ∧ Ext W w' := by
  have st := Own.startOld W
  have HV : Hid (termR p r t y b = (wIn p 1 2 && wIn r 0 256 && wIn t 1 1000 && wIn y 0 100 && wIn b 0 1073741824)) := Lib.hid rfl
  obtain ⟨v, hv⟩ : ∃ v, termR p r t y b = v := ⟨_, rfl⟩
  rw [hv] at HV ⊢
  clear hv
  unfold tV
  by_cases p1 : p = 1 ∨ p = 2
  case neg =>
    have H : Hid (v = false) := Lib.hid (by rw [HV.out, wIn_f (by omega)]; rfl)
    have e1 : (p == 1) = false := by simp; omega
    have e2 : (p == 2) = false := by simp; omega
    have e1' : (p != 1) = true := by simp; omega
    have e2' : (p != 2) = true := by simp; omega
    clear p1
    (try simp only [nsl, Value.cells, unB] at st)
    (try clear hc); have hc := st.facts; (try simp only [nfl, nft, Nat.reduceAdd] at hc)
    go_enter Try.func22, Try.ntmps22
    go_wp2_with ((((with_reducible refine wl_box ?_ (fun K hK => ?_)); rfl; refine owp_box (o := ⟨some 1, _, _, _, _, _⟩) rfl st ?_; apply Exists.intro; refine ⟨?_, ?_⟩; (focus (go_simp; try rfl)); (clear st; intro b1 w hb st; clear hb))); (try simp only [nsl, Value.cells, unB] at st); (try clear hc); have hc := st.facts; (try simp only [nfl, nft, Nat.reduceAdd] at hc))
    go_ret
    exact ⟨by rw [H.out] <;> first | rfl | simp, st.ext0⟩
  have HP : Hid (wIn p 1 2 = true) := Lib.hid (wIn_t (by omega) (by omega))
  have HPP := Lib.hid p1
  by_cases r0 : r < 0
  · have H : Hid (v = false) := Lib.hid (by rw [HV.out, wIn_f (n := r) (by omega)]; simp)
    rcases p1 with rfl | rfl
    · skip
      (try simp only [nsl, Value.cells, unB] at st)
      (try clear hc); have hc := st.facts; (try simp only [nfl, nft, Nat.reduceAdd] at hc)
      go_enter Try.func22, Try.ntmps22
      go_wp2_with ((((with_reducible refine wl_box ?_ (fun K hK => ?_)); rfl; refine owp_box (o := ⟨some 1, _, _, _, _, _⟩) rfl st ?_; apply Exists.intro; refine ⟨?_, ?_⟩; (focus (go_simp; try rfl)); (clear st; intro b1 w hb st; clear hb))); (try simp only [nsl, Value.cells, unB] at st); (try clear hc); have hc := st.facts; (try simp only [nfl, nft, Nat.reduceAdd] at hc))
      go_ret
      exact ⟨by rw [H.out] <;> first | rfl | simp, st.ext0⟩
    · skip
      (try simp only [nsl, Value.cells, unB] at st)
      (try clear hc); have hc := st.facts; (try simp only [nfl, nft, Nat.reduceAdd] at hc)
      go_enter Try.func22, Try.ntmps22
      go_wp2_with ((((with_reducible refine wl_box ?_ (fun K hK => ?_)); rfl; refine owp_box (o := ⟨some 1, _, _, _, _, _⟩) rfl st ?_; apply Exists.intro; refine ⟨?_, ?_⟩; (focus (go_simp; try rfl)); (clear st; intro b1 w hb st; clear hb))); (try simp only [nsl, Value.cells, unB] at st); (try clear hc); have hc := st.facts; (try simp only [nfl, nft, Nat.reduceAdd] at hc))
      go_ret
      exact ⟨by rw [H.out] <;> first | rfl | simp, st.ext0⟩
  by_cases r1 : 256 < r
  · have H : Hid (v = false) := Lib.hid (by rw [HV.out, wIn_f (n := r) (by omega)]; simp)
    rcases p1 with rfl | rfl
    · skip
      (try simp only [nsl, Value.cells, unB] at st)
      (try clear hc); have hc := st.facts; (try simp only [nfl, nft, Nat.reduceAdd] at hc)
      go_enter Try.func22, Try.ntmps22
      go_wp2_with ((((with_reducible refine wl_box ?_ (fun K hK => ?_)); rfl; refine owp_box (o := ⟨some 1, _, _, _, _, _⟩) rfl st ?_; apply Exists.intro; refine ⟨?_, ?_⟩; (focus (go_simp; try rfl)); (clear st; intro b1 w hb st; clear hb))); (try simp only [nsl, Value.cells, unB] at st); (try clear hc); have hc := st.facts; (try simp only [nfl, nft, Nat.reduceAdd] at hc))
      go_ret
      exact ⟨by rw [H.out] <;> first | rfl | simp, st.ext0⟩
    · skip
      (try simp only [nsl, Value.cells, unB] at st)
      (try clear hc); have hc := st.facts; (try simp only [nfl, nft, Nat.reduceAdd] at hc)
      go_enter Try.func22, Try.ntmps22
      go_wp2_with ((((with_reducible refine wl_box ?_ (fun K hK => ?_)); rfl; refine owp_box (o := ⟨some 1, _, _, _, _, _⟩) rfl st ?_; apply Exists.intro; refine ⟨?_, ?_⟩; (focus (go_simp; try rfl)); (clear st; intro b1 w hb st; clear hb))); (try simp only [nsl, Value.cells, unB] at st); (try clear hc); have hc := st.facts; (try simp only [nfl, nft, Nat.reduceAdd] at hc))
      go_ret
      exact ⟨by rw [H.out] <;> first | rfl | simp, st.ext0⟩
  have HR : Hid (wIn r 0 256 = true) := Lib.hid (wIn_t (by omega) (by omega))
  by_cases t0 : t < 1
  · have H : Hid (v = false) := Lib.hid (by rw [HV.out, wIn_f (n := t) (by omega)]; simp)
    rcases p1 with rfl | rfl
    · skip
      (try simp only [nsl, Value.cells, unB] at st)
      (try clear hc); have hc := st.facts; (try simp only [nfl, nft, Nat.reduceAdd] at hc)
      go_enter Try.func22, Try.ntmps22
      go_wp2_with ((((with_reducible refine wl_box ?_ (fun K hK => ?_)); rfl; refine owp_box (o := ⟨some 1, _, _, _, _, _⟩) rfl st ?_; apply Exists.intro; refine ⟨?_, ?_⟩; (focus (go_simp; try rfl)); (clear st; intro b1 w hb st; clear hb))); (try simp only [nsl, Value.cells, unB] at st); (try clear hc); have hc := st.facts; (try simp only [nfl, nft, Nat.reduceAdd] at hc))
      go_ret
      exact ⟨by rw [H.out] <;> first | rfl | simp, st.ext0⟩
    · skip
      (try simp only [nsl, Value.cells, unB] at st)
      (try clear hc); have hc := st.facts; (try simp only [nfl, nft, Nat.reduceAdd] at hc)
      go_enter Try.func22, Try.ntmps22
      go_wp2_with ((((with_reducible refine wl_box ?_ (fun K hK => ?_)); rfl; refine owp_box (o := ⟨some 1, _, _, _, _, _⟩) rfl st ?_; apply Exists.intro; refine ⟨?_, ?_⟩; (focus (go_simp; try rfl)); (clear st; intro b1 w hb st; clear hb))); (try simp only [nsl, Value.cells, unB] at st); (try clear hc); have hc := st.facts; (try simp only [nfl, nft, Nat.reduceAdd] at hc))
      go_ret
      exact ⟨by rw [H.out] <;> first | rfl | simp, st.ext0⟩
  by_cases t1 : 1000 < t
  · have H : Hid (v = false) := Lib.hid (by rw [HV.out, wIn_f (n := t) (by omega)]; simp)
    rcases p1 with rfl | rfl
    · skip
      (try simp only [nsl, Value.cells, unB] at st)
      (try clear hc); have hc := st.facts; (try simp only [nfl, nft, Nat.reduceAdd] at hc)
      go_enter Try.func22, Try.ntmps22
      go_wp2_with ((((with_reducible refine wl_box ?_ (fun K hK => ?_)); rfl; refine owp_box (o := ⟨some 1, _, _, _, _, _⟩) rfl st ?_; apply Exists.intro; refine ⟨?_, ?_⟩; (focus (go_simp; try rfl)); (clear st; intro b1 w hb st; clear hb))); (try simp only [nsl, Value.cells, unB] at st); (try clear hc); have hc := st.facts; (try simp only [nfl, nft, Nat.reduceAdd] at hc))
      go_ret
      exact ⟨by rw [H.out] <;> first | rfl | simp, st.ext0⟩
    · skip
      (try simp only [nsl, Value.cells, unB] at st)
      (try clear hc); have hc := st.facts; (try simp only [nfl, nft, Nat.reduceAdd] at hc)
      go_enter Try.func22, Try.ntmps22
      go_wp2_with ((((with_reducible refine wl_box ?_ (fun K hK => ?_)); rfl; refine owp_box (o := ⟨some 1, _, _, _, _, _⟩) rfl st ?_; apply Exists.intro; refine ⟨?_, ?_⟩; (focus (go_simp; try rfl)); (clear st; intro b1 w hb st; clear hb))); (try simp only [nsl, Value.cells, unB] at st); (try clear hc); have hc := st.facts; (try simp only [nfl, nft, Nat.reduceAdd] at hc))
      go_ret
      exact ⟨by rw [H.out] <;> first | rfl | simp, st.ext0⟩
  have HT : Hid (wIn t 1 1000 = true) := Lib.hid (wIn_t (by omega) (by omega))
  have HV2 : Hid (v = (wIn y 0 100 && wIn b 0 1073741824)) := Lib.hid (by rw [HV.out, HP.out, HR.out, HT.out]; simp)
  by_cases y0 : 0 ≤ y
  case neg =>
    have H : Hid (v = false) := Lib.hid (by rw [HV2.out, wIn_f (n := y) (by omega)]; simp)
    rcases p1 with rfl | rfl
    · skip
      (try simp only [nsl, Value.cells, unB] at st)
      (try clear hc); have hc := st.facts; (try simp only [nfl, nft, Nat.reduceAdd] at hc)
      go_enter Try.func22, Try.ntmps22
      go_wp2_with ((((with_reducible refine wl_box ?_ (fun K hK => ?_)); rfl; refine owp_box (o := ⟨some 1, _, _, _, _, _⟩) rfl st ?_; apply Exists.intro; refine ⟨?_, ?_⟩; (focus (go_simp; try rfl)); (clear st; intro b1 w hb st; clear hb))); (try simp only [nsl, Value.cells, unB] at st); (try clear hc); have hc := st.facts; (try simp only [nfl, nft, Nat.reduceAdd] at hc))
      go_ret
      exact ⟨by rw [H.out] <;> first | rfl | simp, st.ext0⟩
    · skip
      (try simp only [nsl, Value.cells, unB] at st)
      (try clear hc); have hc := st.facts; (try simp only [nfl, nft, Nat.reduceAdd] at hc)
      go_enter Try.func22, Try.ntmps22
      go_wp2_with ((((with_reducible refine wl_box ?_ (fun K hK => ?_)); rfl; refine owp_box (o := ⟨some 1, _, _, _, _, _⟩) rfl st ?_; apply Exists.intro; refine ⟨?_, ?_⟩; (focus (go_simp; try rfl)); (clear st; intro b1 w hb st; clear hb))); (try simp only [nsl, Value.cells, unB] at st); (try clear hc); have hc := st.facts; (try simp only [nfl, nft, Nat.reduceAdd] at hc))
      go_ret
      exact ⟨by rw [H.out] <;> first | rfl | simp, st.ext0⟩
  by_cases y1 : y ≤ 100
  case neg =>
    have H : Hid (v = false) := Lib.hid (by rw [HV2.out, wIn_f (n := y) (by omega)]; simp)
    rcases p1 with rfl | rfl
    · skip
      (try simp only [nsl, Value.cells, unB] at st)
      (try clear hc); have hc := st.facts; (try simp only [nfl, nft, Nat.reduceAdd] at hc)
      go_enter Try.func22, Try.ntmps22
      go_wp2_with ((((with_reducible refine wl_box ?_ (fun K hK => ?_)); rfl; refine owp_box (o := ⟨some 1, _, _, _, _, _⟩) rfl st ?_; apply Exists.intro; refine ⟨?_, ?_⟩; (focus (go_simp; try rfl)); (clear st; intro b1 w hb st; clear hb))); (try simp only [nsl, Value.cells, unB] at st); (try clear hc); have hc := st.facts; (try simp only [nfl, nft, Nat.reduceAdd] at hc))
      go_ret
      exact ⟨by rw [H.out] <;> first | rfl | simp, st.ext0⟩
    · skip
      (try simp only [nsl, Value.cells, unB] at st)
      (try clear hc); have hc := st.facts; (try simp only [nfl, nft, Nat.reduceAdd] at hc)
      go_enter Try.func22, Try.ntmps22
      go_wp2_with ((((with_reducible refine wl_box ?_ (fun K hK => ?_)); rfl; refine owp_box (o := ⟨some 1, _, _, _, _, _⟩) rfl st ?_; apply Exists.intro; refine ⟨?_, ?_⟩; (focus (go_simp; try rfl)); (clear st; intro b1 w hb st; clear hb))); (try simp only [nsl, Value.cells, unB] at st); (try clear hc); have hc := st.facts; (try simp only [nfl, nft, Nat.reduceAdd] at hc))
      go_ret
      exact ⟨by rw [H.out] <;> first | rfl | simp, st.ext0⟩
  by_cases b0 : 0 ≤ b
  case neg =>
    have H : Hid (v = false) := Lib.hid (by rw [HV2.out, wIn_f (n := b) (by omega)]; simp)
    rcases p1 with rfl | rfl
    · skip
      (try simp only [nsl, Value.cells, unB] at st)
      (try clear hc); have hc := st.facts; (try simp only [nfl, nft, Nat.reduceAdd] at hc)
      go_enter Try.func22, Try.ntmps22
      go_wp2_with ((((with_reducible refine wl_box ?_ (fun K hK => ?_)); rfl; refine owp_box (o := ⟨some 1, _, _, _, _, _⟩) rfl st ?_; apply Exists.intro; refine ⟨?_, ?_⟩; (focus (go_simp; try rfl)); (clear st; intro b1 w hb st; clear hb))); (try simp only [nsl, Value.cells, unB] at st); (try clear hc); have hc := st.facts; (try simp only [nfl, nft, Nat.reduceAdd] at hc))
      go_ret
      exact ⟨by rw [H.out] <;> first | rfl | simp, st.ext0⟩
    · skip
      (try simp only [nsl, Value.cells, unB] at st)
      (try clear hc); have hc := st.facts; (try simp only [nfl, nft, Nat.reduceAdd] at hc)
      go_enter Try.func22, Try.ntmps22
      go_wp2_with ((((with_reducible refine wl_box ?_ (fun K hK => ?_)); rfl; refine owp_box (o := ⟨some 1, _, _, _, _, _⟩) rfl st ?_; apply Exists.intro; refine ⟨?_, ?_⟩; (focus (go_simp; try rfl)); (clear st; intro b1 w hb st; clear hb))); (try simp only [nsl, Value.cells, unB] at st); (try clear hc); have hc := st.facts; (try simp only [nfl, nft, Nat.reduceAdd] at hc))
      go_ret
      exact ⟨by rw [H.out] <;> first | rfl | simp, st.ext0⟩
  by_cases b1 : b ≤ 1073741824
  case neg =>
    have H : Hid (v = false) := Lib.hid (by rw [HV2.out, wIn_f (n := b) (by omega)]; simp)
    rcases p1 with rfl | rfl
    · skip
      (try simp only [nsl, Value.cells, unB] at st)
      (try clear hc); have hc := st.facts; (try simp only [nfl, nft, Nat.reduceAdd] at hc)
      go_enter Try.func22, Try.ntmps22
      go_wp2_with ((((with_reducible refine wl_box ?_ (fun K hK => ?_)); rfl; refine owp_box (o := ⟨some 1, _, _, _, _, _⟩) rfl st ?_; apply Exists.intro; refine ⟨?_, ?_⟩; (focus (go_simp; try rfl)); (clear st; intro b1 w hb st; clear hb))); (try simp only [nsl, Value.cells, unB] at st); (try clear hc); have hc := st.facts; (try simp only [nfl, nft, Nat.reduceAdd] at hc))
      go_ret
      exact ⟨by rw [H.out] <;> first | rfl | simp, st.ext0⟩
    · skip
      (try simp only [nsl, Value.cells, unB] at st)
      (try clear hc); have hc := st.facts; (try simp only [nfl, nft, Nat.reduceAdd] at hc)
      go_enter Try.func22, Try.ntmps22
      go_wp2_with ((((with_reducible refine wl_box ?_ (fun K hK => ?_)); rfl; refine owp_box (o := ⟨some 1, _, _, _, _, _⟩) rfl st ?_; apply Exists.intro; refine ⟨?_, ?_⟩; (focus (go_simp; try rfl)); (clear st; intro b1 w hb st; clear hb))); (try simp only [nsl, Value.cells, unB] at st); (try clear hc); have hc := st.facts; (try simp only [nfl, nft, Nat.reduceAdd] at hc))
      go_ret
      exact ⟨by rw [H.out] <;> first | rfl | simp, st.ext0⟩
  have H : Hid (v = true) := Lib.hid (by rw [HV2.out, wIn_t y0 y1, wIn_t b0 b1]; rfl)
  rcases p1 with rfl | rfl
  · skip
    (try simp only [nsl, Value.cells, unB] at st)
    (try clear hc); have hc := st.facts; (try simp only [nfl, nft, Nat.reduceAdd] at hc)
    go_enter Try.func22, Try.ntmps22
    go_wp2_with ((((with_reducible refine wl_box ?_ (fun K hK => ?_)); rfl; refine owp_box (o := ⟨some 1, _, _, _, _, _⟩) rfl st ?_; apply Exists.intro; refine ⟨?_, ?_⟩; (focus (go_simp; try rfl)); (clear st; intro b1 w hb st; clear hb))); (try simp only [nsl, Value.cells, unB] at st); (try clear hc); have hc := st.facts; (try simp only [nfl, nft, Nat.reduceAdd] at hc))
    go_ret
    exact ⟨by rw [H.out] <;> first | rfl | simp, st.ext0⟩
  · skip
    (try simp only [nsl, Value.cells, unB] at st)
    (try clear hc); have hc := st.facts; (try simp only [nfl, nft, Nat.reduceAdd] at hc)
    go_enter Try.func22, Try.ntmps22
    go_wp2_with ((((with_reducible refine wl_box ?_ (fun K hK => ?_)); rfl; refine owp_box (o := ⟨some 1, _, _, _, _, _⟩) rfl st ?_; apply Exists.intro; refine ⟨?_, ?_⟩; (focus (go_simp; try rfl)); (clear st; intro b1 w hb st; clear hb))); (try simp only [nsl, Value.cells, unB] at st); (try clear hc); have hc := st.facts; (try simp only [nfl, nft, Nat.reduceAdd] at hc))
    go_ret
    exact ⟨by rw [H.out] <;> first | rfl | simp, st.ext0⟩
theorem tick_bd {n r t : Int} (h : 0 ≤ n ∧ n ≤ 1048576) (hr : 0 ≤ r ∧ r ≤ 1048576) (ht : 0 ≤ t ∧ t ≤ 1048576) : 0 ≤ n * max r t ∧ n * max r t ≤ 1099511627776 :=
  ⟨Int.mul_nonneg h.1 (by omega), Int.le_trans (Int.mul_le_mul h.2 (show max r t ≤ 1048576 by omega) (by omega) (by omega)) (by decide)⟩
set_option maxRecDepth 100000 in
set_option maxHeartbeats 2000000 in
theorem capsTicks_any (n r t : Int) (W : World) : Calls Try.prog 23 #[.int .i64 n, .int .i64 r, .int .i64 t] W fun e w' => e = .returned (.int .i64 (tickN n r t)) ∧ Ext W w' := by
  have st := Own.startOld W
  have H1 := Lib.hid (within_any n 0 1048576)
  have H2 := Lib.hid (within_any r 0 1048576)
  have H3 := Lib.hid (within_any t 0 1048576)
  have HV : Hid (tickN n r t = if (wIn n 0 1048576 && wIn r 0 1048576 && wIn t 0 1048576) = true then n * max r t + 1 else 0) := Lib.hid rfl
  obtain ⟨v, hv⟩ : ∃ v, tickN n r t = v := ⟨_, rfl⟩
  rw [hv] at HV ⊢
  clear hv
  by_cases n0 : 0 ≤ n ∧ n ≤ 1048576
  case neg =>
    have H : Hid (v = 0) := Lib.hid (by rw [HV.out, wIn_f n0]; rfl)
    rw [wIn_f n0] at H1
    clear n0
    (try simp only [nsl, Value.cells, unB] at st)
    (try clear hc); have hc := st.facts; (try simp only [nfl, nft, Nat.reduceAdd] at hc)
    go_enter Try.func23, Try.ntmps23
    go_wp2_with fail
    refine (H1.out _).mono ?_
    rintro en w ⟨rfl, hx⟩
    replace st := st.ext hx
    clear hx
    (try clear hc); have hc := st.facts; (try simp only [nfl, nft, Nat.reduceAdd] at hc)
    go_wp2_with fail
    go_ret
    exact ⟨by rw [H.out] <;> rfl, st.ext0⟩
  by_cases r0 : 0 ≤ r ∧ r ≤ 1048576
  case neg =>
    have H : Hid (v = 0) := Lib.hid (by rw [HV.out, wIn_f r0, Bool.and_false]; rfl)
    rw [wIn_t n0.1 n0.2] at H1
    rw [wIn_f r0] at H2
    clear n0 r0
    (try simp only [nsl, Value.cells, unB] at st)
    (try clear hc); have hc := st.facts; (try simp only [nfl, nft, Nat.reduceAdd] at hc)
    go_enter Try.func23, Try.ntmps23
    go_wp2_with fail
    refine (H1.out _).mono ?_
    rintro en w ⟨rfl, hx⟩
    replace st := st.ext hx
    clear hx
    (try clear hc); have hc := st.facts; (try simp only [nfl, nft, Nat.reduceAdd] at hc)
    go_wp2_with fail
    refine (H2.out _).mono ?_
    rintro en w ⟨rfl, hx⟩
    replace st := st.ext hx
    clear hx
    (try clear hc); have hc := st.facts; (try simp only [nfl, nft, Nat.reduceAdd] at hc)
    go_wp2_with fail
    go_ret
    exact ⟨by rw [H.out] <;> rfl, st.ext0⟩
  by_cases t0 : 0 ≤ t ∧ t ≤ 1048576
  case neg =>
    have H : Hid (v = 0) := Lib.hid (by rw [HV.out, wIn_f t0, Bool.and_false]; rfl)
    rw [wIn_t n0.1 n0.2] at H1
    rw [wIn_t r0.1 r0.2] at H2
    rw [wIn_f t0] at H3
    clear n0 r0 t0
    (try simp only [nsl, Value.cells, unB] at st)
    (try clear hc); have hc := st.facts; (try simp only [nfl, nft, Nat.reduceAdd] at hc)
    go_enter Try.func23, Try.ntmps23
    go_wp2_with fail
    refine (H1.out _).mono ?_
    rintro en w ⟨rfl, hx⟩
    replace st := st.ext hx
    clear hx
    (try clear hc); have hc := st.facts; (try simp only [nfl, nft, Nat.reduceAdd] at hc)
    go_wp2_with fail
    refine (H2.out _).mono ?_
    rintro en w ⟨rfl, hx⟩
    replace st := st.ext hx
    clear hx
    (try clear hc); have hc := st.facts; (try simp only [nfl, nft, Nat.reduceAdd] at hc)
    go_wp2_with fail
    refine (H3.out _).mono ?_
    rintro en w ⟨rfl, hx⟩
    replace st := st.ext hx
    clear hx
    (try clear hc); have hc := st.facts; (try simp only [nfl, nft, Nat.reduceAdd] at hc)
    go_wp2_with fail
    go_ret
    exact ⟨by rw [H.out] <;> rfl, st.ext0⟩
  have H0 : Hid (v = n * max r t + 1) := Lib.hid (by rw [HV.out, wIn_t n0.1 n0.2, wIn_t r0.1 r0.2, wIn_t t0.1 t0.2]; rfl)
  rw [wIn_t n0.1 n0.2] at H1
  rw [wIn_t r0.1 r0.2] at H2
  rw [wIn_t t0.1 t0.2] at H3
  have hb := tick_bd n0 r0 t0
  by_cases rt : r < t
  · have hmx : max r t = t := by omega
    rw [hmx] at hb
    have H : Hid (v = n * t + 1) := Lib.hid (by rw [H0.out, hmx])
    have zm : IntKind.i64.wrap (n * t) = n * t := IntWalk.i64_in _ ⟨by omega, by omega⟩
    have za : IntKind.i64.wrap (n * t + 1) = n * t + 1 := IntWalk.i64_in _ ⟨by omega, by omega⟩
    clear n0 r0 t0 hb
    (try simp only [nsl, Value.cells, unB] at st)
    (try clear hc); have hc := st.facts; (try simp only [nfl, nft, Nat.reduceAdd] at hc)
    go_enter Try.func23, Try.ntmps23
    go_wp2_with fail
    refine (H1.out _).mono ?_
    rintro en w ⟨rfl, hx⟩
    replace st := st.ext hx
    clear hx
    (try clear hc); have hc := st.facts; (try simp only [nfl, nft, Nat.reduceAdd] at hc)
    go_wp2_with fail
    refine (H2.out _).mono ?_
    rintro en w ⟨rfl, hx⟩
    replace st := st.ext hx
    clear hx
    (try clear hc); have hc := st.facts; (try simp only [nfl, nft, Nat.reduceAdd] at hc)
    go_wp2_with fail
    refine (H3.out _).mono ?_
    rintro en w ⟨rfl, hx⟩
    replace st := st.ext hx
    clear hx
    (try clear hc); have hc := st.facts; (try simp only [nfl, nft, Nat.reduceAdd] at hc)
    go_wp2_with fail
    go_ret
    exact ⟨by rw [H.out] <;> first | rfl | simp [hmx, zm, za] | (simp; omega), st.ext0⟩
  · have hmx : max r t = r := by omega
    rw [hmx] at hb
    have H : Hid (v = n * r + 1) := Lib.hid (by rw [H0.out, hmx])
    have zm : IntKind.i64.wrap (n * r) = n * r := IntWalk.i64_in _ ⟨by omega, by omega⟩
    have za : IntKind.i64.wrap (n * r + 1) = n * r + 1 := IntWalk.i64_in _ ⟨by omega, by omega⟩
    clear n0 r0 t0 hb
    have rt2 : t ≤ r := by omega
    (try simp only [nsl, Value.cells, unB] at st)
    (try clear hc); have hc := st.facts; (try simp only [nfl, nft, Nat.reduceAdd] at hc)
    go_enter Try.func23, Try.ntmps23
    go_wp2_with fail
    refine (H1.out _).mono ?_
    rintro en w ⟨rfl, hx⟩
    replace st := st.ext hx
    clear hx
    (try clear hc); have hc := st.facts; (try simp only [nfl, nft, Nat.reduceAdd] at hc)
    go_wp2_with fail
    refine (H2.out _).mono ?_
    rintro en w ⟨rfl, hx⟩
    replace st := st.ext hx
    clear hx
    (try clear hc); have hc := st.facts; (try simp only [nfl, nft, Nat.reduceAdd] at hc)
    go_wp2_with fail
    refine (H3.out _).mono ?_
    rintro en w ⟨rfl, hx⟩
    replace st := st.ext hx
    clear hx
    (try clear hc); have hc := st.facts; (try simp only [nfl, nft, Nat.reduceAdd] at hc)
    go_wp2_with fail
    go_ret
    exact ⟨by rw [H.out] <;> first | rfl | simp [hmx, zm, za] | (simp; omega), st.ext0⟩
set_option maxRecDepth 100000 in
set_option maxHeartbeats 2000000 in
theorem refCapsTicks_any (n r t : Int) (W : World) : Calls Try.prog 24 #[.int .i64 n, .int .i64 r, .int .i64 t] W fun e w' => e = .returned (.int .i64 (tickN n r t)) ∧ Ext W w' := by
  have st := Own.startOld W
  have HV : Hid (tickN n r t = if (wIn n 0 1048576 && wIn r 0 1048576 && wIn t 0 1048576) = true then n * max r t + 1 else 0) := Lib.hid rfl
  obtain ⟨v, hv⟩ : ∃ v, tickN n r t = v := ⟨_, rfl⟩
  rw [hv] at HV ⊢
  clear hv
  by_cases n0 : n < 0
  · have H : Hid (v = 0) := Lib.hid (by rw [HV.out, wIn_f (n := n) (by omega)]; rfl)
    (try simp only [nsl, Value.cells, unB] at st)
    (try clear hc); have hc := st.facts; (try simp only [nfl, nft, Nat.reduceAdd] at hc)
    go_enter Try.func24, Try.ntmps24
    go_wp2_with fail
    go_ret
    exact ⟨by rw [H.out] <;> first | rfl | simp, st.ext0⟩
  by_cases r0 : r < 0
  · have H : Hid (v = 0) := Lib.hid (by rw [HV.out, wIn_f (n := r) (by omega), Bool.and_false]; rfl)
    (try simp only [nsl, Value.cells, unB] at st)
    (try clear hc); have hc := st.facts; (try simp only [nfl, nft, Nat.reduceAdd] at hc)
    go_enter Try.func24, Try.ntmps24
    go_wp2_with fail
    go_ret
    exact ⟨by rw [H.out] <;> first | rfl | simp, st.ext0⟩
  by_cases t0 : t < 0
  · have H : Hid (v = 0) := Lib.hid (by rw [HV.out, wIn_f (n := t) (by omega), Bool.and_false]; rfl)
    (try simp only [nsl, Value.cells, unB] at st)
    (try clear hc); have hc := st.facts; (try simp only [nfl, nft, Nat.reduceAdd] at hc)
    go_enter Try.func24, Try.ntmps24
    go_wp2_with fail
    go_ret
    exact ⟨by rw [H.out] <;> first | rfl | simp, st.ext0⟩
  by_cases n1 : 1048576 < n
  · have H : Hid (v = 0) := Lib.hid (by rw [HV.out, wIn_f (n := n) (by omega)]; rfl)
    (try simp only [nsl, Value.cells, unB] at st)
    (try clear hc); have hc := st.facts; (try simp only [nfl, nft, Nat.reduceAdd] at hc)
    go_enter Try.func24, Try.ntmps24
    go_wp2_with fail
    go_ret
    exact ⟨by rw [H.out] <;> first | rfl | simp, st.ext0⟩
  by_cases r1 : 1048576 < r
  · have H : Hid (v = 0) := Lib.hid (by rw [HV.out, wIn_f (n := r) (by omega), Bool.and_false]; rfl)
    (try simp only [nsl, Value.cells, unB] at st)
    (try clear hc); have hc := st.facts; (try simp only [nfl, nft, Nat.reduceAdd] at hc)
    go_enter Try.func24, Try.ntmps24
    go_wp2_with fail
    go_ret
    exact ⟨by rw [H.out] <;> first | rfl | simp, st.ext0⟩
  by_cases t1 : 1048576 < t
  · have H : Hid (v = 0) := Lib.hid (by rw [HV.out, wIn_f (n := t) (by omega), Bool.and_false]; rfl)
    (try simp only [nsl, Value.cells, unB] at st)
    (try clear hc); have hc := st.facts; (try simp only [nfl, nft, Nat.reduceAdd] at hc)
    go_enter Try.func24, Try.ntmps24
    go_wp2_with fail
    go_ret
    exact ⟨by rw [H.out] <;> first | rfl | simp, st.ext0⟩
  have hb := tick_bd (n := n) (r := r) (t := t) (by omega) (by omega) (by omega)
  have H0 : Hid (v = n * max r t + 1) := Lib.hid (by rw [HV.out, wIn_t (n := n) (by omega) (by omega), wIn_t (n := r) (by omega) (by omega), wIn_t (n := t) (by omega) (by omega)]; rfl)
  by_cases rt : t < r
  · have hmx : max r t = r := by omega
    rw [hmx] at hb
    have H : Hid (v = n * r + 1) := Lib.hid (by rw [H0.out, hmx])
    have zm : IntKind.i64.wrap (n * r) = n * r := IntWalk.i64_in _ ⟨by omega, by omega⟩
    have za : IntKind.i64.wrap (n * r + 1) = n * r + 1 := IntWalk.i64_in _ ⟨by omega, by omega⟩
    clear hb hmx
    (try simp only [nsl, Value.cells, unB] at st)
    (try clear hc); have hc := st.facts; (try simp only [nfl, nft, Nat.reduceAdd] at hc)
    go_enter Try.func24, Try.ntmps24
    go_wp2_with fail
    go_ret
    exact ⟨by rw [H.out] <;> first | rfl | simp, st.ext0⟩
  · have hmx : max r t = t := by omega
    rw [hmx] at hb
    have H : Hid (v = n * t + 1) := Lib.hid (by rw [H0.out, hmx])
    have zm : IntKind.i64.wrap (n * t) = n * t := IntWalk.i64_in _ ⟨by omega, by omega⟩
    have za : IntKind.i64.wrap (n * t + 1) = n * t + 1 := IntWalk.i64_in _ ⟨by omega, by omega⟩
    clear hb hmx
    (try simp only [nsl, Value.cells, unB] at st)
    (try clear hc); have hc := st.facts; (try simp only [nfl, nft, Nat.reduceAdd] at hc)
    go_enter Try.func24, Try.ntmps24
    go_wp2_with fail
    go_ret
    exact ⟨by rw [H.out] <;> first | rfl | simp, st.ext0⟩
end Go.Proofs.Ythjaopojlhdjpaa

namespace Go.Proofs.Ythjaopojlhdjpaa
set_option linter.unusedSimpArgs false
set_option linter.unusedVariables false
open Go Go.RowKit
/-- So many turns are enough. -/
def turnsN (p q : PaT) (f : Fo) : Nat := 4 + 2 * (p.gn + q.gn + ((roleSet (setsL (paF p ++ [f]))).length + (roleSet (setsL (paF q))).length))
theorem setsL_set_len (l : List Fo) : (roleSet (setsL l)).length ≤ nodesL l := Nat.le_trans (roleSet_len _) (setsL_len l)
theorem paN_gn {W : World} {p : PaT} (hp : PaOk W p) (h : nodesL (paF p) ≤ 100000) : p.gn ≤ 100000 := by
  have h1 := nodesL_len (p.gs.map (fun g => g.f.strip))
  rw [List.length_map] at h1
  have h2 := hp.1.2.1.1
  rw [paF_def, nodesL_append] at h
  omega
set_option maxRecDepth 100000 in
set_option maxHeartbeats 4000000 in
theorem capsTurns_any (p q : PaT) (f : Fm) (W : World) (hp : PaOk W p) (hq : PaOk W q) (hf : FmOk W f) (hsp : FsL (paF p ++ [f.strip])) (hsq : FsL (paF q)) :
    Calls Try.prog 29 #[paV p, paV q, fmV f] W fun e w' => e = .returned (.int .i64 (turnsN p q f.strip : Int)) ∧ Ext W w' := by
  have HR1 := Lib.hid (capsRoom_any p)
  have HR2 := Lib.hid (capsRoom_any q)
  have HA1 := Lib.hid (fun (b : Nat) W' (hx : Ext W W') (h : Fl W' (some ⟨b, 0, none⟩) 1 [f]) => capsAtoms_f p (some ⟨b, 0, none⟩) 1 1 [f] W' (hp.ext hx) h (fun x hx' => by rw [List.mem_singleton.1 hx']; exact hf.ext hx) hsp)
  have HA2 := Lib.hid (fun W' (hx : Ext W W') => capsAtoms_f q none 0 0 [] W' (hq.ext hx) (Fl.nil _ _) (by simp) (by simpa using hsq))
  simp only [List.map_cons, List.map_nil, List.append_nil] at HA1 HA2
  have h1 := setsL_set_len (paF p ++ [f.strip])
  have h2 := setsL_set_len (paF q)
  have h3 := hsp.1
  have h4 := hsq.1
  have hg1 := paN_gn hp hsp.sub.1.1
  have hg2 := paN_gn hq h4
  have HV : Hid (turnsN p q f.strip = 4 + 2 * (p.gn + q.gn + ((roleSet (setsL (paF p ++ [f.strip]))).length + (roleSet (setsL (paF q))).length))) := Lib.hid rfl
  generalize roleSet (setsL (paF p ++ [f.strip])) = s1 at *
  generalize roleSet (setsL (paF q)) = s2 at *
  obtain ⟨m1, hm1⟩ : ∃ m, s1.length = m := ⟨_, rfl⟩
  obtain ⟨m2, hm2⟩ : ∃ m, s2.length = m := ⟨_, rfl⟩
  obtain ⟨v, hv⟩ : ∃ v, turnsN p q f.strip = v := ⟨_, rfl⟩
  rw [hm1] at HA1 HV h1
  rw [hm2] at HA2 HV h2
  rw [hv] at HV ⊢
  have hm1b : m1 ≤ 100000 := by omega
  have hm2b : m2 ≤ 100000 := by omega
  obtain ⟨fx, hfx⟩ : ∃ g, f = g := ⟨_, rfl⟩
  clear hm1 hm2 hv h1 h2 h3 h4 hp hq hf hsp hsq
  obtain ⟨nm, ga, gn, gc, gs, aa, an, ac, ks⟩ := p
  obtain ⟨nm2, ga2, gn2, gc2, gs2, aa2, an2, ac2, ks2⟩ := q
  obtain ⟨op, k, ⟨o, d⟩, fa, fn, fc, kids⟩ := f
  unfold paV at HR1 HR2 HA1 HA2 ⊢
  simp only at HR1 HR2 HA1 HA2 HV hg1 hg2 ⊢
  have HC : Hid ([Value.int .i64 op, .int .i64 k, .string ⟨o.toArray⟩, .string ⟨d.toArray⟩, .slice fa fn fc] = cellsL [Fm.mk op k (o, d) fa fn fc kids]) := Lib.hid rfl
  have HFV : Hid (fmV (.mk op k (o, d) fa fn fc kids) = .agg #[.int .i64 op, .int .i64 k, .string ⟨o.toArray⟩, .string ⟨d.toArray⟩, .slice fa fn fc]) := Lib.hid rfl
  rw [HFV.out]
  rw [hfx] at HC HA1
  clear hfx
  have z1 : IntKind.i64.wrap ((gn : Int) + (gn2 : Int)) = (gn : Int) + (gn2 : Int) := IntWalk.i64_in _ ⟨by omega, by omega⟩
  have z2 : IntKind.i64.wrap ((m1 : Int) + (m2 : Int)) = (m1 : Int) + (m2 : Int) := IntWalk.i64_in _ ⟨by omega, by omega⟩
  have z3 : IntKind.i64.wrap ((gn : Int) + (gn2 : Int) + ((m1 : Int) + (m2 : Int))) = (gn : Int) + (gn2 : Int) + ((m1 : Int) + (m2 : Int)) := IntWalk.i64_in _ ⟨by omega, by omega⟩
  have z4 : IntKind.i64.wrap (2 * ((gn : Int) + (gn2 : Int) + ((m1 : Int) + (m2 : Int)))) = 2 * ((gn : Int) + (gn2 : Int) + ((m1 : Int) + (m2 : Int))) := IntWalk.i64_in _ ⟨by omega, by omega⟩
  have z5 : IntKind.i64.wrap (2 * ((gn : Int) + (gn2 : Int) + ((m1 : Int) + (m2 : Int))) + 4) = (v : Int) := by rw [IntWalk.i64_in _ ⟨by omega, by omega⟩, HV.out]; omega
  have st := Own.startOld W
  (try simp only [nsl, Value.cells, unB] at st)
  (try clear hc); have hc := st.facts; (try simp only [nfl, nft, Nat.reduceAdd] at hc)
  go_enter Try.func29, Try.ntmps29
  go_wp2_with ((first
        | ((with_reducible refine wl_box ?_ (fun K hK => ?_)); rfl; refine owp_box (o := ⟨some 3, _, _, _, _, _⟩) rfl st ?_; apply Exists.intro; refine ⟨?_, ?_⟩; (focus (go_simp; try rfl)); (clear st; intro b3 w hb st; clear hb))
        | ((with_reducible refine wl_box ?_ (fun K hK => ?_)); rfl; refine owp_box (o := ⟨some 4, _, _, _, _, _⟩) rfl st ?_; apply Exists.intro; refine ⟨?_, ?_⟩; (focus (go_simp; try rfl)); (clear st; intro b4 w hb st; clear hb))
        | ((with_reducible refine wl_box ?_ (fun K hK => ?_)); rfl; refine owp_box (o := ⟨some 5, _, _, _, _, _⟩) rfl st ?_; apply Exists.intro; refine ⟨?_, ?_⟩; (focus (go_simp; try rfl)); (clear st; intro b5 w hb st; clear hb))
        | ((with_reducible refine wl_buildSlice ?_ (fun K hK => ?_)); rfl; refine owp_buildSlice (o := ⟨some 16, _, _, _, _, _⟩) rfl st ?_; apply Exists.intro; apply Exists.intro; apply Exists.intro; apply Exists.intro; refine ⟨?_, ?_⟩; (focus (go_simp; (first | done | exact ⟨⟨rfl, rfl⟩, rfl⟩ | rfl))); (clear st; intro b16 w hb st; clear hb))); (try simp only [nsl, Value.cells, unB] at st); (try clear hc); have hc := st.facts; (try simp only [nfl, nft, Nat.reduceAdd] at hc))
  refine Rg4.wp_region4 (Rel := Ext) #[0, 1, 0, 7, 15, 31]
    [(1, .val (.int .i64 (gn : Int))), (3, .val (.int .i64 (gn2 : Int)))] [] [0, 2] (fun _ => True) [0, 1, 2, 3, 4, 5] (by kernel_rfl) (by kernel_rfl) (by kernel_rfl) (by kernel_rfl) Ext.refl (fun _ _ _ => Ext.trans) (show Rg4.PB _ by repeat (first | with_reducible exact Rg4.pb_body | with_reducible exact Rg4.pb_bodyD rfl | with_reducible refine Rg4.pb_then ?_ | with_reducible refine Rg4.pb_inBlock ?_ | with_reducible refine Rg4.pb_noGoto ?_)) (trivial) ?_
  replace st := st.drew
  change Rg4.wp4 _ _ _ _ _ _ _ _ _ (World.drew _) _ _
  generalize World.drew _ = w at st ⊢
  (try clear hc); have hc := st.facts; (try simp only [nfl, nft, Nat.reduceAdd] at hc)
  (refine Rg4.w4_read (Rg4.want_none rfl) rfl rfl ?_; apply Exists.intro; refine ⟨fun w' hw' hcl' => ?_, ?_⟩; focus (have st' := st.ext hw'; have hc' := st'.facts; (try simp only [nfl, nft, Nat.reduceAdd] at hc'); (focus (first | (go_simp; done) | (go_simp; first | rfl | (rw [if_neg] <;> first | rfl | omega) | (rw [if_pos] <;> first | rfl | omega))))); (try simp only [Rg4.nrm]))
  refine Rg4.w4_some (Rg4.want_none rfl) rfl (fun w' hw' hcl' _ => ?_) ?_
  · refine Rg.relAt_call (by go_simp; exact ⟨rfl, rfl⟩) ?_
    refine (HR1.out _).mono ?_
    rintro en w'' ⟨rfl, hx⟩
    exact ⟨_, rfl, hx, trivial, rfl⟩
  rintro v ⟨_, _, _, rfl⟩
  (try simp only [Rg4.nrm])
  (refine Rg4.w4_read (Rg4.want_none rfl) rfl rfl ?_; apply Exists.intro; refine ⟨fun w' hw' hcl' => ?_, ?_⟩; focus (have st' := st.ext hw'; have hc' := st'.facts; (try simp only [nfl, nft, Nat.reduceAdd] at hc'); (focus (first | (go_simp; done) | (go_simp; first | rfl | (rw [if_neg] <;> first | rfl | omega) | (rw [if_pos] <;> first | rfl | omega))))); (try simp only [Rg4.nrm]))
  refine Rg4.w4_some (Rg4.want_none rfl) rfl (fun w' hw' hcl' _ => ?_) ?_
  · refine Rg.relAt_call (by go_simp; exact ⟨rfl, rfl⟩) ?_
    refine (HR2.out _).mono ?_
    rintro en w'' ⟨rfl, hx⟩
    exact ⟨_, rfl, hx, trivial, rfl⟩
  rintro v ⟨_, _, _, rfl⟩
  (try simp only [Rg4.nrm])
  iterate 2 (refine Rg4.w4_any (Rg4.want_none rfl) rfl ?_; apply Exists.intro; refine ⟨fun w' => ?_, ?_⟩; (focus (first | (go_simp; done) | (go_simp; first | rfl | (rw [if_neg] <;> first | rfl | omega) | (rw [if_pos] <;> first | rfl | omega)))); (try simp only [Rg4.nrm]))
  refine Rg4.w4_nil (fun w' hw' hcl' _ => ?_); replace st := st.ext hw'; clear hw' hcl'; (try clear hc); have hc := st.facts; (try simp only [nfl, nft, Nat.reduceAdd] at hc)
  go_wp2_with fail
  refine Rg4.wp_region4 (Rel := Ext) #[0, 0, 2, 7, 15, 0, 47, 111, 255, 511]
    [(3, ⟨fun v w => ∃ va vc, v = .slice va m1 vc , fun _ _ _ _ h => h⟩), (6, ⟨fun v w => ∃ va vc, v = .slice va m2 vc , fun _ _ _ _ h => h⟩)] [2] [1] (fun W' => Blk W' b3 [.string ⟨nm.toArray⟩, .slice ga gn gc, .slice aa an ac] ∧ Blk W' b4 [.string ⟨nm2.toArray⟩, .slice ga2 gn2 gc2, .slice aa2 an2 ac2]) [0, 1, 5, 2, 3, 4, 6, 7, 8, 9] (by kernel_rfl) (by kernel_rfl) (by kernel_rfl) (by kernel_rfl) Ext.refl (fun _ _ _ => Ext.trans) (show Rg4.PB _ by repeat (first | with_reducible exact Rg4.pb_body | with_reducible exact Rg4.pb_bodyD rfl | with_reducible refine Rg4.pb_then ?_ | with_reducible refine Rg4.pb_inBlock ?_ | with_reducible refine Rg4.pb_noGoto ?_)) (⟨st.drew.blk (i := 1) get1, st.drew.blk (i := 2) get2⟩) ?_
  replace st := st.drew
  change Rg4.wp4 _ _ _ _ _ _ _ _ _ (World.drew _) _ _
  generalize World.drew _ = w at st ⊢
  (try clear hc); have hc := st.facts; (try simp only [nfl, nft, Nat.reduceAdd] at hc)
  (refine Rg4.w4_cl (Rg4.want_none rfl) rfl ?_; apply Exists.intro; refine ⟨fun w' hcl => ?_, ?_⟩; (focus (have q0 := Blk.cell hcl.1 0; have q1 := Blk.cell hcl.1 1; have q2 := Blk.cell hcl.1 2; have s0 := Blk.cell hcl.2 0; have s1 := Blk.cell hcl.2 1; have s2 := Blk.cell hcl.2 2; (try simp at q0 q1 q2 s0 s1 s2); (focus (first | (go_simp; done) | (go_simp; first | rfl | (rw [if_neg] <;> first | rfl | omega) | (rw [if_pos] <;> first | rfl | omega)))))); (try simp only [Rg4.nrm]))
  (refine Rg4.w4_read (Rg4.want_none rfl) rfl rfl ?_; apply Exists.intro; refine ⟨fun w' hw' hcl' => ?_, ?_⟩; focus (have st' := st.ext hw'; have hc' := st'.facts; (try simp only [nfl, nft, Nat.reduceAdd] at hc'); (focus (first | (go_simp; done) | (go_simp; first | rfl | (rw [if_neg] <;> first | rfl | omega) | (rw [if_pos] <;> first | rfl | omega))))); (try simp only [Rg4.nrm]))
  (refine Rg4.w4_cl (Rg4.want_none rfl) rfl ?_; apply Exists.intro; refine ⟨fun w' hcl => ?_, ?_⟩; (focus (have q0 := Blk.cell hcl.1 0; have q1 := Blk.cell hcl.1 1; have q2 := Blk.cell hcl.1 2; have s0 := Blk.cell hcl.2 0; have s1 := Blk.cell hcl.2 1; have s2 := Blk.cell hcl.2 2; (try simp at q0 q1 q2 s0 s1 s2); (focus (first | (go_simp; done) | (go_simp; first | rfl | (rw [if_neg] <;> first | rfl | omega) | (rw [if_pos] <;> first | rfl | omega)))))); (try simp only [Rg4.nrm]))
  (refine Rg4.w4_bar (Rg4.want_none rfl) rfl (fun w' hw' hcl' _ K hK => ?_); replace st := st.ext hw'; (refine owp_buildSlice (o := ⟨some 16, _, _, _, _, _⟩) rfl st ?_; apply Exists.intro; apply Exists.intro; apply Exists.intro; apply Exists.intro; refine ⟨?_, ?_⟩; (focus (go_simp; (first | done | exact ⟨⟨rfl, rfl⟩, rfl⟩ | rfl))); (clear st; intro b16 w hb st; clear hb); (try simp only [nsl, Value.cells, unB] at st); (try clear hc); have hc := st.facts; (try simp only [nfl, nft, Nat.reduceAdd] at hc)); refine hK _ _ ⟨⟨st.blk (i := 1) get1, st.blk (i := 2) get2⟩, ?_⟩; (try simp only [Rg4.nrm]))
  refine Rg4.w4_some (Rg4.want_none rfl) rfl (fun w' hw' hcl' _ => ?_) ?_
  · refine Rg.relAt_call (by go_simp; exact ⟨rfl, rfl⟩) ?_
    have st' := st.ext hw'
    refine (HA1.out _ _ st'.ext0 (fl_lit (st'.blk (i := 4) get4) [fx] HC.out)).mono ?_
    rintro en w'' ⟨va, vc, rfl, _, hx⟩
    exact ⟨_, rfl, hx, ⟨(st'.ext hx).blk (i := 1) get1, (st'.ext hx).blk (i := 2) get2⟩, va, vc, rfl⟩
  rintro v ⟨_, _, _, va, vc, rfl⟩
  (try simp only [Rg4.nrm])
  (refine Rg4.w4_any (Rg4.want_none rfl) rfl ?_; apply Exists.intro; refine ⟨fun w' => ?_, ?_⟩; (focus (first | (go_simp; done) | (go_simp; first | rfl | (rw [if_neg] <;> first | rfl | omega) | (rw [if_pos] <;> first | rfl | omega)))); (try simp only [Rg4.nrm]))
  refine Rg4.w4_some (Rg4.want_none rfl) rfl (fun w' hw' hcl' _ => ?_) ?_
  · refine Rg.relAt_call (by go_simp; exact ⟨rfl, rfl⟩) ?_
    have st' := st.ext hw'
    refine (HA2.out _ st'.ext0).mono ?_
    rintro en w'' ⟨va, vc, rfl, _, hx⟩
    exact ⟨_, rfl, hx, ⟨(st'.ext hx).blk (i := 1) get1, (st'.ext hx).blk (i := 2) get2⟩, va, vc, rfl⟩
  rintro v ⟨_, _, _, va2, vc2, rfl⟩
  (try simp only [Rg4.nrm])
  iterate 3 (refine Rg4.w4_any (Rg4.want_none rfl) rfl ?_; apply Exists.intro; refine ⟨fun w' => ?_, ?_⟩; (focus (first | (go_simp; done) | (go_simp; first | rfl | (rw [if_neg] <;> first | rfl | omega) | (rw [if_pos] <;> first | rfl | omega)))); (try simp only [Rg4.nrm]))
  refine Rg4.w4_nil (fun w' hw' hcl' _ => ?_); replace st := st.ext hw'; clear hw' hcl'; (try clear hc); have hc := st.facts; (try simp only [nfl, nft, Nat.reduceAdd] at hc)
  go_wp2_with fail
  go_ret
  exact ⟨by simp [z1, z2, z3, z4, z5], st.ext0⟩
end Go.Proofs.Ythjaopojlhdjpaa

namespace Go.Proofs.Ythjaopojlhdjpaa
set_option linter.unusedSimpArgs false
set_option linter.unusedVariables false
open Go Go.RowKit
end Go.Proofs.Ythjaopojlhdjpaa

namespace Go.Proofs.Ythjaopojlhdjpaa
set_option linter.unusedSimpArgs false
set_option linter.unusedVariables false
open Go Go.RowKit
end Go.Proofs.Ythjaopojlhdjpaa

namespace Go.Proofs.Ythjaopojlhdjpaa
set_option linter.unusedSimpArgs false
set_option linter.unusedVariables false
open Go Go.RowKit
theorem FoL.mono {b b' : Nat} (hb : b ≤ b') {f : Fo} (h : FoL b f) : FoL b' f := by
  induction h with
  | mk h1 h2 _ ih => exact .mk (Nat.le_trans h1 hb) (Nat.le_trans h2 hb) ih
def foA : Fo := .mk 1 0 ([97], [114]) []
theorem L_fo {b : Nat} {op k : Int} {o d : List UInt8} {kids : List Fo} (h1 : o.length ≤ b) (h2 : d.length ≤ b) (hk : ∀ x ∈ kids, FoL b x) : FoL b (.mk op k (o, d) kids) := .mk h1 h2 hk
theorem foA_L : FoL 100000 foA := L_fo (by decide) (by decide) (by simp)
theorem ok_leaf (W : World) (op k : Int) (r : Role) : FmOk W (.mk op k r none 0 0 []) := FmIn.mk ⟨Nat.le_refl _, by simp [maxLen]⟩ (Fl.nil _ _) (fun h => by omega) (by simp)
def fmA : Fm := .mk 1 0 ([97], [114]) none 0 0 []
theorem fmA_strip : fmA.strip = foA := rfl
end Go.Proofs.Ythjaopojlhdjpaa

namespace Go.Proofs.Ythjaopojlhdjpaa
set_option linter.unusedSimpArgs false
set_option linter.unusedVariables false
open Go Go.RowKit
def pa0 : PaT := ⟨[], none, 0, 0, [], none, 0, 0, []⟩
theorem pa0_ok (W : World) : PaOk W pa0 := ⟨⟨⟨Nat.le_refl _, by simp [maxLen, pa0]⟩, Fl.nil _ _, by simp [pa0]⟩, ⟨⟨Nat.le_refl _, by simp [maxLen, pa0]⟩, Fl.nil _ _, by simp [pa0]⟩⟩
theorem one_set {x : Role} (l : List Role) (h : roleR x = true) (hl : ∀ y, y ∈ l ↔ y = x) : roleSet l = [x] :=
  SSet.uniq (roleOrd roleR) (roleSet_set l) ⟨by simp, fun y => by
    constructor
    · intro q
      rw [List.mem_singleton.1 q]
      exact ⟨(hl x).2 rfl, h⟩
    · exact fun q => List.mem_singleton.2 ((hl y).1 q.1)⟩
theorem set_a : roleSet [(([97], [114]) : Role)] = [([97], [114])] := one_set _ (by decide +kernel) (by simp)
theorem sets_a : setsL [foA] = [([97], [114])] := by
  have e : setsL [foA] = roleSet [(([97], [114]) : Role)] ++ [] := rfl
  rw [e, set_a]; rfl
theorem turns_0 : turnsN pa0 pa0 (.mk 2 0 ([], []) []) = 4 := by
  have e : setsL [Fo.mk 2 0 ([], []) []] = roleSet [] ++ [] := rfl
  have h0 : roleSet [] = [] := List.eq_nil_of_length_eq_zero (by have := roleSet_len ([] : List Role); simpa using this)
  unfold turnsN
  rw [show paF pa0 = [] from rfl, List.nil_append, e, h0]
  rw [show setsL ([] : List Fo) = [] from rfl, List.append_nil, h0]
  rfl
theorem turns_a : turnsN pa0 pa0 foA = 6 := by
  have h0 : roleSet [] = [] := List.eq_nil_of_length_eq_zero (by have := roleSet_len ([] : List Role); simpa using this)
  unfold turnsN
  rw [show paF pa0 = [] from rfl, List.nil_append, sets_a, set_a]
  rw [show setsL ([] : List Fo) = [] from rfl, h0]
  rfl
theorem atoms_aa : (roleSet (setsL ([] ++ [foA, foA]))).length = 1 := by
  have e : setsL ([] ++ [foA, foA]) = roleSet [(([97], [114]) : Role)] ++ (roleSet [(([97], [114]) : Role)] ++ []) := rfl
  rw [e, set_a, one_set (x := ([97], [114])) _ (by decide +kernel) (by simp)]
  rfl
theorem fs_leaf {l : List Fo} (h1 : nodesL l ≤ 100000) (h2 : ∀ f ∈ l, FoL 100000 f) : FsL l := ⟨h1, h2⟩
set_option maxRecDepth 100000 in
set_option maxHeartbeats 8000000 in
theorem first24_any (W : World) : Calls Try.prog 20 #[] W fun e w' => e = .returned (.bool true) ∧ Ext W w' := by
  have HR1 := Lib.hid (capsRight_any false 1 3 2 1 9)
  rw [show termR 1 3 2 1 9 = true by decide] at HR1
  have HR2 := Lib.hid (capsRight_any false 0 0 0 0 0)
  rw [show termR 0 0 0 0 0 = false by decide] at HR2
  have HT1 := Lib.hid (fun W => capsTurns_any pa0 pa0 (.mk 2 0 ([], []) none 0 0 []) W (pa0_ok _) (pa0_ok _) (ok_leaf _ _ _ _) (fs_leaf (by decide +kernel) (by
    intro f hf
    rw [List.mem_singleton.1 hf]
    exact L_fo (by decide) (by decide) (by simp [stripL]))) (fs_leaf (by decide) (by simp [paF, pa0])))
  rw [show (Fm.mk 2 0 ([], []) none 0 0 []).strip = .mk 2 0 ([], []) [] from rfl, turns_0] at HT1
  have HT2 := Lib.hid (fun W => capsTurns_any pa0 pa0 fmA W (pa0_ok _) (pa0_ok _) (ok_leaf _ _ _ _) (fs_leaf (by decide +kernel) (by
    intro f hf
    rw [List.mem_singleton.1 hf]
    exact foA_L)) (fs_leaf (by decide) (by simp [paF, pa0])))
  rw [fmA_strip, turns_a] at HT2
  have HRM := Lib.hid (capsRoom_any pa0)
  have HTK := Lib.hid (capsTicks_any 4 3 2)
  rw [show tickN 4 3 2 = 13 by decide] at HTK
  have HAT := Lib.hid (fun b W (h : Fl W (some ⟨b, 0, none⟩) 2 [fmA, fmA]) => capsAtoms_f pa0 (some ⟨b, 0, none⟩) 2 2 [fmA, fmA] W (pa0_ok _) h (fun x hx => by
    rcases List.mem_cons.1 hx with e | e
    · rw [e]; exact ok_leaf _ _ _ _
    · rw [List.mem_singleton.1 e]; exact ok_leaf _ _ _ _) (fs_leaf (by decide +kernel) (by
    intro f hf
    rcases List.mem_cons.1 hf with e | e
    · rw [e]; exact foA_L
    · rw [List.mem_singleton.1 e]; exact foA_L)))
  rw [show paF pa0 ++ [fmA, fmA].map Fm.strip = [] ++ [foA, foA] from rfl, atoms_aa] at HAT
  rw [show paV pa0 = .agg #[.string ⟨#[]⟩, .slice none 0 0, .slice none 0 0] from rfl] at HT1 HT2 HRM HAT
  rw [show fmV fmA = .agg #[.int .i64 1, .int .i64 0, .string ⟨#[97]⟩, .string ⟨#[114]⟩, .slice none 0 0] from rfl] at HT2
  rw [show fmV (Fm.mk 2 0 ([], []) none 0 0 []) = .agg #[.int .i64 2, .int .i64 0, .string ⟨#[]⟩, .string ⟨#[]⟩, .slice none 0 0] from rfl] at HT1
  unfold tV at HR1 HR2
  have st := Own.startOld W
  (try simp only [nsl, Value.cells, unB] at st)
  (try clear hc); have hc := st.facts; (try simp only [nfl, nft, Nat.reduceAdd] at hc)
  go_enter Try.func20, Try.ntmps20
  go_wp2_with ((first
        | ((with_reducible refine wl_alloc ?_ (fun K hK => ?_)); rfl; refine owp_alloc (o := ⟨some 1, _, _, _, _, _⟩) rfl st ?_; apply Exists.intro; apply Exists.intro; refine ⟨?_, ?_⟩; (focus (first | (go_simp; done) | (go_simp; rfl))); (clear st; intro b1 w hb st; clear hb))
        | ((with_reducible refine wl_store ?_ (fun K hK => ?_)); rfl; refine owp_store rfl st ?_; apply Exists.intro; apply Exists.intro; refine ⟨?_, ?_, ?_⟩; (focus (go_simp; try rfl)); (focus (go_simp; try rfl)); (first | (with_reducible refine ⟨0, _, _, _, _, get0, rfl, rfl, ?_, ?_, ?_, ?_⟩) | (with_reducible refine ⟨1, _, _, _, _, get1, rfl, rfl, ?_, ?_, ?_, ?_⟩) | (with_reducible refine ⟨2, _, _, _, _, get2, rfl, rfl, ?_, ?_, ?_, ?_⟩) | (with_reducible refine ⟨3, _, _, _, _, get3, rfl, rfl, ?_, ?_, ?_, ?_⟩) | (with_reducible refine ⟨4, _, _, _, _, get4, rfl, rfl, ?_, ?_, ?_, ?_⟩) | (with_reducible refine ⟨5, _, _, _, _, get5, rfl, rfl, ?_, ?_, ?_, ?_⟩) | (with_reducible refine ⟨6, _, _, _, _, get6, rfl, rfl, ?_, ?_, ?_, ?_⟩) | (with_reducible refine ⟨7, _, _, _, _, get7, rfl, rfl, ?_, ?_, ?_, ?_⟩)); (kernel_rfl); (simp [Value.cells]); (rfl); (clear st; intro w st))
        | ((with_reducible refine wl_alloc ?_ (fun K hK => ?_)); rfl; refine owp_alloc (o := ⟨some 2, _, _, _, _, _⟩) rfl st ?_; apply Exists.intro; apply Exists.intro; refine ⟨?_, ?_⟩; (focus (first | (go_simp; done) | (go_simp; rfl))); (clear st; intro b2 w hb st; clear hb))
        | ((with_reducible refine wl_buildSlice ?_ (fun K hK => ?_)); rfl; refine owp_buildSlice (o := ⟨some 40, _, _, _, _, _⟩) rfl st ?_; apply Exists.intro; apply Exists.intro; apply Exists.intro; apply Exists.intro; refine ⟨?_, ?_⟩; (focus (go_simp; (first | done | exact ⟨⟨rfl, rfl⟩, rfl⟩ | rfl))); (clear st; intro b40 w hb st; clear hb))); (try simp only [nsl, Value.cells, unB] at st); (try clear hc); have hc := st.facts; (try simp only [nfl, nft, Nat.reduceAdd] at hc))
  refine (HR1.out _).mono ?_
  rintro en w ⟨rfl, hx⟩
  replace st := st.ext hx
  clear hx
  (try clear hc); have hc := st.facts; (try simp only [nfl, nft, Nat.reduceAdd] at hc)
  go_wp2_with ((first
        | ((with_reducible refine wl_alloc ?_ (fun K hK => ?_)); rfl; refine owp_alloc (o := ⟨some 1, _, _, _, _, _⟩) rfl st ?_; apply Exists.intro; apply Exists.intro; refine ⟨?_, ?_⟩; (focus (first | (go_simp; done) | (go_simp; rfl))); (clear st; intro b1 w hb st; clear hb))
        | ((with_reducible refine wl_store ?_ (fun K hK => ?_)); rfl; refine owp_store rfl st ?_; apply Exists.intro; apply Exists.intro; refine ⟨?_, ?_, ?_⟩; (focus (go_simp; try rfl)); (focus (go_simp; try rfl)); (first | (with_reducible refine ⟨0, _, _, _, _, get0, rfl, rfl, ?_, ?_, ?_, ?_⟩) | (with_reducible refine ⟨1, _, _, _, _, get1, rfl, rfl, ?_, ?_, ?_, ?_⟩) | (with_reducible refine ⟨2, _, _, _, _, get2, rfl, rfl, ?_, ?_, ?_, ?_⟩) | (with_reducible refine ⟨3, _, _, _, _, get3, rfl, rfl, ?_, ?_, ?_, ?_⟩) | (with_reducible refine ⟨4, _, _, _, _, get4, rfl, rfl, ?_, ?_, ?_, ?_⟩) | (with_reducible refine ⟨5, _, _, _, _, get5, rfl, rfl, ?_, ?_, ?_, ?_⟩) | (with_reducible refine ⟨6, _, _, _, _, get6, rfl, rfl, ?_, ?_, ?_, ?_⟩) | (with_reducible refine ⟨7, _, _, _, _, get7, rfl, rfl, ?_, ?_, ?_, ?_⟩)); (kernel_rfl); (simp [Value.cells]); (rfl); (clear st; intro w st))
        | ((with_reducible refine wl_alloc ?_ (fun K hK => ?_)); rfl; refine owp_alloc (o := ⟨some 2, _, _, _, _, _⟩) rfl st ?_; apply Exists.intro; apply Exists.intro; refine ⟨?_, ?_⟩; (focus (first | (go_simp; done) | (go_simp; rfl))); (clear st; intro b2 w hb st; clear hb))
        | ((with_reducible refine wl_buildSlice ?_ (fun K hK => ?_)); rfl; refine owp_buildSlice (o := ⟨some 40, _, _, _, _, _⟩) rfl st ?_; apply Exists.intro; apply Exists.intro; apply Exists.intro; apply Exists.intro; refine ⟨?_, ?_⟩; (focus (go_simp; (first | done | exact ⟨⟨rfl, rfl⟩, rfl⟩ | rfl))); (clear st; intro b40 w hb st; clear hb))); (try simp only [nsl, Value.cells, unB] at st); (try clear hc); have hc := st.facts; (try simp only [nfl, nft, Nat.reduceAdd] at hc))
  refine (HR2.out _).mono ?_
  rintro en w ⟨rfl, hx⟩
  replace st := st.ext hx
  clear hx
  (try clear hc); have hc := st.facts; (try simp only [nfl, nft, Nat.reduceAdd] at hc)
  go_wp2_with ((first
        | ((with_reducible refine wl_alloc ?_ (fun K hK => ?_)); rfl; refine owp_alloc (o := ⟨some 1, _, _, _, _, _⟩) rfl st ?_; apply Exists.intro; apply Exists.intro; refine ⟨?_, ?_⟩; (focus (first | (go_simp; done) | (go_simp; rfl))); (clear st; intro b1 w hb st; clear hb))
        | ((with_reducible refine wl_store ?_ (fun K hK => ?_)); rfl; refine owp_store rfl st ?_; apply Exists.intro; apply Exists.intro; refine ⟨?_, ?_, ?_⟩; (focus (go_simp; try rfl)); (focus (go_simp; try rfl)); (first | (with_reducible refine ⟨0, _, _, _, _, get0, rfl, rfl, ?_, ?_, ?_, ?_⟩) | (with_reducible refine ⟨1, _, _, _, _, get1, rfl, rfl, ?_, ?_, ?_, ?_⟩) | (with_reducible refine ⟨2, _, _, _, _, get2, rfl, rfl, ?_, ?_, ?_, ?_⟩) | (with_reducible refine ⟨3, _, _, _, _, get3, rfl, rfl, ?_, ?_, ?_, ?_⟩) | (with_reducible refine ⟨4, _, _, _, _, get4, rfl, rfl, ?_, ?_, ?_, ?_⟩) | (with_reducible refine ⟨5, _, _, _, _, get5, rfl, rfl, ?_, ?_, ?_, ?_⟩) | (with_reducible refine ⟨6, _, _, _, _, get6, rfl, rfl, ?_, ?_, ?_, ?_⟩) | (with_reducible refine ⟨7, _, _, _, _, get7, rfl, rfl, ?_, ?_, ?_, ?_⟩)); (kernel_rfl); (simp [Value.cells]); (rfl); (clear st; intro w st))
        | ((with_reducible refine wl_alloc ?_ (fun K hK => ?_)); rfl; refine owp_alloc (o := ⟨some 2, _, _, _, _, _⟩) rfl st ?_; apply Exists.intro; apply Exists.intro; refine ⟨?_, ?_⟩; (focus (first | (go_simp; done) | (go_simp; rfl))); (clear st; intro b2 w hb st; clear hb))
        | ((with_reducible refine wl_buildSlice ?_ (fun K hK => ?_)); rfl; refine owp_buildSlice (o := ⟨some 40, _, _, _, _, _⟩) rfl st ?_; apply Exists.intro; apply Exists.intro; apply Exists.intro; apply Exists.intro; refine ⟨?_, ?_⟩; (focus (go_simp; (first | done | exact ⟨⟨rfl, rfl⟩, rfl⟩ | rfl))); (clear st; intro b40 w hb st; clear hb))); (try simp only [nsl, Value.cells, unB] at st); (try clear hc); have hc := st.facts; (try simp only [nfl, nft, Nat.reduceAdd] at hc))
  refine (HT1.out _).mono ?_
  rintro en w ⟨rfl, hx⟩
  replace st := st.ext hx
  clear hx
  (try clear hc); have hc := st.facts; (try simp only [nfl, nft, Nat.reduceAdd] at hc)
  go_wp2_with ((first
        | ((with_reducible refine wl_alloc ?_ (fun K hK => ?_)); rfl; refine owp_alloc (o := ⟨some 1, _, _, _, _, _⟩) rfl st ?_; apply Exists.intro; apply Exists.intro; refine ⟨?_, ?_⟩; (focus (first | (go_simp; done) | (go_simp; rfl))); (clear st; intro b1 w hb st; clear hb))
        | ((with_reducible refine wl_store ?_ (fun K hK => ?_)); rfl; refine owp_store rfl st ?_; apply Exists.intro; apply Exists.intro; refine ⟨?_, ?_, ?_⟩; (focus (go_simp; try rfl)); (focus (go_simp; try rfl)); (first | (with_reducible refine ⟨0, _, _, _, _, get0, rfl, rfl, ?_, ?_, ?_, ?_⟩) | (with_reducible refine ⟨1, _, _, _, _, get1, rfl, rfl, ?_, ?_, ?_, ?_⟩) | (with_reducible refine ⟨2, _, _, _, _, get2, rfl, rfl, ?_, ?_, ?_, ?_⟩) | (with_reducible refine ⟨3, _, _, _, _, get3, rfl, rfl, ?_, ?_, ?_, ?_⟩) | (with_reducible refine ⟨4, _, _, _, _, get4, rfl, rfl, ?_, ?_, ?_, ?_⟩) | (with_reducible refine ⟨5, _, _, _, _, get5, rfl, rfl, ?_, ?_, ?_, ?_⟩) | (with_reducible refine ⟨6, _, _, _, _, get6, rfl, rfl, ?_, ?_, ?_, ?_⟩) | (with_reducible refine ⟨7, _, _, _, _, get7, rfl, rfl, ?_, ?_, ?_, ?_⟩)); (kernel_rfl); (simp [Value.cells]); (rfl); (clear st; intro w st))
        | ((with_reducible refine wl_alloc ?_ (fun K hK => ?_)); rfl; refine owp_alloc (o := ⟨some 2, _, _, _, _, _⟩) rfl st ?_; apply Exists.intro; apply Exists.intro; refine ⟨?_, ?_⟩; (focus (first | (go_simp; done) | (go_simp; rfl))); (clear st; intro b2 w hb st; clear hb))
        | ((with_reducible refine wl_buildSlice ?_ (fun K hK => ?_)); rfl; refine owp_buildSlice (o := ⟨some 40, _, _, _, _, _⟩) rfl st ?_; apply Exists.intro; apply Exists.intro; apply Exists.intro; apply Exists.intro; refine ⟨?_, ?_⟩; (focus (go_simp; (first | done | exact ⟨⟨rfl, rfl⟩, rfl⟩ | rfl))); (clear st; intro b40 w hb st; clear hb))); (try simp only [nsl, Value.cells, unB] at st); (try clear hc); have hc := st.facts; (try simp only [nfl, nft, Nat.reduceAdd] at hc))
  refine (HT2.out _).mono ?_
  rintro en w ⟨rfl, hx⟩
  replace st := st.ext hx
  clear hx
  (try clear hc); have hc := st.facts; (try simp only [nfl, nft, Nat.reduceAdd] at hc)
  go_wp2_with ((first
        | ((with_reducible refine wl_alloc ?_ (fun K hK => ?_)); rfl; refine owp_alloc (o := ⟨some 1, _, _, _, _, _⟩) rfl st ?_; apply Exists.intro; apply Exists.intro; refine ⟨?_, ?_⟩; (focus (first | (go_simp; done) | (go_simp; rfl))); (clear st; intro b1 w hb st; clear hb))
        | ((with_reducible refine wl_store ?_ (fun K hK => ?_)); rfl; refine owp_store rfl st ?_; apply Exists.intro; apply Exists.intro; refine ⟨?_, ?_, ?_⟩; (focus (go_simp; try rfl)); (focus (go_simp; try rfl)); (first | (with_reducible refine ⟨0, _, _, _, _, get0, rfl, rfl, ?_, ?_, ?_, ?_⟩) | (with_reducible refine ⟨1, _, _, _, _, get1, rfl, rfl, ?_, ?_, ?_, ?_⟩) | (with_reducible refine ⟨2, _, _, _, _, get2, rfl, rfl, ?_, ?_, ?_, ?_⟩) | (with_reducible refine ⟨3, _, _, _, _, get3, rfl, rfl, ?_, ?_, ?_, ?_⟩) | (with_reducible refine ⟨4, _, _, _, _, get4, rfl, rfl, ?_, ?_, ?_, ?_⟩) | (with_reducible refine ⟨5, _, _, _, _, get5, rfl, rfl, ?_, ?_, ?_, ?_⟩) | (with_reducible refine ⟨6, _, _, _, _, get6, rfl, rfl, ?_, ?_, ?_, ?_⟩) | (with_reducible refine ⟨7, _, _, _, _, get7, rfl, rfl, ?_, ?_, ?_, ?_⟩)); (kernel_rfl); (simp [Value.cells]); (rfl); (clear st; intro w st))
        | ((with_reducible refine wl_alloc ?_ (fun K hK => ?_)); rfl; refine owp_alloc (o := ⟨some 2, _, _, _, _, _⟩) rfl st ?_; apply Exists.intro; apply Exists.intro; refine ⟨?_, ?_⟩; (focus (first | (go_simp; done) | (go_simp; rfl))); (clear st; intro b2 w hb st; clear hb))
        | ((with_reducible refine wl_buildSlice ?_ (fun K hK => ?_)); rfl; refine owp_buildSlice (o := ⟨some 40, _, _, _, _, _⟩) rfl st ?_; apply Exists.intro; apply Exists.intro; apply Exists.intro; apply Exists.intro; refine ⟨?_, ?_⟩; (focus (go_simp; (first | done | exact ⟨⟨rfl, rfl⟩, rfl⟩ | rfl))); (clear st; intro b40 w hb st; clear hb))); (try simp only [nsl, Value.cells, unB] at st); (try clear hc); have hc := st.facts; (try simp only [nfl, nft, Nat.reduceAdd] at hc))
  refine (HRM.out _).mono ?_
  rintro en w ⟨rfl, hx⟩
  replace st := st.ext hx
  clear hx
  (try clear hc); have hc := st.facts; (try simp only [nfl, nft, Nat.reduceAdd] at hc)
  go_wp2_with ((first
        | ((with_reducible refine wl_alloc ?_ (fun K hK => ?_)); rfl; refine owp_alloc (o := ⟨some 1, _, _, _, _, _⟩) rfl st ?_; apply Exists.intro; apply Exists.intro; refine ⟨?_, ?_⟩; (focus (first | (go_simp; done) | (go_simp; rfl))); (clear st; intro b1 w hb st; clear hb))
        | ((with_reducible refine wl_store ?_ (fun K hK => ?_)); rfl; refine owp_store rfl st ?_; apply Exists.intro; apply Exists.intro; refine ⟨?_, ?_, ?_⟩; (focus (go_simp; try rfl)); (focus (go_simp; try rfl)); (first | (with_reducible refine ⟨0, _, _, _, _, get0, rfl, rfl, ?_, ?_, ?_, ?_⟩) | (with_reducible refine ⟨1, _, _, _, _, get1, rfl, rfl, ?_, ?_, ?_, ?_⟩) | (with_reducible refine ⟨2, _, _, _, _, get2, rfl, rfl, ?_, ?_, ?_, ?_⟩) | (with_reducible refine ⟨3, _, _, _, _, get3, rfl, rfl, ?_, ?_, ?_, ?_⟩) | (with_reducible refine ⟨4, _, _, _, _, get4, rfl, rfl, ?_, ?_, ?_, ?_⟩) | (with_reducible refine ⟨5, _, _, _, _, get5, rfl, rfl, ?_, ?_, ?_, ?_⟩) | (with_reducible refine ⟨6, _, _, _, _, get6, rfl, rfl, ?_, ?_, ?_, ?_⟩) | (with_reducible refine ⟨7, _, _, _, _, get7, rfl, rfl, ?_, ?_, ?_, ?_⟩)); (kernel_rfl); (simp [Value.cells]); (rfl); (clear st; intro w st))
        | ((with_reducible refine wl_alloc ?_ (fun K hK => ?_)); rfl; refine owp_alloc (o := ⟨some 2, _, _, _, _, _⟩) rfl st ?_; apply Exists.intro; apply Exists.intro; refine ⟨?_, ?_⟩; (focus (first | (go_simp; done) | (go_simp; rfl))); (clear st; intro b2 w hb st; clear hb))
        | ((with_reducible refine wl_buildSlice ?_ (fun K hK => ?_)); rfl; refine owp_buildSlice (o := ⟨some 40, _, _, _, _, _⟩) rfl st ?_; apply Exists.intro; apply Exists.intro; apply Exists.intro; apply Exists.intro; refine ⟨?_, ?_⟩; (focus (go_simp; (first | done | exact ⟨⟨rfl, rfl⟩, rfl⟩ | rfl))); (clear st; intro b40 w hb st; clear hb))); (try simp only [nsl, Value.cells, unB] at st); (try clear hc); have hc := st.facts; (try simp only [nfl, nft, Nat.reduceAdd] at hc))
  refine (HTK.out _).mono ?_
  rintro en w ⟨rfl, hx⟩
  replace st := st.ext hx
  clear hx
  (try clear hc); have hc := st.facts; (try simp only [nfl, nft, Nat.reduceAdd] at hc)
  go_wp2_with ((first
        | ((with_reducible refine wl_alloc ?_ (fun K hK => ?_)); rfl; refine owp_alloc (o := ⟨some 1, _, _, _, _, _⟩) rfl st ?_; apply Exists.intro; apply Exists.intro; refine ⟨?_, ?_⟩; (focus (first | (go_simp; done) | (go_simp; rfl))); (clear st; intro b1 w hb st; clear hb))
        | ((with_reducible refine wl_store ?_ (fun K hK => ?_)); rfl; refine owp_store rfl st ?_; apply Exists.intro; apply Exists.intro; refine ⟨?_, ?_, ?_⟩; (focus (go_simp; try rfl)); (focus (go_simp; try rfl)); (first | (with_reducible refine ⟨0, _, _, _, _, get0, rfl, rfl, ?_, ?_, ?_, ?_⟩) | (with_reducible refine ⟨1, _, _, _, _, get1, rfl, rfl, ?_, ?_, ?_, ?_⟩) | (with_reducible refine ⟨2, _, _, _, _, get2, rfl, rfl, ?_, ?_, ?_, ?_⟩) | (with_reducible refine ⟨3, _, _, _, _, get3, rfl, rfl, ?_, ?_, ?_, ?_⟩) | (with_reducible refine ⟨4, _, _, _, _, get4, rfl, rfl, ?_, ?_, ?_, ?_⟩) | (with_reducible refine ⟨5, _, _, _, _, get5, rfl, rfl, ?_, ?_, ?_, ?_⟩) | (with_reducible refine ⟨6, _, _, _, _, get6, rfl, rfl, ?_, ?_, ?_, ?_⟩) | (with_reducible refine ⟨7, _, _, _, _, get7, rfl, rfl, ?_, ?_, ?_, ?_⟩)); (kernel_rfl); (simp [Value.cells]); (rfl); (clear st; intro w st))
        | ((with_reducible refine wl_alloc ?_ (fun K hK => ?_)); rfl; refine owp_alloc (o := ⟨some 2, _, _, _, _, _⟩) rfl st ?_; apply Exists.intro; apply Exists.intro; refine ⟨?_, ?_⟩; (focus (first | (go_simp; done) | (go_simp; rfl))); (clear st; intro b2 w hb st; clear hb))
        | ((with_reducible refine wl_buildSlice ?_ (fun K hK => ?_)); rfl; refine owp_buildSlice (o := ⟨some 40, _, _, _, _, _⟩) rfl st ?_; apply Exists.intro; apply Exists.intro; apply Exists.intro; apply Exists.intro; refine ⟨?_, ?_⟩; (focus (go_simp; (first | done | exact ⟨⟨rfl, rfl⟩, rfl⟩ | rfl))); (clear st; intro b40 w hb st; clear hb))); (try simp only [nsl, Value.cells, unB] at st); (try clear hc); have hc := st.facts; (try simp only [nfl, nft, Nat.reduceAdd] at hc))
  refine (HAT.out _ _ (fl_lit (st.blk (i := 3) get3) [fmA, fmA] rfl)).mono ?_
  rintro en w ⟨va, vc, rfl, _, hx⟩
  replace st := st.ext hx
  clear hx
  (try simp only [nsl, Value.cells, unB] at st)
  (try clear hc); have hc := st.facts; (try simp only [nfl, nft, Nat.reduceAdd] at hc)
  go_wp2_with ((first
        | ((with_reducible refine wl_alloc ?_ (fun K hK => ?_)); rfl; refine owp_alloc (o := ⟨some 1, _, _, _, _, _⟩) rfl st ?_; apply Exists.intro; apply Exists.intro; refine ⟨?_, ?_⟩; (focus (first | (go_simp; done) | (go_simp; rfl))); (clear st; intro b1 w hb st; clear hb))
        | ((with_reducible refine wl_store ?_ (fun K hK => ?_)); rfl; refine owp_store rfl st ?_; apply Exists.intro; apply Exists.intro; refine ⟨?_, ?_, ?_⟩; (focus (go_simp; try rfl)); (focus (go_simp; try rfl)); (first | (with_reducible refine ⟨0, _, _, _, _, get0, rfl, rfl, ?_, ?_, ?_, ?_⟩) | (with_reducible refine ⟨1, _, _, _, _, get1, rfl, rfl, ?_, ?_, ?_, ?_⟩) | (with_reducible refine ⟨2, _, _, _, _, get2, rfl, rfl, ?_, ?_, ?_, ?_⟩) | (with_reducible refine ⟨3, _, _, _, _, get3, rfl, rfl, ?_, ?_, ?_, ?_⟩) | (with_reducible refine ⟨4, _, _, _, _, get4, rfl, rfl, ?_, ?_, ?_, ?_⟩) | (with_reducible refine ⟨5, _, _, _, _, get5, rfl, rfl, ?_, ?_, ?_, ?_⟩) | (with_reducible refine ⟨6, _, _, _, _, get6, rfl, rfl, ?_, ?_, ?_, ?_⟩) | (with_reducible refine ⟨7, _, _, _, _, get7, rfl, rfl, ?_, ?_, ?_, ?_⟩)); (kernel_rfl); (simp [Value.cells]); (rfl); (clear st; intro w st))
        | ((with_reducible refine wl_alloc ?_ (fun K hK => ?_)); rfl; refine owp_alloc (o := ⟨some 2, _, _, _, _, _⟩) rfl st ?_; apply Exists.intro; apply Exists.intro; refine ⟨?_, ?_⟩; (focus (first | (go_simp; done) | (go_simp; rfl))); (clear st; intro b2 w hb st; clear hb))
        | ((with_reducible refine wl_buildSlice ?_ (fun K hK => ?_)); rfl; refine owp_buildSlice (o := ⟨some 40, _, _, _, _, _⟩) rfl st ?_; apply Exists.intro; apply Exists.intro; apply Exists.intro; apply Exists.intro; refine ⟨?_, ?_⟩; (focus (go_simp; (first | done | exact ⟨⟨rfl, rfl⟩, rfl⟩ | rfl))); (clear st; intro b40 w hb st; clear hb))); (try simp only [nsl, Value.cells, unB] at st); (try clear hc); have hc := st.facts; (try simp only [nfl, nft, Nat.reduceAdd] at hc))
  go_ret
  exact ⟨rfl, st.ext0⟩
set_option maxRecDepth 100000 in
set_option maxHeartbeats 4000000 in
theorem capsTell_all (ow : Bool) (p r t y b : Int) (n0 n1 n2 : Int) (W : World) :
    Calls Try.prog 5 #[tV ow p r t y b, .agg #[.int .i64 n0, .int .i64 n1, .int .i64 n2]] W fun e w' => e = .returned (.bool true) ∧ Ext W w' := by
  have HR1 := Lib.hid (capsRight_any ow p r t y b)
  have HR2 := Lib.hid (refCapsRight_any ow p r t y b)
  have HT1 := Lib.hid (capsTicks_any n0 n1 n2)
  have HT2 := Lib.hid (refCapsTicks_any n0 n1 n2)
  generalize termR p r t y b = rv at *
  generalize tickN n0 n1 n2 = tv at *
  unfold tV at HR1 HR2 ⊢
  have st := Own.startOld W
  (try simp only [nsl, Value.cells, unB] at st)
  (try clear hc); have hc := st.facts; (try simp only [nfl, nft, Nat.reduceAdd] at hc)
  go_enter Try.func5, Try.ntmps5
  go_wp2_with ((first
        | ((with_reducible refine wl_box ?_ (fun K hK => ?_)); rfl; refine owp_box (o := ⟨some 2, _, _, _, _, _⟩) rfl st ?_; apply Exists.intro; refine ⟨?_, ?_⟩; (focus (go_simp; try rfl)); (clear st; intro b2 w hb st; clear hb))
        | ((with_reducible refine wl_box ?_ (fun K hK => ?_)); rfl; refine owp_box (o := ⟨some 3, _, _, _, _, _⟩) rfl st ?_; apply Exists.intro; refine ⟨?_, ?_⟩; (focus (go_simp; try rfl)); (clear st; intro b3 w hb st; clear hb))); (try simp only [nsl, Value.cells, unB] at st); (try clear hc); have hc := st.facts; (try simp only [nfl, nft, Nat.reduceAdd] at hc))
  refine (first24_any _).mono ?_
  rintro en w ⟨rfl, hx⟩
  replace st := st.ext hx
  clear hx
  (try clear hc); have hc := st.facts; (try simp only [nfl, nft, Nat.reduceAdd] at hc)
  go_wp2_with fail
  refine Rg4.wp_region4 (Rel := Ext) #[0, 1, 0, 7, 15, 31, 63, 127, 63, 319, 63, 1087, 4095, 63, 8255, 63, 32831, 63, 131135, 524287, 1048575, 2097151, 4194303]
    [(1, .val (.bool rv)), (3, .val (.bool rv)), (12, .val (.int .i64 tv)), (19, .val (.int .i64 tv))] [] [0, 2, 7, 9, 11, 14, 16, 18] (fun _ => True) [0, 1, 2, 3, 4, 5, 6, 7, 8, 9, 10, 11, 12, 13, 14, 15, 16, 17, 18, 19, 20, 21, 22] (by kernel_rfl) (by kernel_rfl) (by kernel_rfl) (by kernel_rfl) Ext.refl (fun _ _ _ => Ext.trans) (show Rg4.PB _ by repeat (first | with_reducible exact Rg4.pb_body | with_reducible exact Rg4.pb_bodyD rfl | with_reducible refine Rg4.pb_then ?_ | with_reducible refine Rg4.pb_inBlock ?_ | with_reducible refine Rg4.pb_noGoto ?_)) (trivial) ?_
  replace st := st.drew
  change Rg4.wp4 _ _ _ _ _ _ _ _ _ (World.drew _) _ _
  generalize World.drew _ = w at st ⊢
  (try clear hc); have hc := st.facts; (try simp only [nfl, nft, Nat.reduceAdd] at hc)
  (refine Rg4.w4_read (Rg4.want_none rfl) rfl rfl ?_; apply Exists.intro; refine ⟨fun w' hw' hcl' => ?_, ?_⟩; focus (have st' := st.ext hw'; have hc' := st'.facts; (try simp only [nfl, nft, Nat.reduceAdd] at hc'); (focus (first | (go_simp; done) | (go_simp; first | rfl | (rw [if_neg] <;> first | rfl | omega) | (rw [if_pos] <;> first | rfl | omega))))); (try simp only [Rg4.nrm]))
  refine Rg4.w4_some (Rg4.want_none rfl) rfl (fun w' hw' hcl' _ => ?_) ?_
  · refine Rg.relAt_call (by go_simp; exact ⟨rfl, rfl⟩) ?_
    refine (HR1.out _).mono ?_
    rintro en w'' ⟨rfl, hx⟩
    exact ⟨_, rfl, hx, trivial, rfl⟩
  rintro v ⟨_, _, _, rfl⟩
  (try simp only [Rg4.nrm])
  (refine Rg4.w4_read (Rg4.want_none rfl) rfl rfl ?_; apply Exists.intro; refine ⟨fun w' hw' hcl' => ?_, ?_⟩; focus (have st' := st.ext hw'; have hc' := st'.facts; (try simp only [nfl, nft, Nat.reduceAdd] at hc'); (focus (first | (go_simp; done) | (go_simp; first | rfl | (rw [if_neg] <;> first | rfl | omega) | (rw [if_pos] <;> first | rfl | omega))))); (try simp only [Rg4.nrm]))
  refine Rg4.w4_some (Rg4.want_none rfl) rfl (fun w' hw' hcl' _ => ?_) ?_
  · refine Rg.relAt_call (by go_simp; exact ⟨rfl, rfl⟩) ?_
    refine (HR2.out _).mono ?_
    rintro en w'' ⟨rfl, hx⟩
    exact ⟨_, rfl, hx, trivial, rfl⟩
  rintro v ⟨_, _, _, rfl⟩
  (try simp only [Rg4.nrm])
  iterate 2 (refine Rg4.w4_any (Rg4.want_none rfl) rfl ?_; apply Exists.intro; refine ⟨fun w' => ?_, ?_⟩; (focus (first | (go_simp; done) | (go_simp; first | rfl | (rw [if_neg] <;> first | rfl | omega) | (rw [if_pos] <;> first | rfl | omega)))); (try simp only [Rg4.nrm]))
  (first | (refine Rg4.w4_any (Rg4.wt rfl rfl rfl) rfl ?_; apply Exists.intro; refine ⟨fun w' => ?_, ?_⟩; (focus (first | (go_simp; done) | (go_simp; first | rfl | (rw [if_neg] <;> first | rfl | omega) | (rw [if_pos] <;> first | rfl | omega)))); (try simp only [Rg4.nrm])) | (refine Rg4.w4_skip (Rg4.uw rfl rfl rfl) ?_; (try simp only [Rg4.nrm])) | (refine Rg4.w4_skip (Rg4.un rfl rfl rfl) ?_; (try simp only [Rg4.nrm])))
  (first | (refine Rg4.w4_read (Rg4.wt rfl rfl rfl) rfl rfl ?_; apply Exists.intro; refine ⟨fun w' hw' hcl' => ?_, ?_⟩; focus (have st' := st.ext hw'; have hc' := st'.facts; (try simp only [nfl, nft, Nat.reduceAdd] at hc'); (focus (first | (go_simp; done) | (go_simp; first | rfl | (rw [if_neg] <;> first | rfl | omega) | (rw [if_pos] <;> first | rfl | omega))))); (try simp only [Rg4.nrm])) | (refine Rg4.w4_skip (Rg4.uw rfl rfl rfl) ?_; (try simp only [Rg4.nrm])) | (refine Rg4.w4_skip (Rg4.un rfl rfl rfl) ?_; (try simp only [Rg4.nrm])))
  (first | (refine Rg4.w4_any (Rg4.wt rfl rfl rfl) rfl ?_; apply Exists.intro; refine ⟨fun w' => ?_, ?_⟩; (focus (first | (go_simp; done) | (go_simp; first | rfl | (rw [if_neg] <;> first | rfl | omega) | (rw [if_pos] <;> first | rfl | omega)))); (try simp only [Rg4.nrm])) | (refine Rg4.w4_skip (Rg4.uw rfl rfl rfl) ?_; (try simp only [Rg4.nrm])) | (refine Rg4.w4_skip (Rg4.un rfl rfl rfl) ?_; (try simp only [Rg4.nrm])))
  (first | (refine Rg4.w4_read (Rg4.wt rfl rfl rfl) rfl rfl ?_; apply Exists.intro; refine ⟨fun w' hw' hcl' => ?_, ?_⟩; focus (have st' := st.ext hw'; have hc' := st'.facts; (try simp only [nfl, nft, Nat.reduceAdd] at hc'); (focus (first | (go_simp; done) | (go_simp; first | rfl | (rw [if_neg] <;> first | rfl | omega) | (rw [if_pos] <;> first | rfl | omega))))); (try simp only [Rg4.nrm])) | (refine Rg4.w4_skip (Rg4.uw rfl rfl rfl) ?_; (try simp only [Rg4.nrm])) | (refine Rg4.w4_skip (Rg4.un rfl rfl rfl) ?_; (try simp only [Rg4.nrm])))
  (first | (refine Rg4.w4_any (Rg4.wt rfl rfl rfl) rfl ?_; apply Exists.intro; refine ⟨fun w' => ?_, ?_⟩; (focus (first | (go_simp; done) | (go_simp; first | rfl | (rw [if_neg] <;> first | rfl | omega) | (rw [if_pos] <;> first | rfl | omega)))); (try simp only [Rg4.nrm])) | (refine Rg4.w4_skip (Rg4.uw rfl rfl rfl) ?_; (try simp only [Rg4.nrm])) | (refine Rg4.w4_skip (Rg4.un rfl rfl rfl) ?_; (try simp only [Rg4.nrm])))
  (first | (refine Rg4.w4_read (Rg4.wt rfl rfl rfl) rfl rfl ?_; apply Exists.intro; refine ⟨fun w' hw' hcl' => ?_, ?_⟩; focus (have st' := st.ext hw'; have hc' := st'.facts; (try simp only [nfl, nft, Nat.reduceAdd] at hc'); (focus (first | (go_simp; done) | (go_simp; first | rfl | (rw [if_neg] <;> first | rfl | omega) | (rw [if_pos] <;> first | rfl | omega))))); (try simp only [Rg4.nrm])) | (refine Rg4.w4_skip (Rg4.uw rfl rfl rfl) ?_; (try simp only [Rg4.nrm])) | (refine Rg4.w4_skip (Rg4.un rfl rfl rfl) ?_; (try simp only [Rg4.nrm])))
  refine Rg4.w4_some (Rg4.want_of 5 12 true rfl rfl rfl) rfl (fun w' hw' hcl' _ => ?_) ?_
  · refine Rg.relAt_call (by go_simp; exact ⟨rfl, rfl⟩) ?_
    refine (HT1.out _).mono ?_
    rintro en w'' ⟨rfl, hx⟩
    exact ⟨_, rfl, hx, trivial, rfl⟩
  rintro v ⟨_, _, _, rfl⟩
  (try simp only [Rg4.nrm])
  (first | (refine Rg4.w4_any (Rg4.wt rfl rfl rfl) rfl ?_; apply Exists.intro; refine ⟨fun w' => ?_, ?_⟩; (focus (first | (go_simp; done) | (go_simp; first | rfl | (rw [if_neg] <;> first | rfl | omega) | (rw [if_pos] <;> first | rfl | omega)))); (try simp only [Rg4.nrm])) | (refine Rg4.w4_skip (Rg4.uw rfl rfl rfl) ?_; (try simp only [Rg4.nrm])) | (refine Rg4.w4_skip (Rg4.un rfl rfl rfl) ?_; (try simp only [Rg4.nrm])))
  (first | (refine Rg4.w4_read (Rg4.wt rfl rfl rfl) rfl rfl ?_; apply Exists.intro; refine ⟨fun w' hw' hcl' => ?_, ?_⟩; focus (have st' := st.ext hw'; have hc' := st'.facts; (try simp only [nfl, nft, Nat.reduceAdd] at hc'); (focus (first | (go_simp; done) | (go_simp; first | rfl | (rw [if_neg] <;> first | rfl | omega) | (rw [if_pos] <;> first | rfl | omega))))); (try simp only [Rg4.nrm])) | (refine Rg4.w4_skip (Rg4.uw rfl rfl rfl) ?_; (try simp only [Rg4.nrm])) | (refine Rg4.w4_skip (Rg4.un rfl rfl rfl) ?_; (try simp only [Rg4.nrm])))
  (first | (refine Rg4.w4_any (Rg4.wt rfl rfl rfl) rfl ?_; apply Exists.intro; refine ⟨fun w' => ?_, ?_⟩; (focus (first | (go_simp; done) | (go_simp; first | rfl | (rw [if_neg] <;> first | rfl | omega) | (rw [if_pos] <;> first | rfl | omega)))); (try simp only [Rg4.nrm])) | (refine Rg4.w4_skip (Rg4.uw rfl rfl rfl) ?_; (try simp only [Rg4.nrm])) | (refine Rg4.w4_skip (Rg4.un rfl rfl rfl) ?_; (try simp only [Rg4.nrm])))
  (first | (refine Rg4.w4_read (Rg4.wt rfl rfl rfl) rfl rfl ?_; apply Exists.intro; refine ⟨fun w' hw' hcl' => ?_, ?_⟩; focus (have st' := st.ext hw'; have hc' := st'.facts; (try simp only [nfl, nft, Nat.reduceAdd] at hc'); (focus (first | (go_simp; done) | (go_simp; first | rfl | (rw [if_neg] <;> first | rfl | omega) | (rw [if_pos] <;> first | rfl | omega))))); (try simp only [Rg4.nrm])) | (refine Rg4.w4_skip (Rg4.uw rfl rfl rfl) ?_; (try simp only [Rg4.nrm])) | (refine Rg4.w4_skip (Rg4.un rfl rfl rfl) ?_; (try simp only [Rg4.nrm])))
  (first | (refine Rg4.w4_any (Rg4.wt rfl rfl rfl) rfl ?_; apply Exists.intro; refine ⟨fun w' => ?_, ?_⟩; (focus (first | (go_simp; done) | (go_simp; first | rfl | (rw [if_neg] <;> first | rfl | omega) | (rw [if_pos] <;> first | rfl | omega)))); (try simp only [Rg4.nrm])) | (refine Rg4.w4_skip (Rg4.uw rfl rfl rfl) ?_; (try simp only [Rg4.nrm])) | (refine Rg4.w4_skip (Rg4.un rfl rfl rfl) ?_; (try simp only [Rg4.nrm])))
  (first | (refine Rg4.w4_read (Rg4.wt rfl rfl rfl) rfl rfl ?_; apply Exists.intro; refine ⟨fun w' hw' hcl' => ?_, ?_⟩; focus (have st' := st.ext hw'; have hc' := st'.facts; (try simp only [nfl, nft, Nat.reduceAdd] at hc'); (focus (first | (go_simp; done) | (go_simp; first | rfl | (rw [if_neg] <;> first | rfl | omega) | (rw [if_pos] <;> first | rfl | omega))))); (try simp only [Rg4.nrm])) | (refine Rg4.w4_skip (Rg4.uw rfl rfl rfl) ?_; (try simp only [Rg4.nrm])) | (refine Rg4.w4_skip (Rg4.un rfl rfl rfl) ?_; (try simp only [Rg4.nrm])))
  refine Rg4.w4_some (Rg4.want_of 5 12 true rfl rfl rfl) rfl (fun w' hw' hcl' _ => ?_) ?_
  · refine Rg.relAt_call (by go_simp; exact ⟨rfl, rfl⟩) ?_
    refine (HT2.out _).mono ?_
    rintro en w'' ⟨rfl, hx⟩
    exact ⟨_, rfl, hx, trivial, rfl⟩
  rintro v ⟨_, _, _, rfl⟩
  (try simp only [Rg4.nrm])
  (first | (refine Rg4.w4_any (Rg4.wt rfl rfl rfl) rfl ?_; apply Exists.intro; refine ⟨fun w' => ?_, ?_⟩; (focus (first | (go_simp; done) | (go_simp; first | rfl | (rw [if_neg] <;> first | rfl | omega) | (rw [if_pos] <;> first | rfl | omega)))); (try simp only [Rg4.nrm])) | (refine Rg4.w4_skip (Rg4.uw rfl rfl rfl) ?_; (try simp only [Rg4.nrm])) | (refine Rg4.w4_skip (Rg4.un rfl rfl rfl) ?_; (try simp only [Rg4.nrm])))
  iterate 2 (refine Rg4.w4_any (Rg4.want_none rfl) rfl ?_; apply Exists.intro; refine ⟨fun w' => ?_, ?_⟩; (focus (first | (go_simp; done) | (go_simp; first | rfl | (rw [if_neg] <;> first | rfl | omega) | (rw [if_pos] <;> first | rfl | omega)))); (try simp only [Rg4.nrm]))
  refine Rg4.w4_nil (fun w' hw' hcl' _ => ?_); replace st := st.ext hw'; clear hw' hcl'; (try clear hc); have hc := st.facts; (try simp only [nfl, nft, Nat.reduceAdd] at hc)
  go_wp2_with fail
  go_ret
  exact ⟨by simp, st.ext0⟩
end Go.Proofs.Ythjaopojlhdjpaa

namespace Go.Proofs.Ythjaopojlhdjpaa
set_option linter.unusedSimpArgs false
set_option linter.unusedVariables false
open Go Go.RowKit Go.ChangeShapes Go.WideShapes Go.ChangeAt

section
variable {H : Type} {enc : TypeId × Value → H} {P : Program} {w : World} {base : Nat} {spare : Nat → Bool} {held : Bool}
end
end Go.Proofs.Ythjaopojlhdjpaa

namespace Go.Proofs.Ythjaopojlhdjpaa
set_option linter.unusedSimpArgs false
set_option linter.unusedVariables false
open Go Go.RowKit Go.ChangeShapes Go.WideShapes Go.ChangeAt
theorem upto_bound {H : Type} {l : List (DataW H)} (hk : Rows.uptoSmall H l = true) : Rows.uptoBulkAll l ≤ 1048576 := of_decide_eq_true hk
section
variable {H : Type} {enc : TypeId × Value → H} {P : Program} {w : World} {base : Nat} {held : Bool}
end
end Go.Proofs.Ythjaopojlhdjpaa

namespace Go.Proofs.Ythjaopojlhdjpaa
set_option linter.unusedSimpArgs false
set_option linter.unusedVariables false
open Go Go.RowKit Go.ChangeShapes Go.WideShapes Go.ChangeAt
section
variable {H : Type} {enc : TypeId × Value → H} {P : Program} {w : World} {base : Nat} {held : Bool}
/-- One of them. -/
theorem open_flt {α : Type} [Flt α] (bulk : α → Nat) (R : α → Prop) {r : Reach} {b0 : Nat} {t : TypeId} {fs : Array Field} {v : Value} {d : DataW H} {p : List MemPlace} (ht : P.underlying t = some (.struct fs))
    (hel : ∀ (fuel : Nat) (cs : List Value) (x : DataW H × List MemPlace), DataW.trod enc P w base (fun _ => true) held fuel t cs = some x → ∃ y : α, cs = Flt.cells y ∧ bulk y ≤ Rows.uptoBulk x.1 ∧ R y)
    (hv : Value.okWide P w r b0 t v) (h : DataW.Trod enc P w base (fun _ => true) held t v d p) : ∃ x : α, v = .agg (Flt.cells x).toArray ∧ bulk x ≤ Rows.uptoBulk d ∧ R x := by
  obtain ⟨cs, rfl, hsz⟩ := okWide_struct ht hv
  obtain ⟨fuel, hf⟩ := h
  obtain ⟨x, h1, h2, h3⟩ := hel _ _ _ hf
  refine ⟨x, ?_, h2, h3⟩
  have : cs.toList = Flt.cells x := by simpa [Value.cells] using h1
  congr 1
  apply Array.toList_inj.1
  rw [this]
theorem trod_fields {t : TypeId} {fs : Array Field} {fuel : Nat} {cs : List Value} {x : DataW H × List MemPlace} (ht : P.underlying t = some (.struct fs)) (h : DataW.trod enc P w base (fun _ => true) held fuel t cs = some x) :
    ∃ (xs : List (DataW H × List MemPlace)) (n : Nat), x.1 = .agg (xs.map (·.1)) ∧ cs.length = P.cellsOf t ∧ xs.length = fs.size ∧
      ∀ (i : Nat) (f : Field), fs[i]? = some f → ∃ y, xs[i]? = some y ∧ DataW.trod enc P w base (fun _ => true) held n f.type ((cs.drop f.offset).take (P.cellsOf f.type)) = some y := by
  obtain ⟨xs, n, _, rfl, hl, hlen, hf⟩ := DataW.trod_struct ht h
  refine ⟨xs, n, rfl, hl, hlen, fun i f hi => ?_⟩
  have := hf i f hi
  have hil : i < xs.length := by rw [hlen]; exact (Array.getElem?_eq_some_iff.1 hi).1
  refine ⟨xs[i], List.getElem?_eq_getElem hil, ?_⟩
  rw [this, List.getElem?_eq_getElem hil]
end
end Go.Proofs.Ythjaopojlhdjpaa

namespace Go.Proofs.Ythjaopojlhdjpaa
set_option linter.unusedSimpArgs false
set_option linter.unusedVariables false
open Go Go.RowKit Go.ChangeShapes Go.WideShapes Go.ChangeAt
structure TmT where
  o : Bool
  p : Int
  r : Int
  t : Int
  y : Int
  b : Int
instance fltTm : Flt TmT := ⟨6, fun x => [.bool x.o, .int .i64 x.p, .int .i64 x.r, .int .i64 x.t, .int .i64 x.y, .int .i64 x.b], fun _ => rfl, by decide, fun x u hu => by simp at hu; rcases hu with rfl | rfl | rfl | rfl | rfl | rfl <;> rfl⟩
section
variable {H : Type} {enc : TypeId × Value → H} {w : World} {base : Nat} {held : Bool}
set_option maxRecDepth 100000 in
theorem trod_terms {fuel : Nat} {cs : List Value} {x : DataW H × List MemPlace} (h : DataW.trod enc Try.prog w base (fun _ => true) held fuel 43 cs = some x) : ∃ y : TmT, cs = Flt.cells y ∧ 0 ≤ Rows.uptoBulk x.1 ∧ True := by
  have hS := Try.underlying43
  obtain ⟨xs, n, hx, hl, hlen, hf⟩ := trod_fields hS h
  rw [show Try.prog.cellsOf 43 = 6 from by kernel_rfl] at hl
  obtain ⟨y0, e0, h0⟩ := hf 0 _ rfl
  obtain ⟨y1, e1, h1⟩ := hf 1 _ rfl
  obtain ⟨y2, e2, h2⟩ := hf 2 _ rfl
  obtain ⟨y3, e3, h3⟩ := hf 3 _ rfl
  obtain ⟨y4, e4, h4⟩ := hf 4 _ rfl
  obtain ⟨y5, e5, h5⟩ := hf 5 _ rfl
  change DataW.trod enc Try.prog w base (fun _ => true) held n 4 ((cs.drop 0).take (Try.prog.cellsOf 4)) = some y0 at h0
  change DataW.trod enc Try.prog w base (fun _ => true) held n 3 ((cs.drop 1).take (Try.prog.cellsOf 3)) = some y1 at h1
  change DataW.trod enc Try.prog w base (fun _ => true) held n 3 ((cs.drop 2).take (Try.prog.cellsOf 3)) = some y2 at h2
  change DataW.trod enc Try.prog w base (fun _ => true) held n 3 ((cs.drop 3).take (Try.prog.cellsOf 3)) = some y3 at h3
  change DataW.trod enc Try.prog w base (fun _ => true) held n 3 ((cs.drop 4).take (Try.prog.cellsOf 3)) = some y4 at h4
  change DataW.trod enc Try.prog w base (fun _ => true) held n 3 ((cs.drop 5).take (Try.prog.cellsOf 3)) = some y5 at h5
  have k1 : Try.prog.cellsOf 3 = 1 := by kernel_rfl
  have k2 : Try.prog.cellsOf 4 = 1 := by kernel_rfl
  rw [k1] at h1 h2 h3 h4 h5
  rw [k2] at h0
  match cs, hl with
  | [c0, c1, c2, c3, c4, c5], _ =>
    simp only [List.drop_succ_cons, List.drop_zero, List.take_succ_cons, List.take_zero] at h0 h1 h2 h3 h4 h5
    obtain ⟨i0, q0, _⟩ := DataW.trod_bool Try.underlying4 h0
    obtain ⟨i1, q1, _, _⟩ := DataW.trod_int Try.underlying3 h1
    obtain ⟨i2, q2, _, _⟩ := DataW.trod_int Try.underlying3 h2
    obtain ⟨i3, q3, _, _⟩ := DataW.trod_int Try.underlying3 h3
    obtain ⟨i4, q4, _, _⟩ := DataW.trod_int Try.underlying3 h4
    obtain ⟨i5, q5, _, _⟩ := DataW.trod_int Try.underlying3 h5
    simp at q0 q1 q2 q3 q4 q5
    exact ⟨⟨i0, i1, i2, i3, i4, i5⟩, by rw [q0, q1, q2, q3, q4, q5]; rfl, by omega, trivial⟩
  | [], hl => simp at hl
end
theorem capsTell_law (x : TmT) (n0 n1 n2 : Int) (W : World) :
    Calls Try.prog 5 #[.agg (Flt.cells x).toArray, .agg #[.int .i64 n0, .int .i64 n1, .int .i64 n2]] W fun e w' => e = .returned (.bool true) ∧ Ext W w' := capsTell_all x.o x.p x.r x.t x.y x.b n0 n1 n2 W
end Go.Proofs.Ythjaopojlhdjpaa

namespace Go.Proofs.Ythjaopojlhdjpaa
set_option linter.unusedSimpArgs false
set_option linter.unusedVariables false
open Go Go.RowKit Go.ChangeShapes Go.WideShapes Go.ChangeAt
section
variable {H : Type} {enc : TypeId × Value → H} {P : Program} {w : World} {base : Nat} {held : Bool}
theorem open_ints {m : Nat} {r : Reach} {b0 : Nat} {t e : TypeId} {v : Value} {d : DataW H} {p : List MemPlace} (ht : P.underlying t = some (.array m e)) (he : P.underlying e = some (.int .i64)) (ce : P.cellsOf e = 1) (ct : P.cellsOf t = m)
    (hv : Value.okWide P w r b0 t v) (h : DataW.Trod enc P w base (fun _ => true) held t v d p) : ∃ cs : List Value, v = .agg cs.toArray ∧ cs.length = m ∧ ∀ (i : Nat) (c : Value), cs[i]? = some c → ∃ x : Int, c = Value.int .i64 x ∧ (Lit.int .i64 x).wf = true := by
  obtain ⟨cs, rfl, hsz⟩ : ∃ cs, v = .agg cs ∧ cs.size = P.cellsOf t := by
    simp only [Value.okWide, ht] at hv
    obtain ⟨cs, h1, h2, _⟩ := hv
    exact ⟨cs, h1, h2⟩
  obtain ⟨fuel, hf⟩ := h
  obtain ⟨ys, n, _, _, _, hl, hel⟩ := DataW.trod_array ht hf
  rw [ct] at hsz
  obtain ⟨l⟩ := cs
  have hlen : l.length = m := by simpa using hsz
  refine ⟨l, rfl, hlen, fun i c hi => ?_⟩
  have him : i < m := by have := (List.getElem?_eq_some_iff.1 hi).1; omega
  have h1 := hel i him
  rw [ce, Nat.mul_one, List.getElem?_eq_getElem (by omega)] at h1
  have e1 : (((Value.agg ⟨l⟩).cells.toList).drop i).take 1 = [c] := by
    have hil : i < l.length := by omega
    have hc : l[i] = c := by rw [List.getElem?_eq_getElem hil] at hi; injection hi
    simp only [Value.cells]
    rw [List.drop_eq_getElem_cons hil, hc]
    rfl
  rw [e1] at h1
  obtain ⟨x, q, _, hw⟩ := DataW.trod_int he h1
  simp at q
  exact ⟨x, q, hw⟩
theorem open_int3 {r : Reach} {b0 : Nat} {t e : TypeId} {v : Value} {d : DataW H} {p : List MemPlace} (ht : P.underlying t = some (.array 3 e)) (he : P.underlying e = some (.int .i64)) (ce : P.cellsOf e = 1) (ct : P.cellsOf t = 3)
    (hv : Value.okWide P w r b0 t v) (h : DataW.Trod enc P w base (fun _ => true) held t v d p) : ∃ x y z, v = .agg #[.int .i64 x, .int .i64 y, .int .i64 z] ∧ (Lit.int .i64 x).wf = true ∧ (Lit.int .i64 y).wf = true ∧ (Lit.int .i64 z).wf = true := by
  obtain ⟨cs, rfl, hl, hc⟩ := open_ints ht he ce ct hv h
  match cs, hl with
  | [c0, c1, c2], _ =>
    obtain ⟨x, rfl, hx⟩ := hc 0 c0 rfl
    obtain ⟨y, rfl, hy⟩ := hc 1 c1 rfl
    obtain ⟨z, rfl, hz⟩ := hc 2 c2 rfl
    exact ⟨x, y, z, rfl, hx, hy, hz⟩
end
end Go.Proofs.Ythjaopojlhdjpaa
