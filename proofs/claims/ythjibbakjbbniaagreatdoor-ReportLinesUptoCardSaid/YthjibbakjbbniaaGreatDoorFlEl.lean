/- Texts of credentials, and what parses them: plain. -/
import Derived.Test.YthjibbakjbbniaaGreatDoorCredG
import Derived.Lib.IndexMore
import Derived.Lib.LastIndexLaws
import Derived.Lib.BytesEntry
import Derived.Laws.Externs
import Derived.Shelf.SlSortCmp.NoneTotal
import Derived.Sort.OwnSorted
import Derived.Test.YthjibbakjbbniaaGreatDoorSortC
import Derived.Test.YthjibbakjbbniaaGreatDoorShelf
import Derived.Lib.AppendStr
import Derived.Lib.UnsafeStr
import Derived.Shelf.RegionOpenPlain
import Derived.ArgAppend
import Derived.Lib.LaidTab
import Derived.Lib.ItoaMem
import Derived.MapKept
import Derived.Laws.IdiomRangeMap
import Derived.WalkSpells
namespace Go.Proofs.YthjibbakjbbniaaGreatDoor
set_option linter.unusedSimpArgs false
set_option linter.unusedVariables false
open Go Go.RowKit
open Go.Lib (index occAt NoOcc index_hit index_none index_spec index_room index_ge)
/-- A text, split at a text. -/
def splitF (sep : List UInt8) : Nat → List UInt8 → List (List UInt8)
  | 0, s => [s]
  | n + 1, s => if index s sep = -1 then [s] else s.take (index s sep).toNat :: splitF sep n (s.drop ((index s sep).toNat + sep.length))
def splitG (sep s : List UInt8) : List (List UInt8) := splitF sep s.length s
theorem splitF_fuel {sep : List UInt8} (hsep : sep ≠ []) : ∀ (n m : Nat) (s : List UInt8), s.length ≤ n → s.length ≤ m → splitF sep n s = splitF sep m s := by
  have key : ∀ (n m : Nat) (s : List UInt8), n ≤ m → s.length ≤ n → splitF sep n s = splitF sep m s := by
    intro n
    induction n with
    | zero =>
      intro m s _ hs
      have : s = [] := List.eq_nil_of_length_eq_zero (by omega)
      subst this
      cases m with
      | zero => rfl
      | succ m =>
        have hi : index [] sep = -1 := by cases sep with
          | nil => exact absurd rfl hsep
          | cons _ _ => rfl
        rw [splitF, splitF, if_pos hi]
    | succ n ih =>
      intro m s hm hs
      obtain ⟨m, rfl⟩ : ∃ k, m = k + 1 := ⟨m - 1, by omega⟩
      rw [splitF, splitF]
      split
      · rfl
      · congr 1
        refine ih m _ (by omega) ?_
        have : 0 < sep.length := List.length_pos_iff.2 hsep
        simp; omega
  intro n m s h1 h2
  rw [← key s.length n s h1 (Nat.le_refl _), ← key s.length m s h2 (Nat.le_refl _)]
theorem splitG_none {sep s : List UInt8} (h : index s sep = -1) : splitG sep s = [s] := by
  unfold splitG
  cases s with
  | nil => rfl
  | cons x s => rw [List.length_cons, splitF, if_pos h]
theorem splitG_some {sep s : List UInt8} (hsep : sep ≠ []) {i : Nat} (h : index s sep = i) : splitG sep s = s.take i :: splitG sep (s.drop (i + sep.length)) := by
  have hr := index_room s sep (by omega)
  have : 0 < sep.length := List.length_pos_iff.2 hsep
  unfold splitG
  cases hs : s with
  | nil => rw [hs] at hr h; simp at hr; rw [h] at hr; omega
  | cons x t =>
    rw [← hs]
    conv => lhs; rw [show s.length = t.length + 1 by rw [hs]; rfl]
    rw [splitF, if_neg (by omega), h]
    simp only [Int.toNat_natCast]
    congr 1
    refine splitF_fuel hsep _ _ _ ?_ (Nat.le_refl _)
    rw [List.length_drop, hs, List.length_cons]; omega
/-! The texts. -/
def arrow : List UInt8 := [32, 60, 45, 32]
def ampS : List UInt8 := [32, 38, 32]
def bodyT (x : CredT) : List UInt8 := if x.k = 1 then x.w else if x.k = 2 then roleT x.b else if x.k = 3 then roleT x.b ++ [46] ++ x.e else roleT x.b ++ ampS ++ roleT x.c
def credTx (x : CredT) : List UInt8 := roleT x.h ++ arrow ++ bodyT x
def credTy (x : CredT) : List UInt8 := if credR x = true then credTx x else []
end Go.Proofs.YthjibbakjbbniaaGreatDoor

namespace Go.Proofs.YthjibbakjbbniaaGreatDoor
set_option linter.unusedSimpArgs false
set_option linter.unusedVariables false
open Go Go.RowKit
set_option maxRecDepth 100000 in
set_option maxHeartbeats 1000000 in
theorem credBody_any (x : CredT) (W : World) (hl : CredL 100000 x) :
    Calls Tryz.prog 31 #[cV x] W fun e w' => e = .returned (S (bodyT x)) ∧ Ext W w' := by
  have happ := ba_append
  have happ2 : ∀ a : List UInt8, (⟨a.toArray⟩ : ByteArray) ++ ⟨#[46]⟩ = ⟨(a ++ [46]).toArray⟩ := fun a => ba_append a [46]
  have happ3 : ∀ a : List UInt8, (⟨a.toArray⟩ : ByteArray) ++ ⟨#[32, 38, 32]⟩ = ⟨(a ++ [32, 38, 32]).toArray⟩ := fun a => ba_append a [32, 38, 32]
  obtain ⟨l1, l2, l3, l4, l5, l6, l7, l8⟩ := hl
  have HTB := Lib.hid (fun W => roleText_any x.b W (by omega))
  have HTC := Lib.hid (fun W => roleText_any x.c W (by omega))
  have hb1 : (roleT x.b).length ≤ 200001 := by simp [roleT]; omega
  have hb2 : (roleT x.c).length ≤ 200001 := by simp [roleT]; omega
  obtain ⟨tb, htb⟩ : ∃ t, roleT x.b = t := ⟨_, rfl⟩
  obtain ⟨tc, htc⟩ : ∃ t, roleT x.c = t := ⟨_, rfl⟩
  have HE : Hid (bodyT x = if x.k = 1 then x.w else if x.k = 2 then tb else if x.k = 3 then tb ++ [46] ++ x.e else tb ++ ampS ++ tc) := Lib.hid (by unfold bodyT; rw [htb, htc])
  rw [htb] at HTB hb1
  rw [htc] at HTC hb2
  clear htb htc
  have st := Own.startOld W
  unfold cV S
  unfold rV S at HTB HTC
  (try simp only [nsl, Value.cells, unB] at st)
  (try clear hc); have hc := st.facts; (try simp only [nfl, nft, Nat.reduceAdd] at hc)
  by_cases k1 : x.k = 1
  · have K1 := Lib.hid k1
    go_enter Tryz.func31, Tryz.ntmps31
    go_wp2_with ((((with_reducible refine wl_box ?_ (fun K hK => ?_)); rfl; refine owp_box (o := ⟨some 1, _, _, _, _, _⟩) rfl st ?_; apply Exists.intro; refine ⟨?_, ?_⟩; (focus (go_simp; try rfl)); (clear st; intro b1 w hb st; clear hb))); (try simp only [nsl, Value.cells, unB] at st); (try clear hc); have hc := st.facts; (try simp only [nfl, nft, Nat.reduceAdd] at hc))
    go_ret
    exact ⟨by rw [HE.out, if_pos K1.out]; first | rfl | simp [S, ampS, arrow], st.ext0⟩
  · have hk1 : (x.k == 1) = false := by simpa using k1
    have K1 := Lib.hid k1
    clear k1
    by_cases k2 : x.k = 2
    · have K2 := Lib.hid k2
      go_enter Tryz.func31, Tryz.ntmps31
      go_wp2_with ((((with_reducible refine wl_box ?_ (fun K hK => ?_)); rfl; refine owp_box (o := ⟨some 1, _, _, _, _, _⟩) rfl st ?_; apply Exists.intro; refine ⟨?_, ?_⟩; (focus (go_simp; try rfl)); (clear st; intro b1 w hb st; clear hb))); (try simp only [nsl, Value.cells, unB] at st); (try clear hc); have hc := st.facts; (try simp only [nfl, nft, Nat.reduceAdd] at hc))
      refine (HTB.out _).mono ?_
      rintro en w ⟨rfl, hx⟩
      replace st := st.ext hx
      clear hx
      (try clear hc); have hc := st.facts; (try simp only [nfl, nft, Nat.reduceAdd] at hc)
      go_wp2_with ((((with_reducible refine wl_box ?_ (fun K hK => ?_)); rfl; refine owp_box (o := ⟨some 1, _, _, _, _, _⟩) rfl st ?_; apply Exists.intro; refine ⟨?_, ?_⟩; (focus (go_simp; try rfl)); (clear st; intro b1 w hb st; clear hb))); (try simp only [nsl, Value.cells, unB] at st); (try clear hc); have hc := st.facts; (try simp only [nfl, nft, Nat.reduceAdd] at hc))
      go_ret
      exact ⟨by rw [HE.out, if_neg K1.out, if_pos K2.out]; first | rfl | simp [S, ampS, arrow], st.ext0⟩
    · have hk2 : (x.k == 2) = false := by simpa using k2
      have K2 := Lib.hid k2
      clear k2
      by_cases k3 : x.k = 3
      · have K3 := Lib.hid k3
        go_enter Tryz.func31, Tryz.ntmps31
        go_wp2_with ((((with_reducible refine wl_box ?_ (fun K hK => ?_)); rfl; refine owp_box (o := ⟨some 1, _, _, _, _, _⟩) rfl st ?_; apply Exists.intro; refine ⟨?_, ?_⟩; (focus (go_simp; try rfl)); (clear st; intro b1 w hb st; clear hb))); (try simp only [nsl, Value.cells, unB] at st); (try clear hc); have hc := st.facts; (try simp only [nfl, nft, Nat.reduceAdd] at hc))
        refine Rg4.wp_region4 (Rel := Ext) #[0, 1, 3, 7, 0, 16, 63, 127]
          [(2, .val (.string ⟨tb.toArray⟩))] [] [1, 5] (fun W' => Blk W' b1 [.int .i64 3, .string ⟨x.h.1.toArray⟩, .string ⟨x.h.2.toArray⟩, .string ⟨x.w.toArray⟩, .string ⟨x.b.1.toArray⟩, .string ⟨x.b.2.toArray⟩, .string ⟨x.c.1.toArray⟩, .string ⟨x.c.2.toArray⟩, .string ⟨x.e.toArray⟩]) [0, 1, 2, 3, 4, 5, 6, 7] (by kernel_rfl) (by kernel_rfl) (by kernel_rfl) (by kernel_rfl) Ext.refl (fun _ _ _ => Ext.trans) (show Rg4.PB _ by repeat (first | with_reducible exact Rg4.pb_body | with_reducible exact Rg4.pb_bodyD rfl | with_reducible refine Rg4.pb_then ?_ | with_reducible refine Rg4.pb_inBlock ?_ | with_reducible refine Rg4.pb_noGoto ?_ | with_reducible assumption)) (st.drew.blk (i := 1) get1) ?_
        replace st := st.drew
        change Rg4.wp4 _ _ _ _ _ _ _ _ _ (World.drew _) _ _
        generalize World.drew _ = w at st ⊢
        (try clear hc); have hc := st.facts; (try simp only [nfl, nft, Nat.reduceAdd] at hc)
        (refine Rg4.w4_any (Rg4.want_none rfl) rfl ?_; apply Exists.intro; refine ⟨fun w' => ?_, ?_⟩; (focus (first | (go_simp; done) | (go_simp; first | rfl | (rw [if_neg] <;> first | rfl | omega) | (rw [if_pos] <;> first | rfl | omega)))); (try simp only [Rg4.nrm]))
        (refine Rg4.w4_read (Rg4.want_none rfl) rfl rfl ?_; apply Exists.intro; refine ⟨fun w' hw' hcl' => ?_, ?_⟩; focus (have st' := st.ext hw'; have hc' := st'.facts; (try simp only [nfl, nft, Nat.reduceAdd] at hc'); (focus (first | (go_simp; done) | (go_simp; first | rfl | (rw [if_neg] <;> first | rfl | omega) | (rw [if_pos] <;> first | rfl | omega))))); (try simp only [Rg4.nrm]))
        refine Rg4.w4_some (Rg4.want_none rfl) rfl (fun w' hw' hcl' _ => ?_) ?_
        · refine Rg.relAt_call (by go_simp; exact ⟨rfl, rfl⟩) ?_
          refine (HTB.out _).mono ?_
          rintro en w'' ⟨rfl, hx⟩
          exact ⟨_, rfl, hx, (st.ext (Ext.trans hw' hx)).blk (i := 1) get1, rfl⟩
        rintro v ⟨_, _, _, rfl⟩
        (try simp only [Rg4.nrm])
        iterate 2 (refine Rg4.w4_any (Rg4.want_none rfl) rfl ?_; apply Exists.intro; refine ⟨fun w' => ?_, ?_⟩; (focus (first | (go_simp; done) | (go_simp; first | rfl | (rw [if_neg] <;> first | rfl | omega) | (rw [if_pos] <;> first | rfl | omega)))); (try simp only [Rg4.nrm]))
        (refine Rg4.w4_read (Rg4.want_none rfl) rfl rfl ?_; apply Exists.intro; refine ⟨fun w' hw' hcl' => ?_, ?_⟩; focus (have st' := st.ext hw'; have hc' := st'.facts; (try simp only [nfl, nft, Nat.reduceAdd] at hc'); (focus (first | (go_simp; done) | (go_simp; first | rfl | (rw [if_neg] <;> first | rfl | omega) | (rw [if_pos] <;> first | rfl | omega))))); (try simp only [Rg4.nrm]))
        iterate 2 (refine Rg4.w4_any (Rg4.want_none rfl) rfl ?_; apply Exists.intro; refine ⟨fun w' => ?_, ?_⟩; (focus (first | (go_simp; done) | (go_simp; first | rfl | (rw [if_neg] <;> first | rfl | omega) | (rw [if_pos] <;> first | rfl | omega)))); (try simp only [Rg4.nrm]))
        refine Rg4.w4_nil (fun w' hw' hcl' _ => ?_); replace st := st.ext hw'; clear hw' hcl'; (try clear hc); have hc := st.facts; (try simp only [nfl, nft, Nat.reduceAdd] at hc)
        go_wp2_with ((((with_reducible refine wl_box ?_ (fun K hK => ?_)); rfl; refine owp_box (o := ⟨some 1, _, _, _, _, _⟩) rfl st ?_; apply Exists.intro; refine ⟨?_, ?_⟩; (focus (go_simp; try rfl)); (clear st; intro b1 w hb st; clear hb))); (try simp only [nsl, Value.cells, unB] at st); (try clear hc); have hc := st.facts; (try simp only [nfl, nft, Nat.reduceAdd] at hc))
        go_ret
        exact ⟨by rw [HE.out, if_neg K1.out, if_neg K2.out, if_pos K3.out]; first | rfl | simp [S, ampS, arrow], st.ext0⟩
      · have hk3 : (x.k == 3) = false := by simpa using k3
        have K3 := Lib.hid k3
        clear k3
        go_enter Tryz.func31, Tryz.ntmps31
        go_wp2_with ((((with_reducible refine wl_box ?_ (fun K hK => ?_)); rfl; refine owp_box (o := ⟨some 1, _, _, _, _, _⟩) rfl st ?_; apply Exists.intro; refine ⟨?_, ?_⟩; (focus (go_simp; try rfl)); (clear st; intro b1 w hb st; clear hb))); (try simp only [nsl, Value.cells, unB] at st); (try clear hc); have hc := st.facts; (try simp only [nfl, nft, Nat.reduceAdd] at hc))
        refine Rg4.wp_region4 (Rel := Ext) #[0, 1, 3, 7, 0, 16, 55, 127, 255]
          [(2, .val (.string ⟨tb.toArray⟩)), (6, .val (.string ⟨tc.toArray⟩))] [] [1, 5] (fun W' => Blk W' b1 [.int .i64 x.k, .string ⟨x.h.1.toArray⟩, .string ⟨x.h.2.toArray⟩, .string ⟨x.w.toArray⟩, .string ⟨x.b.1.toArray⟩, .string ⟨x.b.2.toArray⟩, .string ⟨x.c.1.toArray⟩, .string ⟨x.c.2.toArray⟩, .string ⟨x.e.toArray⟩]) [0, 1, 2, 3, 4, 5, 6, 7, 8] (by kernel_rfl) (by kernel_rfl) (by kernel_rfl) (by kernel_rfl) Ext.refl (fun _ _ _ => Ext.trans) (show Rg4.PB _ by repeat (first | with_reducible exact Rg4.pb_body | with_reducible exact Rg4.pb_bodyD rfl | with_reducible refine Rg4.pb_then ?_ | with_reducible refine Rg4.pb_inBlock ?_ | with_reducible refine Rg4.pb_noGoto ?_ | with_reducible assumption)) (st.drew.blk (i := 1) get1) ?_
        replace st := st.drew
        change Rg4.wp4 _ _ _ _ _ _ _ _ _ (World.drew _) _ _
        generalize World.drew _ = w at st ⊢
        (try clear hc); have hc := st.facts; (try simp only [nfl, nft, Nat.reduceAdd] at hc)
        (refine Rg4.w4_any (Rg4.want_none rfl) rfl ?_; apply Exists.intro; refine ⟨fun w' => ?_, ?_⟩; (focus (first | (go_simp; done) | (go_simp; first | rfl | (rw [if_neg] <;> first | rfl | omega) | (rw [if_pos] <;> first | rfl | omega)))); (try simp only [Rg4.nrm]))
        (refine Rg4.w4_read (Rg4.want_none rfl) rfl rfl ?_; apply Exists.intro; refine ⟨fun w' hw' hcl' => ?_, ?_⟩; focus (have st' := st.ext hw'; have hc' := st'.facts; (try simp only [nfl, nft, Nat.reduceAdd] at hc'); (focus (first | (go_simp; done) | (go_simp; first | rfl | (rw [if_neg] <;> first | rfl | omega) | (rw [if_pos] <;> first | rfl | omega))))); (try simp only [Rg4.nrm]))
        refine Rg4.w4_some (Rg4.want_none rfl) rfl (fun w' hw' hcl' _ => ?_) ?_
        · refine Rg.relAt_call (by go_simp; exact ⟨rfl, rfl⟩) ?_
          refine (HTB.out _).mono ?_
          rintro en w'' ⟨rfl, hx⟩
          exact ⟨_, rfl, hx, (st.ext (Ext.trans hw' hx)).blk (i := 1) get1, rfl⟩
        rintro v ⟨_, _, _, rfl⟩
        (try simp only [Rg4.nrm])
        iterate 2 (refine Rg4.w4_any (Rg4.want_none rfl) rfl ?_; apply Exists.intro; refine ⟨fun w' => ?_, ?_⟩; (focus (first | (go_simp; done) | (go_simp; first | rfl | (rw [if_neg] <;> first | rfl | omega) | (rw [if_pos] <;> first | rfl | omega)))); (try simp only [Rg4.nrm]))
        (refine Rg4.w4_read (Rg4.want_none rfl) rfl rfl ?_; apply Exists.intro; refine ⟨fun w' hw' hcl' => ?_, ?_⟩; focus (have st' := st.ext hw'; have hc' := st'.facts; (try simp only [nfl, nft, Nat.reduceAdd] at hc'); (focus (first | (go_simp; done) | (go_simp; first | rfl | (rw [if_neg] <;> first | rfl | omega) | (rw [if_pos] <;> first | rfl | omega))))); (try simp only [Rg4.nrm]))
        refine Rg4.w4_some (Rg4.want_none rfl) rfl (fun w' hw' hcl' _ => ?_) ?_
        · refine Rg.relAt_call (by go_simp; exact ⟨rfl, rfl⟩) ?_
          refine (HTC.out _).mono ?_
          rintro en w'' ⟨rfl, hx⟩
          exact ⟨_, rfl, hx, (st.ext (Ext.trans hw' hx)).blk (i := 1) get1, rfl⟩
        rintro v ⟨_, _, _, rfl⟩
        (try simp only [Rg4.nrm])
        iterate 2 (refine Rg4.w4_any (Rg4.want_none rfl) rfl ?_; apply Exists.intro; refine ⟨fun w' => ?_, ?_⟩; (focus (first | (go_simp; done) | (go_simp; first | rfl | (rw [if_neg] <;> first | rfl | omega) | (rw [if_pos] <;> first | rfl | omega)))); (try simp only [Rg4.nrm]))
        refine Rg4.w4_nil (fun w' hw' hcl' _ => ?_); replace st := st.ext hw'; clear hw' hcl'; (try clear hc); have hc := st.facts; (try simp only [nfl, nft, Nat.reduceAdd] at hc)
        go_wp2_with ((((with_reducible refine wl_box ?_ (fun K hK => ?_)); rfl; refine owp_box (o := ⟨some 1, _, _, _, _, _⟩) rfl st ?_; apply Exists.intro; refine ⟨?_, ?_⟩; (focus (go_simp; try rfl)); (clear st; intro b1 w hb st; clear hb))); (try simp only [nsl, Value.cells, unB] at st); (try clear hc); have hc := st.facts; (try simp only [nfl, nft, Nat.reduceAdd] at hc))
        go_ret
        exact ⟨by rw [HE.out, if_neg K1.out, if_neg K2.out, if_neg K3.out]; first | rfl | simp [S, ampS, arrow], st.ext0⟩
theorem bodyT_len (x : CredT) (hl : CredL 100000 x) : (bodyT x).length ≤ 500000 := by
  obtain ⟨l1, l2, l3, l4, l5, l6, l7, l8⟩ := hl
  have hb : (roleT x.b).length ≤ 200001 := by simp [roleT]; omega
  have hc : (roleT x.c).length ≤ 200001 := by simp [roleT]; omega
  unfold bodyT
  split
  · omega
  · split
    · omega
    · split
      · simp only [List.length_append, List.length_singleton]; omega
      · simp only [List.length_append, ampS, List.length_cons, List.length_nil]; omega
set_option maxRecDepth 100000 in
set_option maxHeartbeats 1000000 in
theorem credText_any (x : CredT) (W : World) (hl : CredL 100000 x) :
    Calls Tryz.prog 16 #[cV x] W fun e w' => e = .returned (S (credTy x)) ∧ Ext W w' := by
  have happ := ba_append
  have happ3 : ∀ a : List UInt8, (⟨a.toArray⟩ : ByteArray) ++ ⟨#[32, 60, 45, 32]⟩ = ⟨(a ++ [32, 60, 45, 32]).toArray⟩ := fun a => ba_append a [32, 60, 45, 32]
  have HR := Lib.hid (fun W => credRight_any x W (by unfold CredL at hl; omega))
  have HB := Lib.hid (fun W => credBody_any x W hl)
  have hbl := bodyT_len x hl
  obtain ⟨l1, l2, l3, l4, l5, l6, l7, l8⟩ := hl
  have HTH := Lib.hid (fun W => roleText_any x.h W (by omega))
  have hb1 : (roleT x.h).length ≤ 200001 := by simp [roleT]; omega
  obtain ⟨th, hth⟩ : ∃ t, roleT x.h = t := ⟨_, rfl⟩
  obtain ⟨bd, hbd⟩ : ∃ t, bodyT x = t := ⟨_, rfl⟩
  have HE : Hid (credTy x = if credR x = true then th ++ arrow ++ bd else []) := Lib.hid (by unfold credTy credTx; rw [hth, hbd])
  rw [hth] at HTH hb1
  rw [hbd] at HB hbl
  clear hth hbd
  have st := Own.startOld W
  unfold cV S at *
  unfold rV S at HTH
  (try simp only [nsl, Value.cells, unB] at st)
  (try clear hc); have hc := st.facts; (try simp only [nfl, nft, Nat.reduceAdd] at hc)
  go_enter Tryz.func16, Tryz.ntmps16
  go_wp2_with ((((with_reducible refine wl_box ?_ (fun K hK => ?_)); rfl; refine owp_box (o := ⟨some 1, _, _, _, _, _⟩) rfl st ?_; apply Exists.intro; refine ⟨?_, ?_⟩; (focus (go_simp; try rfl)); (clear st; intro b1 w hb st; clear hb))); (try simp only [nsl, Value.cells, unB] at st); (try clear hc); have hc := st.facts; (try simp only [nfl, nft, Nat.reduceAdd] at hc))
  refine (HR.out _).mono ?_
  rintro en w ⟨rfl, hx⟩
  replace st := st.ext hx
  clear hx
  (try clear hc); have hc := st.facts; (try simp only [nfl, nft, Nat.reduceAdd] at hc)
  cases hr : credR x with
  | false =>
    have H := Lib.hid hr
    clear hr
    go_wp2_with ((((with_reducible refine wl_box ?_ (fun K hK => ?_)); rfl; refine owp_box (o := ⟨some 1, _, _, _, _, _⟩) rfl st ?_; apply Exists.intro; refine ⟨?_, ?_⟩; (focus (go_simp; try rfl)); (clear st; intro b1 w hb st; clear hb))); (try simp only [nsl, Value.cells, unB] at st); (try clear hc); have hc := st.facts; (try simp only [nfl, nft, Nat.reduceAdd] at hc))
    go_ret
    exact ⟨by rw [HE.out, H.out]; first | rfl | simp [S, ampS, arrow], st.ext0⟩
  | true =>
    have H := Lib.hid hr
    clear hr
    go_wp2_with ((((with_reducible refine wl_box ?_ (fun K hK => ?_)); rfl; refine owp_box (o := ⟨some 1, _, _, _, _, _⟩) rfl st ?_; apply Exists.intro; refine ⟨?_, ?_⟩; (focus (go_simp; try rfl)); (clear st; intro b1 w hb st; clear hb))); (try simp only [nsl, Value.cells, unB] at st); (try clear hc); have hc := st.facts; (try simp only [nfl, nft, Nat.reduceAdd] at hc))
    refine Rg4.wp_region4 (Rel := Ext) #[0, 1, 3, 7, 0, 23, 63, 127]
      [(2, .val (.string ⟨th.toArray⟩)), (5, .val (.string ⟨bd.toArray⟩))] [] [1, 4] (fun W' => Blk W' b1 [.int .i64 x.k, .string ⟨x.h.1.toArray⟩, .string ⟨x.h.2.toArray⟩, .string ⟨x.w.toArray⟩, .string ⟨x.b.1.toArray⟩, .string ⟨x.b.2.toArray⟩, .string ⟨x.c.1.toArray⟩, .string ⟨x.c.2.toArray⟩, .string ⟨x.e.toArray⟩]) [0, 1, 2, 3, 4, 5, 6, 7] (by kernel_rfl) (by kernel_rfl) (by kernel_rfl) (by kernel_rfl) Ext.refl (fun _ _ _ => Ext.trans) (show Rg4.PB _ by repeat (first | with_reducible exact Rg4.pb_body | with_reducible exact Rg4.pb_bodyD rfl | with_reducible refine Rg4.pb_then ?_ | with_reducible refine Rg4.pb_inBlock ?_ | with_reducible refine Rg4.pb_noGoto ?_ | with_reducible assumption)) (st.drew.blk (i := 1) get1) ?_
    replace st := st.drew
    change Rg4.wp4 _ _ _ _ _ _ _ _ _ (World.drew _) _ _
    generalize World.drew _ = w at st ⊢
    (try clear hc); have hc := st.facts; (try simp only [nfl, nft, Nat.reduceAdd] at hc)
    (refine Rg4.w4_any (Rg4.want_none rfl) rfl ?_; apply Exists.intro; refine ⟨fun w' => ?_, ?_⟩; (focus (first | (go_simp; done) | (go_simp; first | rfl | (rw [if_neg] <;> first | rfl | omega) | (rw [if_pos] <;> first | rfl | omega)))); (try simp only [Rg4.nrm]))
    (refine Rg4.w4_read (Rg4.want_none rfl) rfl rfl ?_; apply Exists.intro; refine ⟨fun w' hw' hcl' => ?_, ?_⟩; focus (have st' := st.ext hw'; have hc' := st'.facts; (try simp only [nfl, nft, Nat.reduceAdd] at hc'); (focus (first | (go_simp; done) | (go_simp; first | rfl | (rw [if_neg] <;> first | rfl | omega) | (rw [if_pos] <;> first | rfl | omega))))); (try simp only [Rg4.nrm]))
    refine Rg4.w4_some (Rg4.want_none rfl) rfl (fun w' hw' hcl' _ => ?_) ?_
    · refine Rg.relAt_call (by go_simp; exact ⟨rfl, rfl⟩) ?_
      refine (HTH.out _).mono ?_
      rintro en w'' ⟨rfl, hx⟩
      exact ⟨_, rfl, hx, (st.ext (Ext.trans hw' hx)).blk (i := 1) get1, rfl⟩
    rintro v ⟨_, _, _, rfl⟩
    (try simp only [Rg4.nrm])
    (refine Rg4.w4_any (Rg4.want_none rfl) rfl ?_; apply Exists.intro; refine ⟨fun w' => ?_, ?_⟩; (focus (first | (go_simp; done) | (go_simp; first | rfl | (rw [if_neg] <;> first | rfl | omega) | (rw [if_pos] <;> first | rfl | omega)))); (try simp only [Rg4.nrm]))
    (refine Rg4.w4_read (Rg4.want_none rfl) rfl rfl ?_; apply Exists.intro; refine ⟨fun w' hw' hcl' => ?_, ?_⟩; focus (have st' := st.ext hw'; have hc' := st'.facts; (try simp only [nfl, nft, Nat.reduceAdd] at hc'); (focus (first | (go_simp; done) | (go_simp; first | rfl | (rw [if_neg] <;> first | rfl | omega) | (rw [if_pos] <;> first | rfl | omega))))); (try simp only [Rg4.nrm]))
    refine Rg4.w4_some (Rg4.want_none rfl) rfl (fun w' hw' hcl' _ => ?_) ?_
    · refine Rg.relAt_call (by go_simp; exact ⟨rfl, rfl⟩) ?_
      refine (HB.out _).mono ?_
      rintro en w'' ⟨rfl, hx⟩
      exact ⟨_, rfl, hx, (st.ext (Ext.trans hw' hx)).blk (i := 1) get1, rfl⟩
    rintro v ⟨_, _, _, rfl⟩
    (try simp only [Rg4.nrm])
    iterate 2 (refine Rg4.w4_any (Rg4.want_none rfl) rfl ?_; apply Exists.intro; refine ⟨fun w' => ?_, ?_⟩; (focus (first | (go_simp; done) | (go_simp; first | rfl | (rw [if_neg] <;> first | rfl | omega) | (rw [if_pos] <;> first | rfl | omega)))); (try simp only [Rg4.nrm]))
    refine Rg4.w4_nil (fun w' hw' hcl' _ => ?_); replace st := st.ext hw'; clear hw' hcl'; (try clear hc); have hc := st.facts; (try simp only [nfl, nft, Nat.reduceAdd] at hc)
    go_wp2_with ((((with_reducible refine wl_box ?_ (fun K hK => ?_)); rfl; refine owp_box (o := ⟨some 1, _, _, _, _, _⟩) rfl st ?_; apply Exists.intro; refine ⟨?_, ?_⟩; (focus (go_simp; try rfl)); (clear st; intro b1 w hb st; clear hb))); (try simp only [nsl, Value.cells, unB] at st); (try clear hc); have hc := st.facts; (try simp only [nfl, nft, Nat.reduceAdd] at hc))
    go_ret
    exact ⟨by rw [HE.out, if_pos H.out]; first | rfl | simp [S, ampS, arrow], st.ext0⟩
end Go.Proofs.YthjibbakjbbniaaGreatDoor

namespace Go.Proofs.YthjibbakjbbniaaGreatDoor
set_option linter.unusedSimpArgs false
set_option linter.unusedVariables false
open Go Go.RowKit
theorem roleInfo : ∃ i, Tryz.prog.info? 26 = some i ∧ i.zero = some (rV ([], [])) ∧ i.size = 2 ∧ i.bytes = 32 := info_parts (by kernel_rfl)
end Go.Proofs.YthjibbakjbbniaaGreatDoor

namespace Go.Proofs.YthjibbakjbbniaaGreatDoor
set_option linter.unusedSimpArgs false
set_option linter.unusedVariables false
open Go Go.RowKit
section
variable {α : Type} [Inhabited α] [DecidableEq α]
end
end Go.Proofs.YthjibbakjbbniaaGreatDoor

namespace Go.Proofs.YthjibbakjbbniaaGreatDoor
set_option linter.unusedSimpArgs false
set_option linter.unusedVariables false
open Go Go.RowKit
def credCmp (a b : CredT) : Int := cmp2 (credBy a) (credBy b)
end Go.Proofs.YthjibbakjbbniaaGreatDoor

namespace Go.Proofs.YthjibbakjbbniaaGreatDoor
set_option linter.unusedSimpArgs false
set_option linter.unusedVariables false
open Go Go.RowKit
end Go.Proofs.YthjibbakjbbniaaGreatDoor

namespace Go.Proofs.YthjibbakjbbniaaGreatDoor
set_option linter.unusedSimpArgs false
set_option linter.unusedVariables false
open Go Go.RowKit
end Go.Proofs.YthjibbakjbbniaaGreatDoor

namespace Go.Proofs.YthjibbakjbbniaaGreatDoor
set_option linter.unusedSimpArgs false
set_option linter.unusedVariables false
open Go Go.RowKit
end Go.Proofs.YthjibbakjbbniaaGreatDoor

namespace Go.Proofs.YthjibbakjbbniaaGreatDoor
set_option linter.unusedSimpArgs false
set_option linter.unusedVariables false
open Go Go.RowKit
end Go.Proofs.YthjibbakjbbniaaGreatDoor

namespace Go.Proofs.YthjibbakjbbniaaGreatDoor
set_option linter.unusedSimpArgs false
set_option linter.unusedVariables false
open Go Go.RowKit
/-- How great credentials are. -/
def wtC (x : CredT) : Nat := 20 + x.h.1.length + x.h.2.length + x.w.length + x.b.1.length + x.b.2.length + x.c.1.length + x.c.2.length + x.e.length
def weightC (l : List CredT) : Nat := (l.map wtC).sum
theorem weightC_snoc (l : List CredT) (x : CredT) : weightC (l ++ [x]) = weightC l + wtC x := by simp [weightC]
theorem weightC_cons (l : List CredT) (x : CredT) : weightC (x :: l) = wtC x + weightC l := by simp [weightC]
theorem weightC_take : ∀ (l : List CredT) (j : Nat), weightC (l.take j) ≤ weightC l
  | [], j => by simp [weightC]
  | x :: l, 0 => by simp [weightC]
  | x :: l, j + 1 => by have := weightC_take l j; rw [List.take_succ_cons, weightC_cons, weightC_cons]; omega
theorem weightC_len : ∀ (l : List CredT), 20 * l.length ≤ weightC l
  | [] => by simp [weightC]
  | x :: l => by have := weightC_len l; rw [weightC_cons, List.length_cons]; unfold wtC; omega
theorem Fl.cred {w : World} {a : Option Addr} {n : Nat} {xs : List CredT} (h : Fl w a n xs) (h0 : 0 < n) : ∃ b off, a = some ⟨b, off, none⟩ ∧ ∀ j x, xs[j]? = some x → w.cell? ⟨b, off + j * 9, none⟩ = some (.int .i64 x.k) ∧ w.cell? ⟨b, off + j * 9 + 1, none⟩ = some (S x.h.1) ∧ w.cell? ⟨b, off + j * 9 + 2, none⟩ = some (S x.h.2) ∧ w.cell? ⟨b, off + j * 9 + 3, none⟩ = some (S x.w) ∧ w.cell? ⟨b, off + j * 9 + 4, none⟩ = some (S x.b.1) ∧ w.cell? ⟨b, off + j * 9 + 5, none⟩ = some (S x.b.2) ∧ w.cell? ⟨b, off + j * 9 + 6, none⟩ = some (S x.c.1) ∧ w.cell? ⟨b, off + j * 9 + 7, none⟩ = some (S x.c.2) ∧ w.cell? ⟨b, off + j * 9 + 8, none⟩ = some (S x.e) := by
  obtain ⟨b, off, rfl, hc⟩ := h.2 h0
  exact ⟨b, off, rfl, fun j x hj => ⟨hc j x hj 0 _ rfl, hc j x hj 1 _ rfl, hc j x hj 2 _ rfl, hc j x hj 3 _ rfl, hc j x hj 4 _ rfl, hc j x hj 5 _ rfl, hc j x hj 6 _ rfl, hc j x hj 7 _ rfl, hc j x hj 8 _ rfl⟩⟩
end Go.Proofs.YthjibbakjbbniaaGreatDoor

namespace Go.Proofs.YthjibbakjbbniaaGreatDoor
set_option linter.unusedSimpArgs false
set_option linter.unusedVariables false
open Go Go.RowKit
end Go.Proofs.YthjibbakjbbniaaGreatDoor

namespace Go.Proofs.YthjibbakjbbniaaGreatDoor
set_option linter.unusedSimpArgs false
set_option linter.unusedVariables false
open Go Go.RowKit
set_option maxRecDepth 100000 in
set_option maxHeartbeats 1000000 in
theorem credIndex_any (a : Option Addr) (n c : Nat) (l : List CredT) (y : CredT) (W : World) (h : Fl W a n l) (hn : n ≤ 2000000) :
    Calls Tryz.prog 85 #[.slice a n c, cV y] W fun e w' => ∃ v : Int, e = .returned (.int .i64 v) ∧ (0 ≤ v ↔ y ∈ l) ∧ Ext W w' := by
  have H := Lib.hid h
  have HNL := Lib.hid h.1
  clear h
  obtain ⟨kk, ⟨ho, hd⟩, nw, ⟨bo, bd⟩, ⟨co, cd⟩, we⟩ := y
  have st := Own.startOld W
  unfold cV S
  (try simp only [nsl, Value.cells, unB] at st)
  (try clear hc); have hc := st.facts; (try simp only [nfl, nft, Nat.reduceAdd] at hc)
  go_enter Tryz.func85, Tryz.ntmps85
  go_wp2_with ((((with_reducible refine wl_box ?_ (fun K hK => ?_)); rfl; refine owp_box (o := ⟨some 3, _, _, _, _, _⟩) rfl st ?_; apply Exists.intro; refine ⟨?_, ?_⟩; (focus (go_simp; try rfl)); (clear st; intro b3 w hb st; clear hb))); (try simp only [nsl, Value.cells, unB] at st); (try clear hc); have hc := st.facts; (try simp only [nfl, nft, Nat.reduceAdd] at hc))
  go_loopg [8] n (fun k i wr => ∃ (j : Nat), j ≤ n ∧ k = n - j ∧ i = .int .i64 (j : Int) ∧ Hid ((⟨kk, (ho, hd), nw, (bo, bd), (co, cd), we⟩ : CredT) ∉ l.take j) ∧ Own (fun _ => False) (fun _ => True) W [oldI W, blkI b3 [.int .i64 kk, S ho, S hd, S nw, S bo, S bd, S co, S cd, S we]] wr)
  case atStart => exact ⟨0, by omega, by omega, rfl, Lib.hid (by simp), st⟩
  case round =>
    obtain ⟨j, hj, rfl, rfl, HT, st'⟩ := hrel
    clear st hc
    have st := st'
    clear st'
    unfold S at st
    (try simp only [nsl, Value.cells, unB] at st)
    (try clear hc); have hc := st.facts; (try simp only [nfl, nft, Nat.reduceAdd] at hc)
    by_cases hjn : j < n
    · obtain ⟨b, off, ha, hcell⟩ := H.out.cred (by omega)
      have hjl : j < l.length := by have := HNL.out; omega
      have HC := Lib.hid (hcell j l[j] (List.getElem?_eq_getElem hjl))
      have hts : l.take (j + 1) = l.take j ++ [l[j]] := (List.take_append_getElem hjl).symm
      have hmem := List.getElem_mem hjl
      clear hcell
      generalize l[j] = x at *
      obtain ⟨kk', ⟨ho', hd'⟩, nw', ⟨bo', bd'⟩, ⟨co', cd'⟩, we'⟩ := x
      have HX := Lib.hid (And.intro hts hmem)
      clear hts hmem
      subst ha
      simp only at HC
      unfold S at HC
      go_wp2_with ((((with_reducible refine wl_box ?_ (fun K hK => ?_)); rfl; refine owp_box (o := ⟨some 3, _, _, _, _, _⟩) rfl st ?_; apply Exists.intro; refine ⟨?_, ?_⟩; (focus (go_simp; try rfl)); (clear st; intro b3 w hb st; clear hb))); (try simp only [nsl, Value.cells, unB] at st); (try clear hc); have hc := st.facts; (try simp only [nfl, nft, Nat.reduceAdd] at hc))
      refine Rg4.wp_region4_eq #[0, 0, 0, 6, 14, 31] [] [0, 4] (fun _ => True) [0, 1, 2, 3, 4, 5] (by kernel_rfl) (by kernel_rfl) (by kernel_rfl) (by kernel_rfl) (show Rg4.PB _ by repeat (first | with_reducible exact Rg4.pb_body | with_reducible exact Rg4.pb_bodyD rfl | with_reducible refine Rg4.pb_then ?_ | with_reducible refine Rg4.pb_inBlock ?_ | with_reducible refine Rg4.pb_noGoto ?_ | with_reducible assumption)) (trivial) ?_
      replace st := st.drew
      change Rg4.wp4 _ _ _ _ _ _ _ _ _ (World.drew _) _ _
      generalize World.drew _ = w at st ⊢
      (try clear hc); have hc := st.facts; (try simp only [nfl, nft, Nat.reduceAdd] at hc)
      (refine Rg4.w4_read (Rg4.want_none rfl) rfl rfl ?_; apply Exists.intro; refine ⟨fun w' hw' hcl' => ?_, ?_⟩; focus (subst hw'; have r0 := st.oldCell (i := 0) get0 HC.out.1; have r1 := st.oldCell (i := 0) get0 HC.out.2.1; have r2 := st.oldCell (i := 0) get0 HC.out.2.2.1; have r3 := st.oldCell (i := 0) get0 HC.out.2.2.2.1; have r4 := st.oldCell (i := 0) get0 HC.out.2.2.2.2.1; have r5 := st.oldCell (i := 0) get0 HC.out.2.2.2.2.2.1; have r6 := st.oldCell (i := 0) get0 HC.out.2.2.2.2.2.2.1; have r7 := st.oldCell (i := 0) get0 HC.out.2.2.2.2.2.2.2.1; have r8 := st.oldCell (i := 0) get0 HC.out.2.2.2.2.2.2.2.2; (focus (first | (go_simp; done) | (go_simp; first | rfl | (rw [if_neg] <;> first | rfl | omega) | (rw [if_pos] <;> first | rfl | omega))))); (try simp only [Rg4.nrm]))
      iterate 3 (refine Rg4.w4_any (Rg4.want_none rfl) rfl ?_; apply Exists.intro; refine ⟨fun w' => ?_, ?_⟩; (focus (first | (go_simp; done) | (go_simp; first | rfl | (rw [if_neg] <;> first | rfl | omega) | (rw [if_pos] <;> first | rfl | omega)))); (try simp only [Rg4.nrm]))
      (refine Rg4.w4_read (Rg4.want_none rfl) rfl rfl ?_; apply Exists.intro; refine ⟨fun w' hw' hcl' => ?_, ?_⟩; focus (subst hw'; have r0 := st.oldCell (i := 0) get0 HC.out.1; have r1 := st.oldCell (i := 0) get0 HC.out.2.1; have r2 := st.oldCell (i := 0) get0 HC.out.2.2.1; have r3 := st.oldCell (i := 0) get0 HC.out.2.2.2.1; have r4 := st.oldCell (i := 0) get0 HC.out.2.2.2.2.1; have r5 := st.oldCell (i := 0) get0 HC.out.2.2.2.2.2.1; have r6 := st.oldCell (i := 0) get0 HC.out.2.2.2.2.2.2.1; have r7 := st.oldCell (i := 0) get0 HC.out.2.2.2.2.2.2.2.1; have r8 := st.oldCell (i := 0) get0 HC.out.2.2.2.2.2.2.2.2; (focus (first | (go_simp; done) | (go_simp; first | rfl | (rw [if_neg] <;> first | rfl | omega) | (rw [if_pos] <;> first | rfl | omega))))); (try simp only [Rg4.nrm]))
      (refine Rg4.w4_any (Rg4.want_none rfl) rfl ?_; apply Exists.intro; refine ⟨fun w' => ?_, ?_⟩; (focus (first | (go_simp; done) | (go_simp; first | rfl | (rw [if_neg] <;> first | rfl | omega) | (rw [if_pos] <;> first | rfl | omega)))); (try simp only [Rg4.nrm]))
      refine Rg4.w4_nil (fun w' hw' hcl' _ => ?_); subst hw'; clear hcl'
      cases hr : credEq (⟨kk, (ho, hd), nw, (bo, bd), (co, cd), we⟩ : CredT) (⟨kk', (ho', hd'), nw', (bo', bd'), (co', cd'), we'⟩ : CredT) with
      | true =>
        have HF : Hid ((⟨kk, (ho, hd), nw, (bo, bd), (co, cd), we⟩ : CredT) ∈ l) := Lib.hid (by rw [credEq_eq, decide_eq_true_eq] at hr; rw [hr]; exact HX.out.2)
        clear hr
        go_wp2_with ((((with_reducible refine wl_box ?_ (fun K hK => ?_)); rfl; refine owp_box (o := ⟨some 3, _, _, _, _, _⟩) rfl st ?_; apply Exists.intro; refine ⟨?_, ?_⟩; (focus (go_simp; try rfl)); (clear st; intro b3 w hb st; clear hb))); (try simp only [nsl, Value.cells, unB] at st); (try clear hc); have hc := st.facts; (try simp only [nfl, nft, Nat.reduceAdd] at hc))
        go_ret
        exact ⟨_, rfl, ⟨fun _ => HF.out, fun _ => by omega⟩, st.ext0⟩
      | false =>
        have HF : Hid ((⟨kk, (ho, hd), nw, (bo, bd), (co, cd), we⟩ : CredT) ∉ l.take (j + 1)) := Lib.hid (by
          rw [credEq_eq, decide_eq_false_iff_not] at hr
          rw [HX.out.1]
          intro q
          rcases List.mem_append.1 q with q | q
          · exact HT.out q
          · exact hr (List.mem_singleton.1 q))
        clear hr
        go_wp2_with ((((with_reducible refine wl_box ?_ (fun K hK => ?_)); rfl; refine owp_box (o := ⟨some 3, _, _, _, _, _⟩) rfl st ?_; apply Exists.intro; refine ⟨?_, ?_⟩; (focus (go_simp; try rfl)); (clear st; intro b3 w hb st; clear hb))); (try simp only [nsl, Value.cells, unB] at st); (try clear hc); have hc := st.facts; (try simp only [nfl, nft, Nat.reduceAdd] at hc))
        go_roundg (n - (j + 1))
        case measure => omega
        case rel => exact ⟨j + 1, by omega, by omega, by first | rfl | trivial | go_num, HF, by simpa [S] using st⟩
    · obtain rfl : j = n := by omega
      have HF : Hid ((⟨kk, (ho, hd), nw, (bo, bd), (co, cd), we⟩ : CredT) ∉ l) := Lib.hid (by have := HT.out; rwa [List.take_of_length_le (by have := HNL.out; omega)] at this)
      go_wp2_with ((((with_reducible refine wl_box ?_ (fun K hK => ?_)); rfl; refine owp_box (o := ⟨some 3, _, _, _, _, _⟩) rfl st ?_; apply Exists.intro; refine ⟨?_, ?_⟩; (focus (go_simp; try rfl)); (clear st; intro b3 w hb st; clear hb))); (try simp only [nsl, Value.cells, unB] at st); (try clear hc); have hc := st.facts; (try simp only [nfl, nft, Nat.reduceAdd] at hc))
      go_ret
      exact ⟨_, rfl, ⟨fun q => by omega, fun q => absurd q HF.out⟩, st.ext0⟩
set_option maxRecDepth 100000 in
set_option maxHeartbeats 1000000 in
theorem credContains_any (a : Option Addr) (n c : Nat) (l : List CredT) (y : CredT) (W : World) (h : Fl W a n l) (hn : n ≤ 2000000) :
    Calls Tryz.prog 64 #[.slice a n c, cV y] W fun e w' => e = .returned (.bool (decide (y ∈ l))) ∧ Ext W w' := by
  have H := Lib.hid h
  clear h
  have HI := Lib.hid (credIndex_any a n c l y)
  obtain ⟨kk, ⟨ho, hd⟩, nw, ⟨bo, bd⟩, ⟨co, cd⟩, we⟩ := y
  have st := Own.startOld W
  unfold cV S at *
  (try simp only [nsl, Value.cells, unB] at st)
  (try clear hc); have hc := st.facts; (try simp only [nfl, nft, Nat.reduceAdd] at hc)
  go_enter Tryz.func64, Tryz.ntmps64
  go_wp2_with ((((with_reducible refine wl_box ?_ (fun K hK => ?_)); rfl; refine owp_box (o := ⟨some 3, _, _, _, _, _⟩) rfl st ?_; apply Exists.intro; refine ⟨?_, ?_⟩; (focus (go_simp; try rfl)); (clear st; intro b3 w hb st; clear hb))); (try simp only [nsl, Value.cells, unB] at st); (try clear hc); have hc := st.facts; (try simp only [nfl, nft, Nat.reduceAdd] at hc))
  refine (HI.out _ (st.oldFl (i := 0) get0 H.out) hn).mono ?_
  rintro en w' ⟨v, rfl, hv, hx⟩
  replace st := st.ext hx
  clear hx
  by_cases h0 : 0 ≤ v
  · have HF : Hid ((⟨kk, (ho, hd), nw, (bo, bd), (co, cd), we⟩ : CredT) ∈ l) := Lib.hid (hv.1 h0)
    clear hv
    go_wp2_with ((((with_reducible refine wl_box ?_ (fun K hK => ?_)); rfl; refine owp_box (o := ⟨some 3, _, _, _, _, _⟩) rfl st ?_; apply Exists.intro; refine ⟨?_, ?_⟩; (focus (go_simp; try rfl)); (clear st; intro b3 w hb st; clear hb))); (try simp only [nsl, Value.cells, unB] at st); (try clear hc); have hc := st.facts; (try simp only [nfl, nft, Nat.reduceAdd] at hc))
    go_ret
    exact ⟨by rw [decide_eq_true HF.out]; simp [h0], st.ext0⟩
  · have HF : Hid ((⟨kk, (ho, hd), nw, (bo, bd), (co, cd), we⟩ : CredT) ∉ l) := Lib.hid (fun q => h0 (hv.2 q))
    clear hv
    go_wp2_with ((((with_reducible refine wl_box ?_ (fun K hK => ?_)); rfl; refine owp_box (o := ⟨some 3, _, _, _, _, _⟩) rfl st ?_; apply Exists.intro; refine ⟨?_, ?_⟩; (focus (go_simp; try rfl)); (clear st; intro b3 w hb st; clear hb))); (try simp only [nsl, Value.cells, unB] at st); (try clear hc); have hc := st.facts; (try simp only [nfl, nft, Nat.reduceAdd] at hc))
    go_ret
    exact ⟨by rw [decide_eq_false HF.out]; simp; omega, st.ext0⟩
end Go.Proofs.YthjibbakjbbniaaGreatDoor

namespace Go.Proofs.YthjibbakjbbniaaGreatDoor
set_option linter.unusedSimpArgs false
set_option linter.unusedVariables false
open Go Go.RowKit
@[go_sem] theorem eqNilCred (a : Option Addr) (n c : Nat) (w : World) : (binOp .eql 45 (.slice a n c) (.slice none 0 0)).run Tryz.prog w = .ok (.bool a.isNone) w := by
  have h := run_equal_slice_nil w _ _ a n c Tryz.underlying45
  simp only [binOp]
  simp [h]
end Go.Proofs.YthjibbakjbbniaaGreatDoor

namespace Go.Proofs.YthjibbakjbbniaaGreatDoor
set_option linter.unusedSimpArgs false
set_option linter.unusedVariables false
open Go Go.RowKit Go.Sort Go.Lib Go.Shelf
theorem Ext.grow {w w' : World} (h : Ext w w') : ∃ q os, w' = grow (w.drewN q) os := by
  refine ⟨w'.drawn - w.drawn, w'.heap.extract w.heap.size w'.heap.size, ?_⟩
  have hh : w'.heap = w.heap ++ w'.heap.extract w.heap.size w'.heap.size := by
    apply Array.ext_getElem?
    intro k
    rw [Array.getElem?_append]
    split
    · exact h.bel.block k (by assumption)
    · rw [Array.getElem?_extract]
      split
      · congr 1; omega
      · rw [Array.getElem?_eq_none]; have := h.le; omega
  have hd := h.drawn
  cases w' with
  | mk a b c d e =>
    have h1 := h.bel.os; have h2 := h.bel.tape; have h3 := h.bel.output
    simp only at h1 h2 h3 hd hh
    unfold Go.Sort.grow World.drewN
    simp only [World.mk.injEq]
    exact ⟨hh, h2, by omega, h1, h3⟩
section
variable {α : Type} [Flt α] [Inhabited α]
variable {fr al : Nat → Prop} {w0 w : World} {L : List It}
end
end Go.Proofs.YthjibbakjbbniaaGreatDoor

namespace Go.Proofs.YthjibbakjbbniaaGreatDoor
set_option linter.unusedSimpArgs false
set_option linter.unusedVariables false
open Go Go.RowKit Go.Sort Go.Lib
/-- A right credential. -/
abbrev CredK := {x : CredT // credR x = true}
instance : Inhabited CredK := ⟨⟨⟨2, ([97], [97]), [], ([97], [97]), ([], []), []⟩, by decide +kernel⟩⟩
instance fltCredK : Flt CredK := ⟨9, fun x => cC x.1, fun x => Flt.len x.1, by decide, fun x => Flt.one x.1⟩
def cmpK (x y : CredK) : Int := credCmp x.1 y.1
def credSort (xs : List CredK) : List CredK := xs.mergeSort fun x y => !(ltOf cmpK) y x
section
variable {fr al : Nat → Prop} {w0 w : World} {L : List It}
end
end Go.Proofs.YthjibbakjbbniaaGreatDoor

namespace Go.Proofs.YthjibbakjbbniaaGreatDoor
set_option linter.unusedSimpArgs false
set_option linter.unusedVariables false
open Go Go.RowKit
def rights (l : List CredT) : List CredK := (l.filter credR).pmap Subtype.mk fun _ hx => (List.mem_filter.1 hx).2
def credSorted (l : List CredT) : List CredT := (credSort (rights l)).map Subtype.val
/-- The set of the right credentials of a list. -/
@[irreducible] def credSet (l : List CredT) : List CredT := Lib.compact (credSorted l)
set_option maxRecDepth 100000 in
set_option maxHeartbeats 1000000 in
theorem credHas_any (a : Option Addr) (n c : Nat) (l : List CredT) (y : CredT) (W : World) (h : Fl W a n l) (hn : n ≤ 2000000) :
    Calls Tryz.prog 48 #[.slice a n c, cV y] W fun e w' => e = .returned (.bool (decide (y ∈ l))) ∧ Ext W w' := by
  have H := Lib.hid h
  clear h
  have HI := Lib.hid (credContains_any a n c l y)
  obtain ⟨kk, ⟨ho, hd⟩, nw, ⟨bo, bd⟩, ⟨co, cd⟩, we⟩ := y
  have st := Own.startOld W
  unfold cV S at *
  (try simp only [nsl, Value.cells, unB] at st)
  (try clear hc); have hc := st.facts; (try simp only [nfl, nft, Nat.reduceAdd] at hc)
  go_enter Tryz.func48, Tryz.ntmps48
  go_wp2_with ((((with_reducible refine wl_box ?_ (fun K hK => ?_)); rfl; refine owp_box (o := ⟨some 3, _, _, _, _, _⟩) rfl st ?_; apply Exists.intro; refine ⟨?_, ?_⟩; (focus (go_simp; try rfl)); (clear st; intro b3 w hb st; clear hb))); (try simp only [nsl, Value.cells, unB] at st); (try clear hc); have hc := st.facts; (try simp only [nfl, nft, Nat.reduceAdd] at hc))
  refine (HI.out _ (st.oldFl (i := 0) get0 H.out) hn).mono ?_
  rintro en w ⟨rfl, hx⟩
  replace st := st.ext hx
  clear hx
  (try clear hc); have hc := st.facts; (try simp only [nfl, nft, Nat.reduceAdd] at hc)
  go_wp2_with ((((with_reducible refine wl_box ?_ (fun K hK => ?_)); rfl; refine owp_box (o := ⟨some 3, _, _, _, _, _⟩) rfl st ?_; apply Exists.intro; refine ⟨?_, ?_⟩; (focus (go_simp; try rfl)); (clear st; intro b3 w hb st; clear hb))); (try simp only [nsl, Value.cells, unB] at st); (try clear hc); have hc := st.facts; (try simp only [nfl, nft, Nat.reduceAdd] at hc))
  go_ret
  exact ⟨rfl, st.ext0⟩
end Go.Proofs.YthjibbakjbbniaaGreatDoor

namespace Go.Proofs.YthjibbakjbbniaaGreatDoor
set_option linter.unusedSimpArgs false
set_option linter.unusedVariables false
open Go Go.RowKit
/-- internal/bytealg's variable holds some number. -/
def Glob (w : World) : Prop := ∃ m, w.cell? ⟨0, 0, none⟩ = some (.int .i64 m)
theorem Glob.ext {w w' : World} (h : Glob w) (hx : Ext w w') : Glob w' := let ⟨m, hm⟩ := h; ⟨m, hx.cell hm⟩
theorem ext_drewN (w : World) (n : Nat) : Ext w (w.drewN n) := ⟨⟨rfl, rfl, rfl, Nat.le_refl _, fun _ _ => rfl⟩, Nat.le_add_right _ _⟩
theorem sCut_any (s sep : List UInt8) (W : World) (hs : s.length ≤ 100000000) (hg : Glob W) : Calls Tryz.prog 18 #[.string ⟨s.toArray⟩, .string ⟨sep.toArray⟩] W fun e w' =>
    e = .returned (.tuple #[.string ⟨(Lib.cut s sep).1.toArray⟩, .string ⟨(Lib.cut s sep).2.1.toArray⟩, .bool (Lib.cut s sep).2.2]) ∧ Ext W w' := by
  obtain ⟨m, hm⟩ := hg
  refine (Tryz.strings_Cut ⟨s.toArray⟩ ⟨sep.toArray⟩ m W (by simp [ByteArray.size]; omega) hm).mono ?_
  rintro e w' ⟨rfl, n, rfl⟩
  exact ⟨rfl, ext_drewN _ _⟩
/-- The roles of a credential. -/
def credRo (x : CredT) : List Role := if credR x = true then (if x.k = 1 then [x.h] else if x.k = 4 then [x.h, x.b, x.c] else [x.h, x.b]) else []
end Go.Proofs.YthjibbakjbbniaaGreatDoor

namespace Go.Proofs.YthjibbakjbbniaaGreatDoor
set_option linter.unusedSimpArgs false
set_option linter.unusedVariables false
open Go Go.RowKit
theorem credRo_1 {x : CredT} (h : credR x = true) (k : x.k = 1) : credRo x = [x.h] := by unfold credRo; rw [if_pos h, if_pos k]
theorem credRo_4 {x : CredT} (h : credR x = true) (k : x.k = 4) : credRo x = [x.h, x.b, x.c] := by unfold credRo; rw [if_pos h, if_neg (by omega), if_pos k]
theorem credRo_2 {x : CredT} (h : credR x = true) (k : x.k ≠ 1) (k4 : x.k ≠ 4) : credRo x = [x.h, x.b] := by unfold credRo; rw [if_pos h, if_neg k, if_neg k4]
set_option maxRecDepth 100000 in
set_option maxHeartbeats 1000000 in
theorem credRoles_any (x : CredT) (W : World) (hl : CredL 100000 x) :
    Calls Tryz.prog 65 #[cV x] W fun e w' => ∃ va vc, e = .returned (.slice va (credRo x).length vc) ∧ FreshI W w' (rowI 26 2 (.slice va (credRo x).length vc) (credRo x).length (cellsL (credRo x))) := by
  have HR := Lib.hid (fun W => credRight_any x W (by unfold CredL at hl; omega))
  clear hl
  obtain ⟨ro, hro0⟩ : ∃ l, credRo x = l := ⟨_, rfl⟩
  rw [hro0]
  have HRO := Lib.hid hro0
  clear hro0
  have st := Own.startOld W
  unfold cV S at *
  (try simp only [nsl, Value.cells, unB] at st)
  (try clear hc); have hc := st.facts; (try simp only [nfl, nft, Nat.reduceAdd] at hc)
  go_enter Tryz.func65, Tryz.ntmps65
  go_wp2_with ((((with_reducible refine wl_box ?_ (fun K hK => ?_)); rfl; refine owp_box (o := ⟨some 1, _, _, _, _, _⟩) rfl st ?_; apply Exists.intro; refine ⟨?_, ?_⟩; (focus (go_simp; try rfl)); (clear st; intro b1 w hb st; clear hb))); (try simp only [nsl, Value.cells, unB] at st); (try clear hc); have hc := st.facts; (try simp only [nfl, nft, Nat.reduceAdd] at hc))
  refine (HR.out _).mono ?_
  rintro en w ⟨rfl, hx⟩
  replace st := st.ext hx
  clear hx
  (try clear hc); have hc := st.facts; (try simp only [nfl, nft, Nat.reduceAdd] at hc)
  cases hr : credR x with
  | false =>
    have hro : credRo x = [] := by unfold credRo; rw [hr]; rfl
    obtain rfl : ro = [] := HRO.out.symm.trans hro
    clear hr hro
    go_wp2_with fail
    replace st := (st.row_nil 26 2)
    go_ret
    exact ⟨none, 0, rfl, st.toFresh (i := 2) get2⟩
  | true =>
    have hr1 := fun k => credRo_1 (x := x) hr k
    have hr2 := fun k k4 => credRo_2 (x := x) hr k k4
    have hr4 := fun k => credRo_4 (x := x) hr k
    have H := Lib.hid hr
    clear hr
    by_cases k1 : x.k = 1
    · obtain rfl : ro = [x.h] := HRO.out.symm.trans (hr1 k1)
      have hk1 : (x.k != 1) = false := by simp [k1]
      clear hr1 hr2 hr4
      go_wp2_with ((with_reducible refine wl_buildSlice ?_ (fun K hK => ?_)); (rfl); (refine owp_buildRow (o := ⟨some 9, _, _, _, _, _⟩) rfl st 26 2 ?_; refine ⟨1, #[.string ⟨x.h.1.toArray⟩, .string ⟨x.h.2.toArray⟩], ?_, by simp, by simp [maxLen], ?_⟩; (focus (go_simp; (first | done | rfl))); (clear st; intro b9 w hb st; clear hb)); (try simp only [nsl, Value.cells, unB] at st); (try clear hc); have hc := st.facts; (try simp only [nfl, nft, Nat.reduceAdd] at hc))
      go_ret
      exact ⟨_, _, rfl, st.toFresh (i := 2) get2⟩
    · have hk1 : (x.k != 1) = true := by simpa using k1
      by_cases k4 : x.k = 4
      · obtain rfl : ro = [x.h, x.b, x.c] := HRO.out.symm.trans (hr4 k4)
        clear hr1 hr2 hr4
        have K1 := Lib.hid k1
        clear k1
        go_wp2_with (first
            | ((with_reducible refine wl_append ?_ (fun K hK => ?_)); (rfl); (obtain ⟨inf, hinf, hz0, hz1, hz2⟩ := roleInfo); (refine owp_append rfl st 2 get2 Tryz.underlying39 hinf hz0 hz1 hz2 rfl (by decide) rfl rfl (by first | exact (st.blk (i := 4) get4).flat rfl | exact (st.blk (i := 3) get3).flat rfl) (by first | exact cellsL_all _ | simp [Value.oneCell']) (by simp only [maxLen]; omega) (by omega) ?_); (clear hinf hz0 hz1 hz2 inf); (clear st; intro v' w st); (obtain ⟨va', vc', rfl⟩ := own_slice (st.row (i := 2) get2)); (try simp only [nsl, Value.cells, unB] at st); (try simp only [Nat.zero_add] at st); (try clear hc); have hc := st.facts; (try simp only [nfl, nft, Nat.reduceAdd] at hc))
            | ((with_reducible refine wl_buildSlice ?_ (fun K hK => ?_)); (rfl); (refine owp_buildRow (o := ⟨some 9, _, _, _, _, _⟩) rfl st 26 2 ?_; refine ⟨1, #[.string ⟨x.h.1.toArray⟩, .string ⟨x.h.2.toArray⟩], ?_, by simp, by simp [maxLen], ?_⟩; (focus (go_simp; (first | done | rfl))); (clear st; intro b9 w hb st; clear hb)); (try simp only [nsl, Value.cells, unB] at st); (try clear hc); have hc := st.facts; (try simp only [nfl, nft, Nat.reduceAdd] at hc))
            | ((first
              | ((with_reducible refine wl_buildSlice ?_ (fun K hK => ?_)); rfl; refine owp_buildSlice (o := ⟨some 16, _, _, _, _, _⟩) rfl st ?_; apply Exists.intro; apply Exists.intro; apply Exists.intro; apply Exists.intro; refine ⟨?_, ?_⟩; (focus (go_simp; (first | done | exact ⟨⟨rfl, rfl⟩, rfl⟩ | rfl))); (clear st; intro b16 w hb st; clear hb))
              | ((with_reducible refine wl_buildSlice ?_ (fun K hK => ?_)); rfl; refine owp_buildSlice (o := ⟨some 24, _, _, _, _, _⟩) rfl st ?_; apply Exists.intro; apply Exists.intro; apply Exists.intro; apply Exists.intro; refine ⟨?_, ?_⟩; (focus (go_simp; (first | done | exact ⟨⟨rfl, rfl⟩, rfl⟩ | rfl))); (clear st; intro b24 w hb st; clear hb))); (try simp only [nsl, Value.cells, unB] at st); (try clear hc); have hc := st.facts; (try simp only [nfl, nft, Nat.reduceAdd] at hc)))
        go_ret
        exact ⟨_, _, rfl, st.toFresh (i := 2) get2⟩
      · obtain rfl : ro = [x.h, x.b] := HRO.out.symm.trans (hr2 k1 k4)
        have hk4 : (x.k == 4) = false := by simpa using k4
        clear hr1 hr2 hr4
        have K1 := Lib.hid k1
        clear k1 k4
        go_wp2_with (first
            | ((with_reducible refine wl_append ?_ (fun K hK => ?_)); (rfl); (obtain ⟨inf, hinf, hz0, hz1, hz2⟩ := roleInfo); (refine owp_append rfl st 2 get2 Tryz.underlying39 hinf hz0 hz1 hz2 rfl (by decide) rfl rfl (by first | exact (st.blk (i := 4) get4).flat rfl | exact (st.blk (i := 3) get3).flat rfl) (by first | exact cellsL_all _ | simp [Value.oneCell']) (by simp only [maxLen]; omega) (by omega) ?_); (clear hinf hz0 hz1 hz2 inf); (clear st; intro v' w st); (obtain ⟨va', vc', rfl⟩ := own_slice (st.row (i := 2) get2)); (try simp only [nsl, Value.cells, unB] at st); (try simp only [Nat.zero_add] at st); (try clear hc); have hc := st.facts; (try simp only [nfl, nft, Nat.reduceAdd] at hc))
            | ((with_reducible refine wl_buildSlice ?_ (fun K hK => ?_)); (rfl); (refine owp_buildRow (o := ⟨some 9, _, _, _, _, _⟩) rfl st 26 2 ?_; refine ⟨1, #[.string ⟨x.h.1.toArray⟩, .string ⟨x.h.2.toArray⟩], ?_, by simp, by simp [maxLen], ?_⟩; (focus (go_simp; (first | done | rfl))); (clear st; intro b9 w hb st; clear hb)); (try simp only [nsl, Value.cells, unB] at st); (try clear hc); have hc := st.facts; (try simp only [nfl, nft, Nat.reduceAdd] at hc))
            | ((((with_reducible refine wl_buildSlice ?_ (fun K hK => ?_)); rfl; refine owp_buildSlice (o := ⟨some 16, _, _, _, _, _⟩) rfl st ?_; apply Exists.intro; apply Exists.intro; apply Exists.intro; apply Exists.intro; refine ⟨?_, ?_⟩; (focus (go_simp; (first | done | exact ⟨⟨rfl, rfl⟩, rfl⟩ | rfl))); (clear st; intro b16 w hb st; clear hb))); (try simp only [nsl, Value.cells, unB] at st); (try clear hc); have hc := st.facts; (try simp only [nfl, nft, Nat.reduceAdd] at hc)))
        go_ret
        exact ⟨_, _, rfl, st.toFresh (i := 2) get2⟩
end Go.Proofs.YthjibbakjbbniaaGreatDoor

namespace Go.Proofs.YthjibbakjbbniaaGreatDoor
set_option linter.unusedSimpArgs false
set_option linter.unusedVariables false
open Go Go.RowKit
open Go.Lib (index occAt NoOcc index_hit index_none index_spec index_room index_ge)
end Go.Proofs.YthjibbakjbbniaaGreatDoor

namespace Go.Proofs.YthjibbakjbbniaaGreatDoor
set_option linter.unusedSimpArgs false
set_option linter.unusedVariables false
open Go Go.RowKit
end Go.Proofs.YthjibbakjbbniaaGreatDoor

namespace Go.Proofs.YthjibbakjbbniaaGreatDoor
set_option linter.unusedSimpArgs false
set_option linter.unusedVariables false
open Go Go.RowKit
end Go.Proofs.YthjibbakjbbniaaGreatDoor

namespace Go.Proofs.YthjibbakjbbniaaGreatDoor
set_option linter.unusedSimpArgs false
set_option linter.unusedVariables false
open Go Go.RowKit
end Go.Proofs.YthjibbakjbbniaaGreatDoor

namespace Go.Proofs.YthjibbakjbbniaaGreatDoor
set_option linter.unusedSimpArgs false
set_option linter.unusedVariables false
open Go Go.RowKit
section
variable {P : Program} {fn : Func} {R : Ending → World → Prop} {a : Act} {w : World}
end
end Go.Proofs.YthjibbakjbbniaaGreatDoor

namespace Go.Proofs.YthjibbakjbbniaaGreatDoor
set_option linter.unusedSimpArgs false
set_option linter.unusedVariables false
open Go Go.RowKit
def colS : List UInt8 := [58, 32]
def factT (x : FactT) : List UInt8 := roleT x.r ++ colS ++ x.w
theorem factT_len (x : FactT) : (factT x).length = x.r.1.length + x.r.2.length + x.w.length + 3 := by
  unfold factT roleT colS
  simp
  omega
/-- Which fact words are. -/
def parseF (s : List UInt8) : Option FactT := if (Lib.cut s colS).2.2 = true ∧ (roleP (Lib.cut s colS).1).isSome = true ∧ nameR (Lib.cut s colS).2.1 = true then some ⟨roleP1 (Lib.cut s colS).1, (Lib.cut s colS).2.1⟩ else none
def parseF1 (s : List UInt8) : FactT := (parseF s).getD ⟨([], []), []⟩
theorem parseF_yes {s a b : List UInt8} (h : Lib.cut s colS = (a, b, true)) (h1 : (roleP a).isSome = true) (h2 : nameR b = true) : parseF s = some ⟨roleP1 a, b⟩ := by
  unfold parseF
  rw [h, if_pos ⟨rfl, h1, h2⟩]
theorem parseF_no {s a b : List UInt8} {v : Bool} (h : Lib.cut s colS = (a, b, v)) (hn : v = false ∨ (roleP a).isSome = false ∨ nameR b = false) : parseF s = none := by
  unfold parseF
  rw [h, if_neg]
  rintro ⟨q1, q2, q3⟩
  rcases hn with q | q | q
  · rw [q] at q1; cases q1
  · rw [q] at q2; cases q2
  · rw [q] at q3; cases q3
theorem cut_split {s a b : List UInt8} {v : Bool} (h : Lib.cut s colS = (a, b, v)) : (v = true ∧ splitG colS s = a :: splitG colS b ∧ a.length ≤ s.length ∧ b.length ≤ s.length) ∨ (v = false ∧ splitG colS s = [s] ∧ a = s ∧ b = []) := by
  unfold Lib.cut at h
  by_cases hi : 0 ≤ Lib.index s colS
  · rw [if_pos hi] at h
    injection h with q1 q2
    injection q2 with q2 q3
    left
    obtain ⟨i, hi2⟩ : ∃ i : Nat, Lib.index s colS = (i : Int) := ⟨(Lib.index s colS).toNat, by omega⟩
    have h1 := splitG_some (sep := colS) (by decide) hi2
    rw [hi2, Int.toNat_natCast] at q1 q2
    refine ⟨q3.symm, ?_, by rw [← q1]; simp; omega, by rw [← q2]; simp⟩
    rw [h1, q1, q2]
  · rw [if_neg hi] at h
    injection h with q1 q2
    injection q2 with q2 q3
    have hneg : Lib.index s colS = -1 := by
      have := Go.Lib.index_ge s colS
      omega
    exact .inr ⟨q3.symm, splitG_none hneg, q1.symm, q2.symm⟩
set_option maxRecDepth 100000 in
set_option maxHeartbeats 2000000 in
theorem repFact_any (x : FactT) (W : World) (hl : x.r.1.length + x.r.2.length + x.w.length ≤ 1000000000) : Calls Tryz.prog 8 #[fV x] W fun e w' => e = .returned (S (factT x)) ∧ Ext W w' := by
  have HR := Lib.hid (fun W => roleText_any x.r W (by omega))
  have HT : Hid (∀ t, roleT x.r = t → factT x = t ++ [58, 32] ++ x.w) := Lib.hid (fun t h => by unfold factT colS; rw [h])
  have HTL : Hid ((roleT x.r).length ≤ 1000000003) := Lib.hid (by unfold roleT; simp; omega)
  generalize factT x = ft at *
  obtain ⟨t, ht⟩ : ∃ t, roleT x.r = t := ⟨_, rfl⟩
  have HTT := Lib.hid (HT.out t ht)
  rw [ht] at HR HTL
  have htl := HTL.out
  clear ht HT HTL
  obtain ⟨⟨o, d⟩, v⟩ := x
  have st := Own.startOld W
  unfold rV S at HR
  unfold fV S
  simp only at HR hl HTT ⊢
  (try simp only [nsl, Value.cells, unB] at st)
  (try clear hc); have hc := st.facts; (try simp only [nfl, nft, Nat.reduceAdd] at hc)
  go_enter Tryz.func8, Tryz.ntmps8
  go_wp2_with ((((with_reducible refine wl_box ?_ (fun K hK => ?_)); rfl; refine owp_box (o := ⟨some 1, _, _, _, _, _⟩) rfl st ?_; apply Exists.intro; refine ⟨?_, ?_⟩; (focus (go_simp; try rfl)); (clear st; intro b1 w hb st; clear hb))); (try simp only [nsl, Value.cells, unB] at st); (try clear hc); have hc := st.facts; (try simp only [nfl, nft, Nat.reduceAdd] at hc))
  refine Rg4.wp_region4 (Rel := Ext) #[0, 1, 3, 7, 0, 16, 63, 127]
    [(2, .val (.string ⟨t.toArray⟩))] [] [1, 5] (fun _ => True) [0, 1, 2, 3, 4, 5, 6, 7] (by kernel_rfl) (by kernel_rfl) (by kernel_rfl) (by kernel_rfl) Ext.refl (fun _ _ _ => Ext.trans) (show Rg4.PB _ by repeat (first | with_reducible exact Rg4.pb_body | with_reducible exact Rg4.pb_bodyD rfl | with_reducible refine Rg4.pb_then ?_ | with_reducible refine Rg4.pb_inBlock ?_ | with_reducible refine Rg4.pb_noGoto ?_ | with_reducible assumption)) (trivial) ?_
  replace st := st.drew
  change Rg4.wp4 _ _ _ _ _ _ _ _ _ (World.drew _) _ _
  generalize World.drew _ = w at st ⊢
  (try clear hc); have hc := st.facts; (try simp only [nfl, nft, Nat.reduceAdd] at hc)
  (refine Rg4.w4_any (Rg4.want_none rfl) rfl ?_; apply Exists.intro; refine ⟨fun w' => ?_, ?_⟩; (focus (first | (go_simp; done) | (go_simp; first | rfl | (rw [if_neg] <;> first | rfl | omega) | (rw [if_pos] <;> first | rfl | omega)))); (try simp only [Rg4.nrm]))
  (refine Rg4.w4_read (Rg4.want_none rfl) rfl rfl ?_; apply Exists.intro; refine ⟨fun w' hw' hcl' => ?_, ?_⟩; focus (have st' := st.ext hw'; have hc' := st'.facts; (try simp only [nfl, nft, Nat.reduceAdd] at hc'); (focus (first | (go_simp; done) | (go_simp; first | rfl | (rw [if_neg] <;> first | rfl | omega) | (rw [if_pos] <;> first | rfl | omega))))); (try simp only [Rg4.nrm]))
  refine Rg4.w4_some (Rg4.want_none rfl) rfl (fun w' hw' hcl' _ => ?_) ?_
  · refine Rg.relAt_call (by go_simp; exact ⟨rfl, rfl⟩) ?_
    refine (HR.out _).mono ?_
    rintro en w'' ⟨rfl, hx⟩
    exact ⟨_, rfl, hx, trivial, rfl⟩
  rintro v ⟨_, _, _, rfl⟩
  (try simp only [Rg4.nrm])
  iterate 2 (refine Rg4.w4_any (Rg4.want_none rfl) rfl ?_; apply Exists.intro; refine ⟨fun w' => ?_, ?_⟩; (focus (first | (go_simp; done) | (go_simp; first | rfl | (rw [if_neg] <;> first | rfl | omega) | (rw [if_pos] <;> first | rfl | omega)))); (try simp only [Rg4.nrm]))
  (refine Rg4.w4_read (Rg4.want_none rfl) rfl rfl ?_; apply Exists.intro; refine ⟨fun w' hw' hcl' => ?_, ?_⟩; focus (have st' := st.ext hw'; have hc' := st'.facts; (try simp only [nfl, nft, Nat.reduceAdd] at hc'); (focus (first | (go_simp; done) | (go_simp; first | rfl | (rw [if_neg] <;> first | rfl | omega) | (rw [if_pos] <;> first | rfl | omega))))); (try simp only [Rg4.nrm]))
  iterate 2 (refine Rg4.w4_any (Rg4.want_none rfl) rfl ?_; apply Exists.intro; refine ⟨fun w' => ?_, ?_⟩; (focus (first | (go_simp; done) | (go_simp; first | rfl | (rw [if_neg] <;> first | rfl | omega) | (rw [if_pos] <;> first | rfl | omega)))); (try simp only [Rg4.nrm]))
  refine Rg4.w4_nil (fun w' hw' hcl' _ => ?_); replace st := st.ext hw'; clear hw' hcl'; (try clear hc); have hc := st.facts; (try simp only [nfl, nft, Nat.reduceAdd] at hc)
  go_wp2_with fail
  go_ret
  exact ⟨by rw [HTT.out]; simp [ba_append], st.ext0⟩
set_option maxRecDepth 100000 in
set_option maxHeartbeats 4000000 in
theorem repParseFact_any (s : List UInt8) (W : World) (hs : s.length ≤ 10000) (hg : Glob W) :
    Calls Tryz.prog 7 #[S s] W fun e w' => e = .returned (.tuple #[fV (parseF1 s), .bool (parseF s).isSome]) ∧ Ext W w' := by
  obtain ⟨a, b, v, hc9⟩ : ∃ a b v, Lib.cut s colS = (a, b, v) := ⟨_, _, _, rfl⟩
  have hab : a.length ≤ 10000 ∧ b.length ≤ 10000 := by
    rcases cut_split hc9 with ⟨_, _, h1, h2⟩ | ⟨_, _, h1, h2⟩
    · omega
    · rw [h1, h2]; simp; omega
  have HC := Lib.hid (fun W' (hx : Ext W W') => sCut_any s [58, 32] W' (by omega) (hg.ext hx))
  rw [show Lib.cut s [58, 32] = (a, b, v) from hc9] at HC
  have HP := Lib.hid (fun W => roleParse_any a W (by omega))
  have HN := Lib.hid (fun W => right_any b W (by omega))
  have HY := Lib.hid (fun (q1 : v = true) h1 h2 => parseF_yes (q1 ▸ hc9) h1 h2)
  have HNO := Lib.hid (fun h => parseF_no hc9 h)
  have HF1 : Hid (∀ r, parseF s = r → parseF1 s = r.getD ⟨([], []), []⟩) := Lib.hid (fun r h => by unfold parseF1; rw [h])
  generalize parseF1 s = x1 at *
  generalize parseF s = x0 at *
  generalize roleP1 a = r1 at *
  generalize roleP a = r0 at *
  obtain ⟨iv, hiv⟩ : ∃ i, r0.isSome = i := ⟨_, rfl⟩
  obtain ⟨nv, hnv⟩ : ∃ i, nameR b = i := ⟨_, rfl⟩
  rw [hiv] at HP HY HNO
  rw [hnv] at HN HY HNO
  clear hiv hnv hc9 hg hab
  obtain ⟨ro, rd⟩ := r1
  have st := Own.startOld W
  unfold rV S at HP
  unfold S at HN ⊢
  simp only at HP HC
  (try simp only [nsl, Value.cells, unB] at st)
  (try clear hc); have hc := st.facts; (try simp only [nfl, nft, Nat.reduceAdd] at hc)
  go_enter Tryz.func7, Tryz.ntmps7
  go_wp2_with ((first
        | ((with_reducible refine wl_alloc ?_ (fun K hK => ?_)); rfl; refine owp_alloc (o := ⟨some 2, _, _, _, _, _⟩) rfl st ?_; apply Exists.intro; apply Exists.intro; refine ⟨?_, ?_⟩; (focus (first | (go_simp; done) | (go_simp; rfl))); (clear st; intro b2 w hb st; clear hb))
        | ((with_reducible refine wl_alloc ?_ (fun K hK => ?_)); rfl; refine owp_alloc (o := ⟨some 7, _, _, _, _, _⟩) rfl st ?_; apply Exists.intro; apply Exists.intro; refine ⟨?_, ?_⟩; (focus (first | (go_simp; done) | (go_simp; rfl))); (clear st; intro b7 w hb st; clear hb))
        | ((with_reducible refine wl_store ?_ (fun K hK => ?_)); rfl; refine owp_store rfl st ?_; apply Exists.intro; apply Exists.intro; refine ⟨?_, ?_, ?_⟩; (focus (go_simp; try rfl)); (focus (go_simp; try rfl)); (first | (with_reducible refine ⟨0, _, _, _, _, get0, rfl, rfl, ?_, ?_, ?_, ?_⟩) | (with_reducible refine ⟨1, _, _, _, _, get1, rfl, rfl, ?_, ?_, ?_, ?_⟩) | (with_reducible refine ⟨2, _, _, _, _, get2, rfl, rfl, ?_, ?_, ?_, ?_⟩) | (with_reducible refine ⟨3, _, _, _, _, get3, rfl, rfl, ?_, ?_, ?_, ?_⟩) | (with_reducible refine ⟨4, _, _, _, _, get4, rfl, rfl, ?_, ?_, ?_, ?_⟩) | (with_reducible refine ⟨5, _, _, _, _, get5, rfl, rfl, ?_, ?_, ?_, ?_⟩)); (kernel_rfl); (simp [Value.cells]); (rfl); (clear st; intro w st))); (try simp only [nsl, Value.cells, unB] at st); (try clear hc); have hc := st.facts; (try simp only [nfl, nft, Nat.reduceAdd] at hc))
  refine (HC.out _ st.ext0).mono ?_
  rintro en w ⟨rfl, hx⟩
  replace st := st.ext hx
  clear hx
  (try clear hc); have hc := st.facts; (try simp only [nfl, nft, Nat.reduceAdd] at hc)
  go_wp2_with ((first
        | ((with_reducible refine wl_alloc ?_ (fun K hK => ?_)); rfl; refine owp_alloc (o := ⟨some 2, _, _, _, _, _⟩) rfl st ?_; apply Exists.intro; apply Exists.intro; refine ⟨?_, ?_⟩; (focus (first | (go_simp; done) | (go_simp; rfl))); (clear st; intro b2 w hb st; clear hb))
        | ((with_reducible refine wl_alloc ?_ (fun K hK => ?_)); rfl; refine owp_alloc (o := ⟨some 7, _, _, _, _, _⟩) rfl st ?_; apply Exists.intro; apply Exists.intro; refine ⟨?_, ?_⟩; (focus (first | (go_simp; done) | (go_simp; rfl))); (clear st; intro b7 w hb st; clear hb))
        | ((with_reducible refine wl_store ?_ (fun K hK => ?_)); rfl; refine owp_store rfl st ?_; apply Exists.intro; apply Exists.intro; refine ⟨?_, ?_, ?_⟩; (focus (go_simp; try rfl)); (focus (go_simp; try rfl)); (first | (with_reducible refine ⟨0, _, _, _, _, get0, rfl, rfl, ?_, ?_, ?_, ?_⟩) | (with_reducible refine ⟨1, _, _, _, _, get1, rfl, rfl, ?_, ?_, ?_, ?_⟩) | (with_reducible refine ⟨2, _, _, _, _, get2, rfl, rfl, ?_, ?_, ?_, ?_⟩) | (with_reducible refine ⟨3, _, _, _, _, get3, rfl, rfl, ?_, ?_, ?_, ?_⟩) | (with_reducible refine ⟨4, _, _, _, _, get4, rfl, rfl, ?_, ?_, ?_, ?_⟩) | (with_reducible refine ⟨5, _, _, _, _, get5, rfl, rfl, ?_, ?_, ?_, ?_⟩)); (kernel_rfl); (simp [Value.cells]); (rfl); (clear st; intro w st))); (try simp only [nsl, Value.cells, unB] at st); (try clear hc); have hc := st.facts; (try simp only [nfl, nft, Nat.reduceAdd] at hc))
  refine (HP.out _).mono ?_
  rintro en w ⟨rfl, hx⟩
  replace st := st.ext hx
  clear hx
  (try clear hc); have hc := st.facts; (try simp only [nfl, nft, Nat.reduceAdd] at hc)
  cases v with
  | false =>
    have hx0 := HNO.out (.inl rfl)
    have hx1 := HF1.out _ hx0
    subst hx0 hx1
    (try simp only [nsl, Value.cells, unB] at st)
    (try clear hc); have hc := st.facts; (try simp only [nfl, nft, Nat.reduceAdd] at hc)
    go_wp2_with ((first
          | ((with_reducible refine wl_alloc ?_ (fun K hK => ?_)); rfl; refine owp_alloc (o := ⟨some 2, _, _, _, _, _⟩) rfl st ?_; apply Exists.intro; apply Exists.intro; refine ⟨?_, ?_⟩; (focus (first | (go_simp; done) | (go_simp; rfl))); (clear st; intro b2 w hb st; clear hb))
          | ((with_reducible refine wl_alloc ?_ (fun K hK => ?_)); rfl; refine owp_alloc (o := ⟨some 7, _, _, _, _, _⟩) rfl st ?_; apply Exists.intro; apply Exists.intro; refine ⟨?_, ?_⟩; (focus (first | (go_simp; done) | (go_simp; rfl))); (clear st; intro b7 w hb st; clear hb))
          | ((with_reducible refine wl_store ?_ (fun K hK => ?_)); rfl; refine owp_store rfl st ?_; apply Exists.intro; apply Exists.intro; refine ⟨?_, ?_, ?_⟩; (focus (go_simp; try rfl)); (focus (go_simp; try rfl)); (first | (with_reducible refine ⟨0, _, _, _, _, get0, rfl, rfl, ?_, ?_, ?_, ?_⟩) | (with_reducible refine ⟨1, _, _, _, _, get1, rfl, rfl, ?_, ?_, ?_, ?_⟩) | (with_reducible refine ⟨2, _, _, _, _, get2, rfl, rfl, ?_, ?_, ?_, ?_⟩) | (with_reducible refine ⟨3, _, _, _, _, get3, rfl, rfl, ?_, ?_, ?_, ?_⟩) | (with_reducible refine ⟨4, _, _, _, _, get4, rfl, rfl, ?_, ?_, ?_, ?_⟩) | (with_reducible refine ⟨5, _, _, _, _, get5, rfl, rfl, ?_, ?_, ?_, ?_⟩)); (kernel_rfl); (simp [Value.cells]); (rfl); (clear st; intro w st))); (try simp only [nsl, Value.cells, unB] at st); (try clear hc); have hc := st.facts; (try simp only [nfl, nft, Nat.reduceAdd] at hc))
    (try simp only [Exit.inBlock, Exit.then])
    refine bodyPost_cell2 rfl rfl (st.blk (i := 1) get1) Tryz.underlying30 rfl (by kernel_rfl) rfl ?_
    exact ⟨rfl, st.ext0⟩
  | true =>
    cases iv with
    | false =>
      have hx0 := HNO.out (.inr (.inl rfl))
      have hx1 := HF1.out _ hx0
      subst hx0 hx1
      (try simp only [nsl, Value.cells, unB] at st)
      (try clear hc); have hc := st.facts; (try simp only [nfl, nft, Nat.reduceAdd] at hc)
      go_wp2_with ((first
            | ((with_reducible refine wl_alloc ?_ (fun K hK => ?_)); rfl; refine owp_alloc (o := ⟨some 2, _, _, _, _, _⟩) rfl st ?_; apply Exists.intro; apply Exists.intro; refine ⟨?_, ?_⟩; (focus (first | (go_simp; done) | (go_simp; rfl))); (clear st; intro b2 w hb st; clear hb))
            | ((with_reducible refine wl_alloc ?_ (fun K hK => ?_)); rfl; refine owp_alloc (o := ⟨some 7, _, _, _, _, _⟩) rfl st ?_; apply Exists.intro; apply Exists.intro; refine ⟨?_, ?_⟩; (focus (first | (go_simp; done) | (go_simp; rfl))); (clear st; intro b7 w hb st; clear hb))
            | ((with_reducible refine wl_store ?_ (fun K hK => ?_)); rfl; refine owp_store rfl st ?_; apply Exists.intro; apply Exists.intro; refine ⟨?_, ?_, ?_⟩; (focus (go_simp; try rfl)); (focus (go_simp; try rfl)); (first | (with_reducible refine ⟨0, _, _, _, _, get0, rfl, rfl, ?_, ?_, ?_, ?_⟩) | (with_reducible refine ⟨1, _, _, _, _, get1, rfl, rfl, ?_, ?_, ?_, ?_⟩) | (with_reducible refine ⟨2, _, _, _, _, get2, rfl, rfl, ?_, ?_, ?_, ?_⟩) | (with_reducible refine ⟨3, _, _, _, _, get3, rfl, rfl, ?_, ?_, ?_, ?_⟩) | (with_reducible refine ⟨4, _, _, _, _, get4, rfl, rfl, ?_, ?_, ?_, ?_⟩) | (with_reducible refine ⟨5, _, _, _, _, get5, rfl, rfl, ?_, ?_, ?_, ?_⟩)); (kernel_rfl); (simp [Value.cells]); (rfl); (clear st; intro w st))); (try simp only [nsl, Value.cells, unB] at st); (try clear hc); have hc := st.facts; (try simp only [nfl, nft, Nat.reduceAdd] at hc))
      (try simp only [Exit.inBlock, Exit.then])
      refine bodyPost_cell2 rfl rfl (st.blk (i := 1) get1) Tryz.underlying30 rfl (by kernel_rfl) rfl ?_
      exact ⟨rfl, st.ext0⟩
    | true =>
      cases nv with
      | false =>
        have hx0 := HNO.out (.inr (.inr rfl))
        have hx1 := HF1.out _ hx0
        subst hx0 hx1
        (try simp only [nsl, Value.cells, unB] at st)
        (try clear hc); have hc := st.facts; (try simp only [nfl, nft, Nat.reduceAdd] at hc)
        go_wp2_with ((first
              | ((with_reducible refine wl_alloc ?_ (fun K hK => ?_)); rfl; refine owp_alloc (o := ⟨some 2, _, _, _, _, _⟩) rfl st ?_; apply Exists.intro; apply Exists.intro; refine ⟨?_, ?_⟩; (focus (first | (go_simp; done) | (go_simp; rfl))); (clear st; intro b2 w hb st; clear hb))
              | ((with_reducible refine wl_alloc ?_ (fun K hK => ?_)); rfl; refine owp_alloc (o := ⟨some 7, _, _, _, _, _⟩) rfl st ?_; apply Exists.intro; apply Exists.intro; refine ⟨?_, ?_⟩; (focus (first | (go_simp; done) | (go_simp; rfl))); (clear st; intro b7 w hb st; clear hb))
              | ((with_reducible refine wl_store ?_ (fun K hK => ?_)); rfl; refine owp_store rfl st ?_; apply Exists.intro; apply Exists.intro; refine ⟨?_, ?_, ?_⟩; (focus (go_simp; try rfl)); (focus (go_simp; try rfl)); (first | (with_reducible refine ⟨0, _, _, _, _, get0, rfl, rfl, ?_, ?_, ?_, ?_⟩) | (with_reducible refine ⟨1, _, _, _, _, get1, rfl, rfl, ?_, ?_, ?_, ?_⟩) | (with_reducible refine ⟨2, _, _, _, _, get2, rfl, rfl, ?_, ?_, ?_, ?_⟩) | (with_reducible refine ⟨3, _, _, _, _, get3, rfl, rfl, ?_, ?_, ?_, ?_⟩) | (with_reducible refine ⟨4, _, _, _, _, get4, rfl, rfl, ?_, ?_, ?_, ?_⟩) | (with_reducible refine ⟨5, _, _, _, _, get5, rfl, rfl, ?_, ?_, ?_, ?_⟩)); (kernel_rfl); (simp [Value.cells]); (rfl); (clear st; intro w st))); (try simp only [nsl, Value.cells, unB] at st); (try clear hc); have hc := st.facts; (try simp only [nfl, nft, Nat.reduceAdd] at hc))
        refine (HN.out _).mono ?_
        rintro en w ⟨rfl, hx⟩
        replace st := st.ext hx
        clear hx
        (try clear hc); have hc := st.facts; (try simp only [nfl, nft, Nat.reduceAdd] at hc)
        go_wp2_with ((first
              | ((with_reducible refine wl_alloc ?_ (fun K hK => ?_)); rfl; refine owp_alloc (o := ⟨some 2, _, _, _, _, _⟩) rfl st ?_; apply Exists.intro; apply Exists.intro; refine ⟨?_, ?_⟩; (focus (first | (go_simp; done) | (go_simp; rfl))); (clear st; intro b2 w hb st; clear hb))
              | ((with_reducible refine wl_alloc ?_ (fun K hK => ?_)); rfl; refine owp_alloc (o := ⟨some 7, _, _, _, _, _⟩) rfl st ?_; apply Exists.intro; apply Exists.intro; refine ⟨?_, ?_⟩; (focus (first | (go_simp; done) | (go_simp; rfl))); (clear st; intro b7 w hb st; clear hb))
              | ((with_reducible refine wl_store ?_ (fun K hK => ?_)); rfl; refine owp_store rfl st ?_; apply Exists.intro; apply Exists.intro; refine ⟨?_, ?_, ?_⟩; (focus (go_simp; try rfl)); (focus (go_simp; try rfl)); (first | (with_reducible refine ⟨0, _, _, _, _, get0, rfl, rfl, ?_, ?_, ?_, ?_⟩) | (with_reducible refine ⟨1, _, _, _, _, get1, rfl, rfl, ?_, ?_, ?_, ?_⟩) | (with_reducible refine ⟨2, _, _, _, _, get2, rfl, rfl, ?_, ?_, ?_, ?_⟩) | (with_reducible refine ⟨3, _, _, _, _, get3, rfl, rfl, ?_, ?_, ?_, ?_⟩) | (with_reducible refine ⟨4, _, _, _, _, get4, rfl, rfl, ?_, ?_, ?_, ?_⟩) | (with_reducible refine ⟨5, _, _, _, _, get5, rfl, rfl, ?_, ?_, ?_, ?_⟩)); (kernel_rfl); (simp [Value.cells]); (rfl); (clear st; intro w st))); (try simp only [nsl, Value.cells, unB] at st); (try clear hc); have hc := st.facts; (try simp only [nfl, nft, Nat.reduceAdd] at hc))
        (try simp only [Exit.inBlock, Exit.then])
        refine bodyPost_cell2 rfl rfl (st.blk (i := 1) get1) Tryz.underlying30 rfl (by kernel_rfl) rfl ?_
        exact ⟨rfl, st.ext0⟩
      | true =>
        have hx0 := HY.out rfl rfl rfl
        have hx1 := HF1.out _ hx0
        subst hx0 hx1
        (try simp only [nsl, Value.cells, unB] at st)
        (try clear hc); have hc := st.facts; (try simp only [nfl, nft, Nat.reduceAdd] at hc)
        go_wp2_with ((first
              | ((with_reducible refine wl_alloc ?_ (fun K hK => ?_)); rfl; refine owp_alloc (o := ⟨some 2, _, _, _, _, _⟩) rfl st ?_; apply Exists.intro; apply Exists.intro; refine ⟨?_, ?_⟩; (focus (first | (go_simp; done) | (go_simp; rfl))); (clear st; intro b2 w hb st; clear hb))
              | ((with_reducible refine wl_alloc ?_ (fun K hK => ?_)); rfl; refine owp_alloc (o := ⟨some 7, _, _, _, _, _⟩) rfl st ?_; apply Exists.intro; apply Exists.intro; refine ⟨?_, ?_⟩; (focus (first | (go_simp; done) | (go_simp; rfl))); (clear st; intro b7 w hb st; clear hb))
              | ((with_reducible refine wl_store ?_ (fun K hK => ?_)); rfl; refine owp_store rfl st ?_; apply Exists.intro; apply Exists.intro; refine ⟨?_, ?_, ?_⟩; (focus (go_simp; try rfl)); (focus (go_simp; try rfl)); (first | (with_reducible refine ⟨0, _, _, _, _, get0, rfl, rfl, ?_, ?_, ?_, ?_⟩) | (with_reducible refine ⟨1, _, _, _, _, get1, rfl, rfl, ?_, ?_, ?_, ?_⟩) | (with_reducible refine ⟨2, _, _, _, _, get2, rfl, rfl, ?_, ?_, ?_, ?_⟩) | (with_reducible refine ⟨3, _, _, _, _, get3, rfl, rfl, ?_, ?_, ?_, ?_⟩) | (with_reducible refine ⟨4, _, _, _, _, get4, rfl, rfl, ?_, ?_, ?_, ?_⟩) | (with_reducible refine ⟨5, _, _, _, _, get5, rfl, rfl, ?_, ?_, ?_, ?_⟩)); (kernel_rfl); (simp [Value.cells]); (rfl); (clear st; intro w st))); (try simp only [nsl, Value.cells, unB] at st); (try clear hc); have hc := st.facts; (try simp only [nfl, nft, Nat.reduceAdd] at hc))
        refine (HN.out _).mono ?_
        rintro en w ⟨rfl, hx⟩
        replace st := st.ext hx
        clear hx
        (try clear hc); have hc := st.facts; (try simp only [nfl, nft, Nat.reduceAdd] at hc)
        go_wp2_with ((first
              | ((with_reducible refine wl_alloc ?_ (fun K hK => ?_)); rfl; refine owp_alloc (o := ⟨some 2, _, _, _, _, _⟩) rfl st ?_; apply Exists.intro; apply Exists.intro; refine ⟨?_, ?_⟩; (focus (first | (go_simp; done) | (go_simp; rfl))); (clear st; intro b2 w hb st; clear hb))
              | ((with_reducible refine wl_alloc ?_ (fun K hK => ?_)); rfl; refine owp_alloc (o := ⟨some 7, _, _, _, _, _⟩) rfl st ?_; apply Exists.intro; apply Exists.intro; refine ⟨?_, ?_⟩; (focus (first | (go_simp; done) | (go_simp; rfl))); (clear st; intro b7 w hb st; clear hb))
              | ((with_reducible refine wl_store ?_ (fun K hK => ?_)); rfl; refine owp_store rfl st ?_; apply Exists.intro; apply Exists.intro; refine ⟨?_, ?_, ?_⟩; (focus (go_simp; try rfl)); (focus (go_simp; try rfl)); (first | (with_reducible refine ⟨0, _, _, _, _, get0, rfl, rfl, ?_, ?_, ?_, ?_⟩) | (with_reducible refine ⟨1, _, _, _, _, get1, rfl, rfl, ?_, ?_, ?_, ?_⟩) | (with_reducible refine ⟨2, _, _, _, _, get2, rfl, rfl, ?_, ?_, ?_, ?_⟩) | (with_reducible refine ⟨3, _, _, _, _, get3, rfl, rfl, ?_, ?_, ?_, ?_⟩) | (with_reducible refine ⟨4, _, _, _, _, get4, rfl, rfl, ?_, ?_, ?_, ?_⟩) | (with_reducible refine ⟨5, _, _, _, _, get5, rfl, rfl, ?_, ?_, ?_, ?_⟩)); (kernel_rfl); (simp [Value.cells]); (rfl); (clear st; intro w st))); (try simp only [nsl, Value.cells, unB] at st); (try clear hc); have hc := st.facts; (try simp only [nfl, nft, Nat.reduceAdd] at hc))
        (try simp only [Exit.inBlock, Exit.then])
        refine bodyPost_cell2 rfl rfl (st.blk (i := 1) get1) Tryz.underlying30 rfl (by kernel_rfl) rfl ?_
        exact ⟨rfl, st.ext0⟩
end Go.Proofs.YthjibbakjbbniaaGreatDoor

namespace Go.Proofs.YthjibbakjbbniaaGreatDoor
set_option linter.unusedSimpArgs false
set_option linter.unusedVariables false
open Go Go.RowKit
theorem run_append_str {P : Program} {w : World} (t u ty e : TypeId) (i : TypeInfo) (ht : P.underlying t = some (.slice e)) (hu : P.underlying u = some .string) (hi : P.info? e = some i) (hz : i.zero = some (.int .u8 0)) (hsize : i.size = 1) (hby : i.bytes = 1)
    (v : Value) (n : Nat) (xs : List Value) (hown : w.ownsRow 0 e 1 v n xs) (s : ByteArray) (h63 : n + s.size ≤ maxLen) (hbytes : n + s.size ≤ 140737488355328) :
    ∃ v' w', (Builtin.append_ #[t, u] ty #[v, .string s]).run P w = .ok v' w' ∧ w'.ownsRow 0 e 1 v' (n + s.size) (xs ++ Lib.strCells s) ∧ GrownBy w w' v.ownBlock ∧ (v'.ownBlock = v.ownBlock ∨ v'.ownBlock = some w.heap.size) ∧ (v = .slice none 0 0 → s.size = 0 → v' = .slice none 0 0) := by
  obtain ⟨v', w', hr, h2, h3, h4⟩ := Lib.run_append_own_string (P := P) w 0 t u ty e i ht hu hi hz hsize hby v n xs hown s h63 hbytes (Nat.zero_le _)
  refine ⟨v', w', hr, h2, ⟨h3, sem_drawn _ _ _ _ hr⟩, ?_, fun q1 q2 => h4.2 ⟨q1, q2⟩⟩
  have hsmall : n + s.size ≤ 9223372036854775807 := by simp only [maxLen] at h63; omega
  have hxl : xs.length = n := by simpa using hown.1
  have hout : ∀ {u' : Value} {w1 : World}, (Builtin.append_ #[t, u] ty #[v, .string s]).run P w = .ok u' w1 → v' = u' := fun h => by rw [h] at hr; injection hr with h2 _; exact h2.symm
  rcases hown.2 with ⟨rfl, rfl⟩ | ⟨g, cap, cur, rfl, hbg, hg, hnc, hcm, hcs, htake⟩
  · by_cases hm : s.size = 0
    · have hf := Lib.run_firstCells_string (P := P) w 1 s
      rw [hm] at hf
      have : (Builtin.append_ #[t, u] ty #[.slice none 0 0, .string s]).run P w = .ok (.slice none 0 0) w := by
        simp [Builtin.append_, run_underlying ht, run_underlying hu, sizeOf, typeInfo, hi, hsize, Builtin.lenOf, hm, hf]
      rw [hout this]; left; rfl
    · have := run_append_nil_string (P := P) w t u ty e i (.int .u8 0) ht hu hi hz s (by omega) (by omega) (by rw [hby]; omega)
      rw [hout this]; right; rfl
  · by_cases hroom : n + s.size ≤ cap
    · have hcs' : cur.size = cap := by simpa using hcs
      have := Lib.run_append_room_string (P := P) w t u ty e i ht hu hi hsize g n cap cur hg s hroom (by omega)
      rw [hout this]; left; rfl
    · have holds : ∀ j u, xs[j]? = some u → w.cell? ((⟨g, 0, none⟩ : Addr).add j) = some u := hown.cells (g := g) rfl
      have := Lib.run_append_grow_string (P := P) w t u ty e i (.int .u8 0) ht hu hi hz ⟨g, 0, none⟩ n cap xs (by rw [hsize]; simpa using hxl) holds s (by omega) (by omega) (by rw [hby]; exact growslice_fits (by omega) (by omega))
      rw [hout this]; right; rfl
theorem wpList_append_str {P : Program} {w : World} {ops : Array Oper} {rest : List Oper} {o : Oper} {A : Act} {Q : Exit → Act → World → Prop} (hw : Region.wanted o (yielded ops A.tmps) = true) (s x : Operand) (t u : TypeId)
    (ho : o.op = .call { callee := .builtin .append, args := #[s, x], argTypes := #[t, u] })
    (e : TypeId) (i : TypeInfo) (ht : P.underlying t = some (.slice e)) (hu : P.underlying u = some .string) (hi : P.info? e = some i) (hz : i.zero = some (.int .u8 0)) (hsize : i.size = 1) (hby : i.bytes = 1)
    (v : Value) (n : Nat) (xs : List Value) (hs : A.eval s = v) (hown : w.ownsRow 0 e 1 v n xs) (z : ByteArray) (hx : A.eval x = .string z)
    (h63 : n + z.size ≤ maxLen) (hbytes : n + z.size ≤ 140737488355328)
    (h : ∀ v' w', w'.ownsRow 0 e 1 v' (n + z.size) (xs ++ Lib.strCells z) → GrownBy w w' v.ownBlock → (v'.ownBlock = v.ownBlock ∨ v'.ownBlock = some w.heap.size) → (v = .slice none 0 0 → z.size = 0 → v' = .slice none 0 0) → wpList P ops Q rest (A.put o.dst v') w') : wpList P ops Q (o :: rest) A w := by
  obtain ⟨v', w', hr, h2, h3, h4, h5⟩ := run_append_str (P := P) t u o.type e i ht hu hi hz hsize hby v n xs hown z h63 hbytes
  refine wpList_run hw ?_ (h v' w' h2 h3 h4 h5)
  simp [execOp, ho, resolve, invoke, builtin, hs, hx, hr, Result.andThen]
theorem set_self {α : Type} {L : List α} {i : Nat} {I : α} (hi : L[i]? = some I) : L.set i I = L := by
  apply List.ext_getElem?
  intro q
  rw [List.getElem?_set]
  split
  · rename_i h; subst h; rw [hi, if_pos (List.getElem?_eq_some_iff.1 hi).1]
  · rfl
def bldI (b : Nat) (l : List UInt8) : It where
  P e _ w := ∃ p v, (p = .pointer none ∨ p = .pointer (some ⟨b, 0, none⟩)) ∧ w.heap[b]? = some (.cells #[p, v] 57 (0, 0)) ∧ w.ownsRow 0 5 1 v l.length (l.map B) ∧ v.ownBlock ≠ some b ∧ e b ∧ (l = [] → v = .slice none 0 0) ∧ ∀ k, v.ownBlock = some k → e k
  st := by
    rintro e s w w' ⟨p, v, h1, h2, h3, h4, h5, hh, h6⟩ hag
    exact ⟨p, v, h1, by rw [hag b (.inl h5)]; exact h2, row_agree h3 fun k hk => hag k (.inl (h6 k hk)), h4, h5, hh, h6⟩
  facts _ := True
  ok := fun _ => trivial
theorem MutO.setB {e : Nat → Prop} {w : World} {b j : Nat} (h : e b) (v : Value) : MutO e w (w.setCell ⟨b, j, none⟩ v) := MutO.set (MutO.refl _ _) h _
section
variable {fr al : Nat → Prop} {w0 w : World} {L : List It}
theorem Own.bld_new (st : Own fr al w0 L w) : Own fr al w0 (L ++ [bldI w.heap.size []]) (w.alloc (.cells #[.pointer none, .slice none 0 0] 57)) := by
  refine st.new (I := bldI w.heap.size []) (e' := fun k => k = w.heap.size) (s' := fun _ => False) (Ext.new w _) ⟨_, _, .inl rfl, heap_alloc_new w _, ⟨by simp, .inl ⟨rfl, rfl⟩⟩, by simp [Value.ownBlock], rfl, fun _ => rfl, fun k hk => by simp [Value.ownBlock] at hk⟩ ?_ (fun _ q => q.elim) (fun _ _ q => q.elim)
  rintro b rfl
  exact ⟨by show _ < (w.heap.push _).size; simp, Nat.le_refl _⟩
set_option maxRecDepth 100000 in
set_option maxHeartbeats 1000000 in
theorem bldCheck (st : Own fr al w0 L w) {i b : Nat} {l : List UInt8} (hi : L[i]? = some (bldI b l)) :
    Calls Tryz.prog 28 #[.pointer (some ⟨b, 0, none⟩)] w fun e w' => e = .returned (.tuple #[]) ∧ Own fr al w0 L w' := by
  obtain ⟨j, hj, hjs⟩ := Option.map_eq_some_iff.1 (show (Tryz.prog.info? 57).map (·.size) = some 2 by kernel_rfl)
  have hlies : liesAt Tryz.prog Tryz.prog.depth 57 (2 / Tryz.prog.cellsOf 57) 0 57 1 = true := by kernel_rfl
  obtain ⟨e0, s0, ⟨p, v, hp, hbk, _⟩, _⟩ := st.get hi
  have h0 : w.cell? ⟨b, 0, none⟩ = some p := by simp [World.cell?, hbk]
  have hsh : w.shape? b = some (57, 2) := by simp [World.shape?, hbk]
  have hfz : w.frozen? ⟨b, 0, none⟩ = false := Lib.frozen_of_heap hbk 0
  rcases hp with rfl | rfl
  · go_enter Tryz.func28, Tryz.ntmps28
    go_wp2
    rw [Lib.run_to_unsafe w ⟨b, 0, none⟩ Tryz.underlying54 Tryz.underlying96 hj (by rw [hjs]; decide) hsh (Nat.zero_lt_succ 1)]
    simp only [Result.andThen]
    rw [Oper.upon_value]
    go_wp2
    rw [run_callFunc_extern Tryz.func43 (by kernel_rfl) (by kernel_rfl) (by kernel_rfl) (e := Extern.AbiNoEscape.same) (by kernel_rfl)]
    rw [Lib.run_noEscape]
    simp only [Result.andThen]
    rw [Oper.upon_value]
    go_wp2
    rw [Lib.run_from_unsafe w ⟨b, 0, none⟩ Tryz.underlying96 Tryz.underlying54 hj hsh hlies]
    simp only [Result.andThen]
    rw [Oper.upon_value]
    go_wp2
    go_end0
    refine ⟨rfl, ?_⟩
    have hq : L.set i (bldI b l) = L := set_self hi
    rw [← hq]
    refine st.upd hi fun e s ⟨p, v, h1, h2, h3, h4, h5, hh, h6⟩ q3 q4 => ⟨e, s, ?_, fun k hk => ⟨by simpa [World.setCell] using q3 k (.inl hk), .inl hk⟩, fun k hk => ⟨by simpa [World.setCell] using q3 k (.inr hk), .inr (.inl hk)⟩, q4, MutO.setB h5 _⟩
    exact ⟨_, v, .inr rfl, by simp [World.setCell, Array.getElem?_modify, h2], row_agree h3 fun k hk => Below.heap_setCell _ _ _ _ (fun q => h4 (by rw [hk, q])), h4, h5, hh, h6⟩
  · go_enter Tryz.func28, Tryz.ntmps28
    go_wp2
    rw [Lib.run_neq_ptr_same w _ Tryz.underlying54 hj]
    go_wp2
    go_end0
    exact ⟨rfl, st⟩
theorem strCells_B (s : List UInt8) : Lib.strCells ⟨s.toArray⟩ = s.map B := by simp [Lib.strCells, B]
set_option maxRecDepth 100000 in
set_option maxHeartbeats 2000000 in
theorem bldWrite (st : Own fr al w0 L w) {i b : Nat} {l : List UInt8} (hi : L[i]? = some (bldI b l)) (s : List UInt8) (hn : l.length + s.length ≤ 1000000000) :
    Calls Tryz.prog 14 #[.pointer (some ⟨b, 0, none⟩), S s] w fun e w' => e = .returned (.tuple #[.int .i64 s.length, .nilIface]) ∧ Own fr al w0 (L.set i (bldI b (l ++ s))) w' := by
  have hz : (⟨s.toArray⟩ : ByteArray).size = s.length := by simp [ByteArray.size]
  obtain ⟨i0, hI0, hz0, hz1, hz2⟩ := info_parts (show (Tryz.prog.info? 5).map (fun i => (i.zero, i.size, i.bytes)) = some (some (.int .u8 0), 1, 1) by kernel_rfl)
  go_enter Tryz.func14, Tryz.ntmps14
  go_wp2_with fail
  refine (bldCheck st hi).mono ?_
  rintro e w1 ⟨rfl, st1⟩
  clear st
  obtain ⟨e0, s0, ⟨p, v, hp, hbk, hown, hne, hb0, hnil, hk0⟩, _⟩ := st1.get hi
  have c1 : w1.cell? ⟨b, 1, none⟩ = some v := by rw [Lib.cell_of_heap hbk]; rfl
  have hlt : b < w1.heap.size := (Array.getElem?_eq_some_iff.1 hbk).1
  unfold S
  go_wp2_with (refine wpList_append_str rfl _ _ 55 9 rfl 5 i0 Tryz.underlying55 Tryz.underlying9 hI0 hz0 hz1 hz2 _ _ _ rfl hown ⟨s.toArray⟩ rfl ?c3 ?c4 ?_)
  case c3 => rw [hz]; simp only [maxLen]; omega
  case c4 => rw [hz]; omega
  intro v' w2 hown' hgrow hat hnn
  have hb2 : w2.heap[b]? = some (.cells #[p, v] 57 (0, 0)) := by
    rw [hgrow.block b hlt (fun e => hne e.symm)]
    exact hbk
  have d0 : w2.cell? ⟨b, 0, none⟩ = some p := by rw [Lib.cell_of_heap hb2]; rfl
  have d1 : w2.cell? ⟨b, 1, none⟩ = some v := by rw [Lib.cell_of_heap hb2]; rfl
  have f1 : w2.frozen? ⟨b, 1, none⟩ = false := Lib.frozen_of_heap hb2 1
  obtain ⟨ao, n', cap, rfl⟩ : ∃ ao n' cap, v' = .slice ao n' cap := by
    rcases hown'.2 with ⟨hv, _⟩ | ⟨g, cap, cur, hv, _⟩
    · exact ⟨_, _, _, hv⟩
    · exact ⟨_, _, _, hv⟩
  go_wp2
  go_ret2
  refine ⟨rfl, ?_⟩
  rw [strCells_B, ← List.map_append, ← List.length_append] at hown'
  have hneb : (Value.slice ao n' cap).ownBlock ≠ some b := by
    rcases hat with h | h
    · rw [h]; exact hne
    · rw [h]; intro q; injection q with q; omega
  refine st1.upd hi fun e s1 ⟨pp, vv, h1, h2, h3, h4, h5, hh, h6⟩ q3 q4 => ?_
  have hv : vv = v := by
    rw [hbk] at h2
    injection h2 with h2
    injection h2 with h2
    simp at h2
    exact h2.2.symm
  subst hv
  refine ⟨fun k => e k ∨ (w1.heap.size ≤ k ∧ k < w2.heap.size), s1, ⟨p, .slice ao n' cap, hp, by simp [World.setCell, Array.getElem?_modify, hb2], row_agree hown' fun k hk => Below.heap_setCell _ _ _ _ (fun q => hneb (by rw [hk, q])), hneb, .inl h5, fun hq => ?_, fun k hk => ?_⟩, fun k hk => ?_, fun k hk => ?_, fun k hk hk' => ?_, MutO.set (MutO.grown (MutO.refl _ _) hgrow fun k hk _ => h6 k hk) h5 _⟩
  · have hq2 := List.append_eq_nil_iff.1 hq
    exact hnn (hnil hq2.1) (by rw [hq2.2]; first | done | rfl)
  · rcases hat with h | h
    · rw [h] at hk; exact .inl (h6 k hk)
    · rw [h] at hk; injection hk with hk; subst hk
      exact .inr ⟨Nat.le_refl _, (hown'.lt _ h).2⟩
  · rcases hk with hk | hk
    · exact ⟨by simpa [World.setCell] using Nat.lt_of_lt_of_le (q3 k (.inl hk)) hgrow.size, .inl hk⟩
    · exact ⟨by simpa [World.setCell] using hk.2, .inr hk.1⟩
  · exact ⟨by simpa [World.setCell] using Nat.lt_of_lt_of_le (q3 k (.inr hk)) hgrow.size, .inr (.inl hk)⟩
  · rcases hk with hk | hk
    · exact q4 k hk hk'
    · have := q3 k (.inr hk'); omega
theorem Ext.freezeB {w0 w : World} (h : Ext w0 w) {g : Nat} (hg : w0.heap.size ≤ g) (n : Nat) : Ext w0 (w.freeze ⟨g, 0, none⟩ n) := ⟨Lib.below_freeze h.bel hg _, by
  have e : (w.freeze ⟨g, 0, none⟩ n).drawn = w.drawn := by first | rfl | (unfold World.freeze; rfl) | (unfold World.freeze; split <;> rfl)
  rw [e]; exact h.drawn⟩
set_option maxRecDepth 100000 in
set_option maxHeartbeats 2000000 in
theorem bldString (st : Own (fun _ => False) al w0 L w) {i b : Nat} {l : List UInt8} (hi : L[i]? = some (bldI b l)) :
    Calls Tryz.prog 17 #[.pointer (some ⟨b, 0, none⟩)] w fun e w' => e = .returned (S l) ∧ Ext w0 w' := by
  have hx0 := st.ext0
  have mixed : Tryz.prog.follows Departure.mixedOrders = true := by kernel_rfl
  obtain ⟨hm, ef, sf, F⟩ := st
  obtain ⟨p, v, hp, hbk, hown, hne, hb0, hnil, hk0⟩ := F.holds i _ hi
  by_cases h0 : l = []
  · obtain rfl := hnil h0
    subst h0
    have hUS := fun W q => Lib.run_unsafeString_none (P := Tryz.prog) W 81 3 9 q
    have c1 : w.drew.cell? ⟨b, 1, none⟩ = some (.slice none 0 0) := by
      have : w.drew.heap[b]? = some (.cells #[p, .slice none 0 0] 57 (0, 0)) := hbk
      rw [Lib.cell_of_heap this]; rfl
    have hSD : (Builtin.unsafeSliceData_ #[55] 81 #[.slice none 0 0]).run Tryz.prog w.drew = .ok (.pointer none) w.drew := rfl
    go_enter Tryz.func17, Tryz.ntmps17
    go_wp2
    go_region_o
    all_goals (go_wp2; go_ret; exact ⟨rfl, hx0.drew⟩)
  have hl0 : l.length ≠ 0 := by simpa using h0
  obtain ⟨g, cap, cur, rfl, hbg, hg, hnc, hcm, hcs, htake⟩ : ∃ g cap cur, v = .slice (some ⟨g, 0, none⟩) l.length cap ∧ 0 ≤ g ∧ w.heap[g]? = some (.cells cur 5 (0, 0)) ∧ l.length ≤ cap ∧ cap ≤ maxLen ∧ cur.size = cap * 1 ∧ cur.toList.take (l.length * 1) = l.map B := by
    rcases hown.2 with ⟨_, hz⟩ | ⟨g, cap, cur, hv, r⟩
    · exact absurd hz hl0
    · exact ⟨g, cap, cur, hv, r⟩
  have hgw : w0.heap.size ≤ g := Nat.not_lt.1 fun q => F.fr i g (get_lt hi) (hk0 g rfl) q
  have c1 : w.drew.cell? ⟨b, 1, none⟩ = some (.slice (some ⟨g, 0, none⟩) l.length cap) := by
    have : w.drew.heap[b]? = some (.cells #[p, .slice (some ⟨g, 0, none⟩) l.length cap] 57 (0, 0)) := hbk
    rw [Lib.cell_of_heap this]; rfl
  have hSD : (Builtin.unsafeSliceData_ #[55] 81 #[.slice (some ⟨g, 0, none⟩) l.length cap]).run Tryz.prog w.drew = .ok (.pointer (some ⟨g, 0, none⟩)) w.drew :=
    Lib.run_unsafeSliceData_row _ _ _ _ _ _ (by omega)
  have hUS : (Builtin.unsafeString_ #[81, 3] 9 #[.pointer (some ⟨g, 0, none⟩), .int .i64 l.length]).run Tryz.prog w.drew = .ok (.string ⟨l.toArray⟩) (w.drew.freeze ⟨g, 0, none⟩ l.length) := by
    refine Lib.run_unsafeString_row w.drew 81 3 9 5 Tryz.underlying81 (by kernel_rfl) g cur.size (by have hg' : w.drew.heap[g]? = some (.cells cur 5 (0, 0)) := hg; simp [World.shape?, hg']) l h0 (by omega) (by unfold maxLen at hcm; omega) ?_
    intro j x hx
    exact hown.cells (g := g) rfl j (.int .u8 x.toNat) (by simp [B, hx])
  go_enter Tryz.func17, Tryz.ntmps17
  go_wp2
  go_region_o
  all_goals (go_wp2; go_ret; exact ⟨rfl, hx0.drew.freezeB hgw _⟩)
end
end Go.Proofs.YthjibbakjbbniaaGreatDoor

namespace Go.Proofs.YthjibbakjbbniaaGreatDoor
set_option linter.unusedSimpArgs false
set_option linter.unusedVariables false
open Go Go.RowKit
end Go.Proofs.YthjibbakjbbniaaGreatDoor

namespace Go.Proofs.YthjibbakjbbniaaGreatDoor
set_option linter.unusedSimpArgs false
set_option linter.unusedVariables false
open Go Go.RowKit
end Go.Proofs.YthjibbakjbbniaaGreatDoor

namespace Go.Proofs.YthjibbakjbbniaaGreatDoor
set_option linter.unusedSimpArgs false
set_option linter.unusedVariables false
open Go Go.RowKit
end Go.Proofs.YthjibbakjbbniaaGreatDoor

namespace Go.Proofs.YthjibbakjbbniaaGreatDoor
set_option linter.unusedSimpArgs false
set_option linter.unusedVariables false
open Go Go.RowKit
theorem ownsRow_base {w : World} {b0 b1 : Nat} {E : TypeId} {k n : Nat} {v : Value} {xs : List Value} (h : w.ownsRow b1 E k v n xs) (hb : b0 ≤ b1) : w.ownsRow b0 E k v n xs := by
  refine ⟨h.1, h.2.imp id ?_⟩
  rintro ⟨g, cap, cur, hv, hg, r⟩
  exact ⟨g, cap, cur, hv, by omega, r⟩
section
variable {fr al : Nat → Prop} {w0 w w' : World} {L : List It}
theorem Own.newRow (st : Own fr al w0 L w) (hx : Ext w w') {E : TypeId} {k n : Nat} {v : Value} {xs : List Value} (h : w'.ownsRow w.heap.size E k v n xs) : Own fr al w0 (L ++ [rowI E k v n xs]) w' :=
  st.new hx (e' := fun q => v.ownBlock = some q) (s' := fun _ => False) ⟨ownsRow_base h (Nat.zero_le _), fun q hq => hq⟩ (fun q hq => ⟨(h.lt q hq).2, (h.lt q hq).1⟩) (fun _ q => q.elim) (fun _ _ q => q)
end
end Go.Proofs.YthjibbakjbbniaaGreatDoor

namespace Go.Proofs.YthjibbakjbbniaaGreatDoor
set_option linter.unusedSimpArgs false
set_option linter.unusedVariables false
open Go Go.RowKit
structure StepT where
  c : CredT
  f : FactT
deriving DecidableEq, Inhabited
def stC (x : StepT) : List Value := [.int .i64 x.c.k, S x.c.h.1, S x.c.h.2, S x.c.w, S x.c.b.1, S x.c.b.2, S x.c.c.1, S x.c.c.2, S x.c.e, S x.f.r.1, S x.f.r.2, S x.f.w]
instance fltStep : Flt StepT := ⟨12, stC, fun _ => rfl, by decide, fun x u hu => by simp [stC] at hu; rcases hu with rfl | rfl | rfl | rfl | rfl | rfl | rfl | rfl | rfl | rfl | rfl | rfl <;> rfl⟩
theorem Fl.step {w : World} {a : Option Addr} {n : Nat} {xs : List StepT} (h : Fl w a n xs) (h0 : 0 < n) : ∃ b off, a = some ⟨b, off, none⟩ ∧ ∀ j x, xs[j]? = some x → w.cell? ⟨b, off + j * 12, none⟩ = some (.int .i64 x.c.k) ∧ w.cell? ⟨b, off + j * 12 + 1, none⟩ = some (S x.c.h.1) ∧ w.cell? ⟨b, off + j * 12 + 2, none⟩ = some (S x.c.h.2) ∧ w.cell? ⟨b, off + j * 12 + 3, none⟩ = some (S x.c.w) ∧ w.cell? ⟨b, off + j * 12 + 4, none⟩ = some (S x.c.b.1) ∧ w.cell? ⟨b, off + j * 12 + 5, none⟩ = some (S x.c.b.2) ∧ w.cell? ⟨b, off + j * 12 + 6, none⟩ = some (S x.c.c.1) ∧ w.cell? ⟨b, off + j * 12 + 7, none⟩ = some (S x.c.c.2) ∧ w.cell? ⟨b, off + j * 12 + 8, none⟩ = some (S x.c.e) ∧ w.cell? ⟨b, off + j * 12 + 9, none⟩ = some (S x.f.r.1) ∧ w.cell? ⟨b, off + j * 12 + 10, none⟩ = some (S x.f.r.2) ∧ w.cell? ⟨b, off + j * 12 + 11, none⟩ = some (S x.f.w) := by
  obtain ⟨b, off, rfl, hc⟩ := h.2 h0
  exact ⟨b, off, rfl, fun j x hj => ⟨hc j x hj 0 _ rfl, hc j x hj 1 _ rfl, hc j x hj 2 _ rfl, hc j x hj 3 _ rfl, hc j x hj 4 _ rfl, hc j x hj 5 _ rfl, hc j x hj 6 _ rfl, hc j x hj 7 _ rfl, hc j x hj 8 _ rfl, hc j x hj 9 _ rfl, hc j x hj 10 _ rfl, hc j x hj 11 _ rfl⟩⟩
theorem strInfoC : ∃ i, Tryz.prog.info? 9 = some i ∧ i.zero = some (S []) ∧ i.size = 1 ∧ i.bytes = 16 := info_parts (by kernel_rfl)
end Go.Proofs.YthjibbakjbbniaaGreatDoor

namespace Go.Proofs.YthjibbakjbbniaaGreatDoor
set_option linter.unusedSimpArgs false
set_option linter.unusedVariables false
open Go Go.RowKit
def lineT (i : List UInt8) (x : StepT) : List UInt8 := i ++ [46, 32] ++ credTy x.c ++ [32, 45, 45, 32] ++ factT x.f ++ [10]
def chainT (it : Nat → List UInt8) : Nat → List StepT → List UInt8
  | _, [] => []
  | k, x :: l => lineT (it (k + 1)) x ++ chainT it (k + 1) l
theorem chainT_snoc (it : Nat → List UInt8) (x : StepT) : ∀ (l : List StepT) (k : Nat), chainT it k (l ++ [x]) = chainT it k l ++ lineT (it (k + l.length + 1)) x
  | [], k => by simp [chainT]
  | y :: l, k => by
    rw [List.cons_append, chainT, chainT, chainT_snoc it x l (k + 1), List.append_assoc, List.length_cons]
    have : k + 1 + l.length + 1 = k + (l.length + 1) + 1 := by omega
    rw [this]
theorem chainT_app (it : Nat → List UInt8) (m : List StepT) : ∀ (l : List StepT) (k : Nat), chainT it k (l ++ m) = chainT it k l ++ chainT it (k + l.length) m
  | [], k => by simp [chainT]
  | y :: l, k => by
    rw [List.cons_append, chainT, chainT, chainT_app it m l (k + 1), List.append_assoc, List.length_cons]
    have : k + 1 + l.length = k + (l.length + 1) := by omega
    rw [this]
theorem chainT_take_le (it : Nat → List UInt8) (l : List StepT) (j : Nat) : (chainT it 0 (l.take j)).length ≤ (chainT it 0 l).length := by
  have := congrArg List.length (chainT_app it (l.drop j) (l.take j) 0)
  rw [List.take_append_drop, List.length_append] at this
  omega
set_option maxRecDepth 100000 in
set_option maxHeartbeats 4000000 in
theorem chain_anyI (I : World → Prop) (hIx : ∀ w w', I w → Ext w w' → I w') (a : Option Addr) (n c : Nat) (l : List StepT) (it : Nat → List UInt8) (W : World) (hI0 : I W) (h : Fl W a n l) (hn : n ≤ 1000000)
    (hI : ∀ i, i < n → ∀ w, I w → Calls Tryz.prog 15 #[.int .i64 ((i + 1 : Nat) : Int)] w fun e w' => e = .returned (S (it (i + 1))) ∧ Ext w w')
    (hc : ∀ x ∈ l, CredL 100000 x.c ∧ x.f.r.1.length + x.f.r.2.length + x.f.w.length ≤ 1000000000) (hl : (chainT it 0 l).length ≤ 100000000) :
    Calls Tryz.prog 6 #[.slice a n c] W fun e w' => e = .returned (S (chainT it 0 l)) ∧ Ext W w' := by
  have H := Lib.hid h
  have HNL := Lib.hid h.1
  have HI := Lib.hid hI
  have HIW : Hid (∀ w, Ext W w → I w) := Lib.hid (fun w hx => hIx W w hI0 hx)
  clear hIx hI0
  have HC := Lib.hid hc
  have HL := Lib.hid hl
  have HRT : Hid (∀ x ∈ l, ∀ w, Calls Tryz.prog 16 #[cV x.c] w fun e w' => e = .returned (S (credTy x.c)) ∧ Ext w w') := Lib.hid fun x hx w => credText_any x.c w (hc x hx).1
  have HFT : Hid (∀ x ∈ l, ∀ w, Calls Tryz.prog 8 #[fV x.f] w fun e w' => e = .returned (S (factT x.f)) ∧ Ext w w') := Lib.hid fun x hx w => repFact_any x.f w (hc x hx).2
  have st := Own.startOld W
  clear h hI hc hl
  (try simp only [nsl, Value.cells, unB] at st)
  (try clear hc); have hc := st.facts; (try simp only [nfl, nft, Nat.reduceAdd] at hc)
  go_enter Tryz.func6, Tryz.ntmps6
  go_wp2_with fail
  replace st := st.bld_new
  simp only [List.cons_append, List.nil_append] at st
  generalize World.alloc _ _ = w at st ⊢
  generalize W.heap.size = bb at st ⊢
  go_loopg [8] n (fun k i wr => ∃ (j : Nat), j ≤ n ∧ k = n - j ∧ i = .int .i64 (j : Int) ∧ Own (fun _ => False) (fun _ => True) W [oldI W, bldI bb (chainT it 0 (l.take j))] wr)
  case atStart => exact ⟨0, by omega, by omega, rfl, by simpa [chainT] using st⟩
  case round =>
    obtain ⟨j, hj, rfl, rfl, st'⟩ := hrel
    clear st
    have st := st'
    clear st'
    (try simp only [nsl, Value.cells, unB] at st)
    (try clear hc); have hc := st.facts; (try simp only [nfl, nft, Nat.reduceAdd] at hc)
    by_cases hjn : j < n
    · obtain ⟨b, off, ha, hcell⟩ := H.out.step (by omega)
      have hjl : j < l.length := by have := HNL.out; omega
      have hmem : l[j] ∈ l := List.getElem_mem hjl
      have HT1 := Lib.hid (HRT.out _ hmem)
      have HT2 := Lib.hid (HFT.out _ hmem)
      have HT0 := Lib.hid (HI.out j hjn)
      obtain ⟨r0, r1, r2, r3, r4, r5, r6, r7, r8, r9, r10, r11⟩ := hcell j l[j] (List.getElem?_eq_getElem hjl)
      replace r0 := st.oldCell (i := 0) get0 r0
      replace r1 := st.oldCell (i := 0) get0 r1
      replace r2 := st.oldCell (i := 0) get0 r2
      replace r3 := st.oldCell (i := 0) get0 r3
      replace r4 := st.oldCell (i := 0) get0 r4
      replace r5 := st.oldCell (i := 0) get0 r5
      replace r6 := st.oldCell (i := 0) get0 r6
      replace r7 := st.oldCell (i := 0) get0 r7
      replace r8 := st.oldCell (i := 0) get0 r8
      replace r9 := st.oldCell (i := 0) get0 r9
      replace r10 := st.oldCell (i := 0) get0 r10
      replace r11 := st.oldCell (i := 0) get0 r11
      have HTK : Hid (chainT it 0 (l.take (j + 1)) = chainT it 0 (l.take j) ++ lineT (it (j + 1)) l[j]) := Lib.hid (by rw [← List.take_append_getElem hjl, chainT_snoc, List.length_take, Nat.min_eq_left (by omega), Nat.zero_add])
      have HLE := Lib.hid (chainT_take_le it l (j + 1))
      clear hcell
      generalize l[j] = x at *
      generalize it (j + 1) = ti at *
      subst ha
      have HLT : Hid (lineT ti x = ti ++ [46, 32] ++ credTy x.c ++ [32, 45, 45, 32] ++ factT x.f ++ [10]) := Lib.hid rfl
      generalize credTy x.c = tc at *
      generalize factT x.f = tf at *
      unfold S at r1 r2 r3 r4 r5 r6 r7 r8 r9 r10 r11
      unfold cV S at HT1
      unfold fV S at HT2
      unfold S at HT0
      have hb : (chainT it 0 (l.take j)).length + (ti.length + tc.length + tf.length) + 7 ≤ 100000000 := by
        have e := HLE.out
        rw [HTK.out, HLT.out] at e
        simp only [List.length_append, List.length_cons, List.length_nil] at e
        have := HL.out
        omega
      have HW : Hid (IntKind.i64.wrap ((j : Int) + 1) = ((j + 1 : Nat) : Int)) := Lib.hid (by rw [IntKind.wrap_i64]; omega)
      generalize chainT it 0 (l.take j) = cj at *
      go_wp2_with ((first
            | ((with_reducible refine wl_alloc ?_ (fun K hK => ?_)); rfl; refine owp_alloc (o := ⟨some 3, _, _, _, _, _⟩) rfl st ?_; apply Exists.intro; apply Exists.intro; refine ⟨?_, ?_⟩; (focus (first | (go_simp; done) | (go_simp; rfl))); (clear st; intro b3 w hb st; clear hb))
            | ((with_reducible refine wl_alloc ?_ (fun K hK => ?_)); rfl; refine owp_alloc (o := ⟨some 5, _, _, _, _, _⟩) rfl st ?_; apply Exists.intro; apply Exists.intro; refine ⟨?_, ?_⟩; (focus (first | (go_simp; done) | (go_simp; rfl))); (clear st; intro b5 w hb st; clear hb))
            | ((with_reducible refine wl_store ?_ (fun K hK => ?_)); rfl; refine owp_store rfl st ?_; apply Exists.intro; apply Exists.intro; refine ⟨?_, ?_, ?_⟩; (focus (go_simp; try rfl)); (focus (go_simp; try rfl)); (first | (with_reducible refine ⟨0, _, _, _, _, get0, rfl, rfl, ?_, ?_, ?_, ?_⟩) | (with_reducible refine ⟨1, _, _, _, _, get1, rfl, rfl, ?_, ?_, ?_, ?_⟩) | (with_reducible refine ⟨2, _, _, _, _, get2, rfl, rfl, ?_, ?_, ?_, ?_⟩) | (with_reducible refine ⟨3, _, _, _, _, get3, rfl, rfl, ?_, ?_, ?_, ?_⟩) | (with_reducible refine ⟨4, _, _, _, _, get4, rfl, rfl, ?_, ?_, ?_, ?_⟩) | (with_reducible refine ⟨5, _, _, _, _, get5, rfl, rfl, ?_, ?_, ?_, ?_⟩)); (kernel_rfl); (simp [Value.cells]); (rfl); (clear st; intro w st))); (try simp only [nsl, Value.cells, unB] at st); (try clear hc); have hc := st.facts; (try simp only [nfl, nft, Nat.reduceAdd] at hc))
      refine Rg4.wp_region4 (Rel := Ext) #[0, 1, 3, 7, 0, 16, 55, 127, 255, 0, 512, 1655, 4095, 8191, 16383]
        [(2, .val (.string ⟨ti.toArray⟩)), (6, .val (.string ⟨tc.toArray⟩)), (11, .val (.string ⟨tf.toArray⟩))] [14] [5, 10] (fun _ => True) [0, 1, 2, 3, 4, 5, 6, 7, 8, 9, 10, 11, 12, 13, 14] (by kernel_rfl) (by kernel_rfl) (by kernel_rfl) (by kernel_rfl) Ext.refl (fun _ _ _ => Ext.trans) (show Rg4.PB _ by repeat (first | with_reducible exact Rg4.pb_body | with_reducible exact Rg4.pb_bodyD rfl | with_reducible refine Rg4.pb_then ?_ | with_reducible refine Rg4.pb_inBlock ?_ | with_reducible refine Rg4.pb_noGoto ?_ | with_reducible assumption)) (trivial) ?_
      replace st := st.drew
      change Rg4.wp4 _ _ _ _ _ _ _ _ _ (World.drew _) _ _
      generalize World.drew _ = w at st ⊢
      (try clear hc); have hc := st.facts; (try simp only [nfl, nft, Nat.reduceAdd] at hc)
      iterate 2 (refine Rg4.w4_any (Rg4.want_none rfl) rfl ?_; apply Exists.intro; refine ⟨fun w' => ?_, ?_⟩; (focus (first | (go_simp; done) | (go_simp; first | rfl | (rw [if_neg] <;> first | rfl | omega) | (rw [if_pos] <;> first | rfl | omega)))); (try simp only [Rg4.nrm]))
      refine Rg4.w4_some (Rg4.want_none rfl) rfl (fun w' hw' hcl' _ => ?_) ?_
      · refine Rg.relAt_call (by go_simp; exact ⟨rfl, rfl⟩) ?_
        rw [HW.out]
        refine (HT0.out _ (HIW.out _ (st.ext hw').ext0)).mono ?_
        rintro en w'' ⟨rfl, hx⟩
        exact ⟨_, rfl, hx, trivial, rfl⟩
      rintro v ⟨_, _, _, rfl⟩
      (try simp only [Rg4.nrm])
      iterate 2 (refine Rg4.w4_any (Rg4.want_none rfl) rfl ?_; apply Exists.intro; refine ⟨fun w' => ?_, ?_⟩; (focus (first | (go_simp; done) | (go_simp; first | rfl | (rw [if_neg] <;> first | rfl | omega) | (rw [if_pos] <;> first | rfl | omega)))); (try simp only [Rg4.nrm]))
      (refine Rg4.w4_read (Rg4.want_none rfl) rfl rfl ?_; apply Exists.intro; refine ⟨fun w' hw' hcl' => ?_, ?_⟩; focus (have st' := st.ext hw'; have hc' := st'.facts; (try simp only [nfl, nft, Nat.reduceAdd] at hc'); (focus (first | (go_simp; done) | (go_simp; first | rfl | (rw [if_neg] <;> first | rfl | omega) | (rw [if_pos] <;> first | rfl | omega))))); (try simp only [Rg4.nrm]))
      refine Rg4.w4_some (Rg4.want_none rfl) rfl (fun w' hw' hcl' _ => ?_) ?_
      · refine Rg.relAt_call (by go_simp; exact ⟨rfl, rfl⟩) ?_
        refine (HT1.out _).mono ?_
        rintro en w'' ⟨rfl, hx⟩
        exact ⟨_, rfl, hx, trivial, rfl⟩
      rintro v ⟨_, _, _, rfl⟩
      (try simp only [Rg4.nrm])
      iterate 3 (refine Rg4.w4_any (Rg4.want_none rfl) rfl ?_; apply Exists.intro; refine ⟨fun w' => ?_, ?_⟩; (focus (first | (go_simp; done) | (go_simp; first | rfl | (rw [if_neg] <;> first | rfl | omega) | (rw [if_pos] <;> first | rfl | omega)))); (try simp only [Rg4.nrm]))
      (refine Rg4.w4_read (Rg4.want_none rfl) rfl rfl ?_; apply Exists.intro; refine ⟨fun w' hw' hcl' => ?_, ?_⟩; focus (have st' := st.ext hw'; have hc' := st'.facts; (try simp only [nfl, nft, Nat.reduceAdd] at hc'); (focus (first | (go_simp; done) | (go_simp; first | rfl | (rw [if_neg] <;> first | rfl | omega) | (rw [if_pos] <;> first | rfl | omega))))); (try simp only [Rg4.nrm]))
      refine Rg4.w4_some (Rg4.want_none rfl) rfl (fun w' hw' hcl' _ => ?_) ?_
      · refine Rg.relAt_call (by go_simp; exact ⟨rfl, rfl⟩) ?_
        refine (HT2.out _).mono ?_
        rintro en w'' ⟨rfl, hx⟩
        exact ⟨_, rfl, hx, trivial, rfl⟩
      rintro v ⟨_, _, _, rfl⟩
      (try simp only [Rg4.nrm])
      iterate 2 (refine Rg4.w4_any (Rg4.want_none rfl) rfl ?_; apply Exists.intro; refine ⟨fun w' => ?_, ?_⟩; (focus (first | (go_simp; done) | (go_simp; first | rfl | (rw [if_neg] <;> first | rfl | omega) | (rw [if_pos] <;> first | rfl | omega)))); (try simp only [Rg4.nrm]))
      refine Rg4.w4_bar (Rg4.want_none rfl) rfl (fun w' hw' hcl _ K hK => ?_)
      replace st := st.ext hw'
      clear hw'
      (try clear hc); have hc := st.facts; (try simp only [nfl, nft, Nat.reduceAdd] at hc)
      go_wp2_with fail
      have e : (({ data := ti.toArray } ++ { data := #[46, 32] } ++ { data := tc.toArray } ++ { data := #[32, 45, 45, 32] } ++ { data := tf.toArray } ++ { data := #[10] } : ByteArray)) = ⟨(lineT ti x).toArray⟩ := by
        rw [HLT.out]; simp [ba_append]
      rw [e]
      refine (bldWrite st get1 (lineT ti x) (by rw [HLT.out]; simp only [List.length_append, List.length_cons, List.length_nil]; omega)).mono ?_
      clear st
      rintro en w'' ⟨rfl, st⟩
      simp only [List.set] at st
      refine hK _ _ ⟨trivial, ?_⟩
      clear hK
      (try simp only [Rg4.nrm])
      refine Rg4.w4_nil (fun w' hw' hcl' _ => ?_); replace st := st.ext hw'; clear hw' hcl'; (try clear hc); have hc := st.facts; (try simp only [nfl, nft, Nat.reduceAdd] at hc)
      go_wp2_with fail
      have st' := st.keep [0, 1] (by decide) (by simp)
      go_roundg (n - (j + 1))
      case measure => omega
      case rel => exact ⟨j + 1, by omega, by omega, by go_num, by rw [HTK.out]; simpa [pick] using st'⟩
    · obtain rfl : j = n := by omega
      rw [List.take_of_length_le (by have := HNL.out; omega)] at st
      go_wp2_with fail
      refine (bldString st (i := 1) get1).mono ?_
      rintro en w'' ⟨rfl, hx⟩
      go_wp2_with fail
      go_ret
      exact ⟨rfl, hx⟩
theorem chain_any (a : Option Addr) (n c : Nat) (l : List StepT) (it : Nat → List UInt8) (W : World) (h : Fl W a n l) (hn : n ≤ 1000000)
    (hI : ∀ i, i < n → ∀ w, Calls Tryz.prog 15 #[.int .i64 ((i + 1 : Nat) : Int)] w fun e w' => e = .returned (S (it (i + 1))) ∧ Ext w w')
    (hc : ∀ x ∈ l, CredL 100000 x.c ∧ x.f.r.1.length + x.f.r.2.length + x.f.w.length ≤ 1000000000) (hl : (chainT it 0 l).length ≤ 100000000) :
    Calls Tryz.prog 6 #[.slice a n c] W fun e w' => e = .returned (S (chainT it 0 l)) ∧ Ext W w' :=
  chain_anyI (fun _ => True) (fun _ _ _ _ => trivial) a n c l it W trivial h hn (fun i hi w _ => hI i hi w) hc hl
end Go.Proofs.YthjibbakjbbniaaGreatDoor

namespace Go.Proofs.YthjibbakjbbniaaGreatDoor
set_option linter.unusedSimpArgs false
set_option linter.unusedVariables false
open Go Go.RowKit
def strI (b : Nat) (s : ByteArray) (pos : Nat) : It where
  P e _ w := e b ∧ w.heap[b]? = some (.stringIter s pos)
  st := fun ⟨h1, h2⟩ hag => ⟨h1, by rw [hag b (.inl h1)]; exact h2⟩
  facts _ := True
  ok := fun _ => trivial
section
variable {fr al : Nat → Prop} {w0 w w' : World} {L : List It} {P : Program} {o : Oper} {a : Act} {K : Act → World → Prop} {Q : Exit → Act → World → Prop}
theorem wl_rangeS {ops : Array Oper} {rest : List Oper} {d : Option Tmp} {T : TypeId} {x : Operand} {ty : TypeId} {pos : String} {af : Array Edge} {gd : Option (Nat × Bool)} (hg : Region.wanted ⟨d, .range T x, ty, pos, af, gd⟩ (yielded ops a.tmps) = true)
    (h : ∀ K : Act → World → Prop, (∀ a w, wpList P ops Q rest a w → K a w) → Oper.wp P ⟨d, .range T x, ty, pos, af, gd⟩ a w K Q) : wpList P ops Q (⟨d, .range T x, ty, pos, af, gd⟩ :: rest) a w := wpl_at hg h
theorem wl_nextS {ops : Array Oper} {rest : List Oper} {d : Option Tmp} {x : Operand} {b : Bool} {ty : TypeId} {pos : String} {af : Array Edge} {gd : Option (Nat × Bool)} (hg : Region.wanted ⟨d, .next x b, ty, pos, af, gd⟩ (yielded ops a.tmps) = true)
    (h : ∀ K : Act → World → Prop, (∀ a w, wpList P ops Q rest a w → K a w) → Oper.wp P ⟨d, .next x b, ty, pos, af, gd⟩ a w K Q) : wpList P ops Q (⟨d, .next x b, ty, pos, af, gd⟩ :: rest) a w := wpl_at hg h
theorem owp_rangeS {t : TypeId} {x : Operand} (ho : o.op = .range t x) (st : Own fr al w0 L w) {s : ByteArray} (ht : P.underlying t = some .string) (hx : a.eval x = .string s)
    (h : ∀ b w', w.heap.size ≤ b → Own fr al w0 (L ++ [strI b s 0]) w' → K (a.put o.dst (.pointer (some ⟨b, 0, none⟩))) w') : o.wp P a w K Q := by
  refine owp_run (v := .pointer (some ⟨w.heap.size, 0, none⟩)) (w' := w.alloc (.stringIter s 0)) ?_ (h _ _ (Nat.le_refl _) ?_)
  · unfold execOp
    simp only [ho, hx, Sem.run_bind, run_range_string w t s ht, Result.andThen, Sem.run_pure]
    rfl
  · refine st.new (I := strI w.heap.size s 0) (e' := fun k => k = w.heap.size) (s' := fun _ => False) (Ext.new w _) ⟨rfl, by show (w.heap.push _)[_]? = _; simp⟩ ?_ (fun _ q => q.elim) (fun _ _ q => q)
    rintro b rfl
    exact ⟨by show _ < (w.heap.push _).size; simp, Nat.le_refl _⟩
theorem owp_nextS {x : Operand} (ho : o.op = .next x true) (st : Own fr al w0 L w) (i : Nat) {b pos : Nat} {s : ByteArray} (hi : L[i]? = some (strI b s pos)) (hx : a.eval x = .pointer (some ⟨b, 0, none⟩))
    (h0 : ¬ pos < s.size → K (a.put o.dst (.tuple #[.bool false])) w)
    (h1 : pos < s.size → ∀ w', Own fr al w0 (L.set i (strI b s (pos + (Utf8.decode s pos).2))) w' → K (a.put o.dst (.tuple #[.bool true, .int .i64 (pos : Int), .int .i32 ((Utf8.decode s pos).1 : Int)])) w') : o.wp P a w K Q := by
  obtain ⟨e, sh, ⟨q1, q2⟩, hlo, _⟩ := st.get hi
  by_cases hp : pos < s.size
  · have hbl : b < w.heap.size := (Array.getElem?_eq_some_iff.1 q2).1
    refine owp_run (v := .tuple #[.bool true, .int .i64 (pos : Int), .int .i32 ((Utf8.decode s pos).1 : Int)]) (w' := { w with heap := w.heap.setIfInBounds b (.stringIter s (pos + (Utf8.decode s pos).2)) }) ?_ (h1 hp _ ?_)
    · unfold execOp
      simp only [ho, hx, Instr.next, getObj, setObj, Sem.run_bind, Sem.run, q2, Result.andThen, hp, if_true]
      simp [goInt, Sem.run, q2]
    · refine st.upd hi fun e sh ⟨k1, k2⟩ k3 k4 => ⟨e, sh, ⟨k1, by simp [hbl]⟩, fun q hq => ⟨by simpa using k3 q (.inl hq), .inl hq⟩, fun q hq => ⟨by simpa using k3 q (.inr hq), .inr (.inl hq)⟩, k4, ?_⟩
      refine ⟨rfl, rfl, rfl, by simp, Nat.le_refl _, fun j hj hne => ?_⟩
      have : b ≠ j := fun q => hne (q ▸ k1)
      simp [Array.getElem?_setIfInBounds_ne this]
  · refine owp_run (v := .tuple #[.bool false]) (w' := w) ?_ (h0 hp)
    unfold execOp
    simp [ho, hx, Instr.next, getObj, Sem.run_bind, Sem.run, q2, Result.andThen, hp]
theorem owp_nextS0 {x : Operand} (ho : o.op = .next x true) (st : Own fr al w0 L w) (i : Nat) {b pos : Nat} {s : ByteArray} (hi : L[i]? = some (strI b s pos)) (hx : a.eval x = .pointer (some ⟨b, 0, none⟩)) (hp : ¬ pos < s.size)
    (h0 : K (a.put o.dst (.tuple #[.bool false])) w) : o.wp P a w K Q := owp_nextS ho st i hi hx (fun _ => h0) (fun q => absurd q hp)
theorem owp_nextS1 {x : Operand} (ho : o.op = .next x true) (st : Own fr al w0 L w) (i : Nat) {b pos : Nat} {s : ByteArray} (c k : Nat) (hi : L[i]? = some (strI b s pos)) (hx : a.eval x = .pointer (some ⟨b, 0, none⟩)) (hp : pos < s.size) (hd : Utf8.decode s pos = (c, k))
    (h1 : ∀ w', Own fr al w0 (L.set i (strI b s (pos + k))) w' → K (a.put o.dst (.tuple #[.bool true, .int .i64 (pos : Int), .int .i32 (c : Int)])) w') : o.wp P a w K Q :=
  owp_nextS ho st i hi hx (fun q => absurd hp q) (fun _ w' st => by rw [hd] at st ⊢; exact h1 w' st)
end
def decF (b0 y1 y2 y3 : Nat) (x1 x2 x3 : Bool) : Nat × Nat :=
  if b0 < 0x80 then (b0, 1)
  else if b0 / 32 == 6 && x1 then
    if (b0 % 32) * 64 + y1 % 64 ≥ 0x80 then ((b0 % 32) * 64 + y1 % 64, 2) else (0xFFFD, 1)
  else if b0 / 16 == 14 && x1 && x2 then
    if (b0 % 16) * 4096 + (y1 % 64) * 64 + y2 % 64 ≥ 0x800 && Utf8.valid ((b0 % 16) * 4096 + (y1 % 64) * 64 + y2 % 64 : Nat) then ((b0 % 16) * 4096 + (y1 % 64) * 64 + y2 % 64, 3) else (0xFFFD, 1)
  else if b0 / 8 == 30 && x1 && x2 && x3 then
    if (b0 % 8) * 262144 + (y1 % 64) * 4096 + (y2 % 64) * 64 + y3 % 64 ≥ 0x10000 && Utf8.valid ((b0 % 8) * 262144 + (y1 % 64) * 4096 + (y2 % 64) * 64 + y3 % 64 : Nat) then ((b0 % 8) * 262144 + (y1 % 64) * 4096 + (y2 % 64) * 64 + y3 % 64, 4) else (0xFFFD, 1)
  else (0xFFFD, 1)
theorem decode_eq (s : ByteArray) (i : Nat) : Utf8.decode s i = decF (s.get! (i + 0)).toNat (s.get! (i + 1)).toNat (s.get! (i + 2)).toNat (s.get! (i + 3)).toNat
    (i + 1 < s.size && (s.get! (i + 1)).toNat / 64 == 2) (i + 2 < s.size && (s.get! (i + 2)).toNat / 64 == 2) (i + 3 < s.size && (s.get! (i + 3)).toNat / 64 == 2) := by
  unfold Utf8.decode decF
  rfl
theorem decF_nl (b0 y1 y2 y3 : Nat) (x1 x2 x3 : Bool) : ((decF b0 y1 y2 y3 x1 x2 x3).1 = 10 ↔ b0 = 10) ∧ 1 ≤ (decF b0 y1 y2 y3 x1 x2 x3).2 ∧ (1 < (decF b0 y1 y2 y3 x1 x2 x3).2 → x1 = true) ∧ (2 < (decF b0 y1 y2 y3 x1 x2 x3).2 → x2 = true) ∧ (3 < (decF b0 y1 y2 y3 x1 x2 x3).2 → x3 = true) ∧ (decF b0 y1 y2 y3 x1 x2 x3).2 ≤ 4 := by
  unfold decF
  by_cases h0 : b0 < 0x80
  · rw [if_pos h0]
    exact ⟨Iff.rfl, by simp, by simp, by simp, by simp, by simp⟩
  · rw [if_neg h0]
    have hb : ¬ b0 = 10 := by omega
    have hr : (((0xFFFD, 1) : Nat × Nat).1 = 10 ↔ b0 = 10) ∧ 1 ≤ ((0xFFFD, 1) : Nat × Nat).2 ∧ (1 < ((0xFFFD, 1) : Nat × Nat).2 → x1 = true) ∧ (2 < ((0xFFFD, 1) : Nat × Nat).2 → x2 = true) ∧ (3 < ((0xFFFD, 1) : Nat × Nat).2 → x3 = true) ∧ ((0xFFFD, 1) : Nat × Nat).2 ≤ 4 :=
      ⟨⟨fun q => absurd q (by decide), fun q => absurd q hb⟩, by simp, by simp, by simp, by simp, by simp⟩
    split
    · rename_i h1
      simp only [Bool.and_eq_true] at h1
      split
      · exact ⟨⟨fun q => by simp only at q; omega, fun q => absurd q hb⟩, by simp, fun _ => h1.2, by simp, by simp, by simp⟩
      · exact hr
    · split
      · rename_i h1
        simp only [Bool.and_eq_true] at h1
        split
        · rename_i h2
          simp only [Bool.and_eq_true, decide_eq_true_eq] at h2
          exact ⟨⟨fun q => by simp only at q; omega, fun q => absurd q hb⟩, by simp, fun _ => h1.1.2, fun _ => h1.2, by simp, by simp⟩
        · exact hr
      · split
        · rename_i h1
          simp only [Bool.and_eq_true] at h1
          split
          · rename_i h2
            simp only [Bool.and_eq_true, decide_eq_true_eq] at h2
            exact ⟨⟨fun q => by simp only at q; omega, fun q => absurd q hb⟩, by simp, fun _ => h1.1.1.2, fun _ => h1.1.2, fun _ => h1.2, by simp⟩
          · exact hr
        · exact hr
/-- A rune is a newline just where a byte is, and no newline is passed over. -/
theorem decode_nl (l : List UInt8) (pos : Nat) (h : pos < l.length) :
    1 ≤ (Utf8.decode ⟨l.toArray⟩ pos).2 ∧ pos + (Utf8.decode ⟨l.toArray⟩ pos).2 ≤ l.length ∧ ((Utf8.decode ⟨l.toArray⟩ pos).1 = 10 ↔ l[pos] = 10) ∧ ∀ j, 1 ≤ j → j < (Utf8.decode ⟨l.toArray⟩ pos).2 → l[pos + j]? ≠ some 10 := by
  have hg : ∀ k, (h : pos + k < l.length) → (ByteArray.get! ⟨l.toArray⟩ (pos + k)) = l[pos + k] := by
    intro k hk
    simp [ByteArray.get!, hk]
  have hc : ∀ k, (decide (pos + k < (⟨l.toArray⟩ : ByteArray).size) && (ByteArray.get! ⟨l.toArray⟩ (pos + k)).toNat / 64 == 2) = true → pos + k < l.length ∧ l[pos + k]? ≠ some 10 := by
    intro k hk
    simp only [Bool.and_eq_true, decide_eq_true_eq, beq_iff_eq] at hk
    have hk1 : pos + k < l.length := by have := hk.1; simpa [ByteArray.size] using this
    refine ⟨hk1, fun q => ?_⟩
    rw [List.getElem?_eq_getElem hk1] at q
    injection q with q
    rw [hg k hk1, q] at hk
    exact absurd hk.2 (by decide)
  have hb : (ByteArray.get! ⟨l.toArray⟩ (pos + 0)).toNat = 10 ↔ l[pos] = 10 := by
    rw [hg 0 h]
    simp only [Nat.add_zero]
    exact ⟨fun q => UInt8.toNat_inj.1 q, fun q => by rw [q]; rfl⟩
  obtain ⟨k1, k2, k3, k4, k5, k6⟩ := decF_nl (ByteArray.get! ⟨l.toArray⟩ (pos + 0)).toNat (ByteArray.get! ⟨l.toArray⟩ (pos + 1)).toNat (ByteArray.get! ⟨l.toArray⟩ (pos + 2)).toNat (ByteArray.get! ⟨l.toArray⟩ (pos + 3)).toNat
    (pos + 1 < (⟨l.toArray⟩ : ByteArray).size && (ByteArray.get! ⟨l.toArray⟩ (pos + 1)).toNat / 64 == 2) (pos + 2 < (⟨l.toArray⟩ : ByteArray).size && (ByteArray.get! ⟨l.toArray⟩ (pos + 2)).toNat / 64 == 2) (pos + 3 < (⟨l.toArray⟩ : ByteArray).size && (ByteArray.get! ⟨l.toArray⟩ (pos + 3)).toNat / 64 == 2)
  rw [← decode_eq] at k1 k2 k3 k4 k5 k6
  generalize Utf8.decode ⟨l.toArray⟩ pos = d at *
  have c1 := fun q => hc 1 (k3 q)
  have c2 := fun q => hc 2 (k4 q)
  have c3 := fun q => hc 3 (k5 q)
  clear hc hg k3 k4 k5
  refine ⟨k2, ?_, k1.trans hb, fun j h1 h2 => ?_⟩
  · rcases (by omega : d.2 = 1 ∨ d.2 = 2 ∨ d.2 = 3 ∨ d.2 = 4) with e | e | e | e
    · omega
    · have := (c1 (by omega)).1; omega
    · have := (c2 (by omega)).1; omega
    · have := (c3 (by omega)).1; omega
  · rcases (by omega : j = 1 ∨ j = 2 ∨ j = 3) with rfl | rfl | rfl
    · exact (c1 h2).2
    · exact (c2 h2).2
    · exact (c3 h2).2
/-- How many newlines. -/
def nls (l : List UInt8) : Nat := l.countP (· == 10)
theorem nls_step (l : List UInt8) (pos : Nat) (h : pos < l.length) : nls (l.take (pos + (Utf8.decode ⟨l.toArray⟩ pos).2)) = nls (l.take pos) + (if (Utf8.decode ⟨l.toArray⟩ pos).1 = 10 then 1 else 0) := by
  obtain ⟨h1, h2, h3, h4⟩ := decode_nl l pos h
  generalize (Utf8.decode ⟨l.toArray⟩ pos).2 = k at *
  have e : (if (Utf8.decode ⟨l.toArray⟩ pos).1 = 10 then 1 else 0) = (if l[pos] = 10 then 1 else 0 : Nat) := by simp only [h3]
  rw [e]
  clear e h3
  have key : ∀ m, m + 1 ≤ k → nls (l.take (pos + (m + 1))) = nls (l.take pos) + (if l[pos] = 10 then 1 else 0) := by
    intro m
    induction m with
    | zero =>
      intro _
      unfold nls
      rw [Nat.zero_add, ← List.take_append_getElem h, List.countP_append]
      simp [List.countP_cons]
    | succ m ih =>
      intro hm
      rw [← ih (by omega)]
      have hl : pos + (m + 1) < l.length := by omega
      unfold nls
      rw [show pos + (m + 1 + 1) = pos + (m + 1) + 1 by omega, ← List.take_append_getElem hl, List.countP_append]
      have := h4 (m + 1) (by omega) (by omega)
      rw [List.getElem?_eq_getElem hl] at this
      simp only [ne_eq, Option.some.injEq] at this
      simp [List.countP_cons, this]
  have := key (k - 1) (by omega)
  rw [show k - 1 + 1 = k by omega] at this
  exact this
end Go.Proofs.YthjibbakjbbniaaGreatDoor

namespace Go.Proofs.YthjibbakjbbniaaGreatDoor
set_option linter.unusedSimpArgs false
set_option linter.unusedVariables false
open Go Go.RowKit
section
variable {fr al : Nat → Prop} {w0 w : World} {L : List It} {α : Type} [Flt α]
end
section
variable {α : Type} (f : List UInt8 → Except Int (α × List UInt8))
end
end Go.Proofs.YthjibbakjbbniaaGreatDoor

namespace Go.Proofs.YthjibbakjbbniaaGreatDoor
set_option linter.unusedSimpArgs false
set_option linter.unusedVariables false
open Go Go.RowKit
def CLenS (x : CredT) : Prop := x.h.1.length ≤ 100000 ∧ x.h.2.length ≤ 100000 ∧ x.w.length ≤ 100000 ∧ x.b.1.length ≤ 100000 ∧ x.b.2.length ≤ 100000 ∧ x.c.1.length ≤ 100000 ∧ x.c.2.length ≤ 100000 ∧ x.e.length ≤ 100000
theorem CLenS.L {x : CredT} (h : CLenS x) : CredL 100000 x := by unfold CLenS at h; unfold CredL; omega
end Go.Proofs.YthjibbakjbbniaaGreatDoor

namespace Go.Proofs.YthjibbakjbbniaaGreatDoor
set_option linter.unusedSimpArgs false
set_option linter.unusedVariables false
open Go Go.RowKit
end Go.Proofs.YthjibbakjbbniaaGreatDoor

namespace Go.Proofs.YthjibbakjbbniaaGreatDoor
set_option linter.unusedSimpArgs false
set_option linter.unusedVariables false
open Go Go.RowKit
end Go.Proofs.YthjibbakjbbniaaGreatDoor

namespace Go.Proofs.YthjibbakjbbniaaGreatDoor
set_option linter.unusedSimpArgs false
set_option linter.unusedVariables false
open Go Go.RowKit
theorem Fl.pre {α : Type} [Flt α] {w : World} {a : Option Addr} {n : Nat} {xs : List α} (h : Fl w a n xs) (j : Nat) (hj : j ≤ n) : Fl w a j (xs.take j) := by
  refine ⟨by have := h.1; simp; omega, fun h0 => ?_⟩
  obtain ⟨b, off, e, hc⟩ := h.2 (by omega)
  refine ⟨b, off, e, fun i x hi => hc i x ?_⟩
  have hij : i < j := by
    have := (List.getElem?_eq_some_iff.1 hi).1
    simp at this; omega
  rwa [List.getElem?_take_of_lt hij] at hi
end Go.Proofs.YthjibbakjbbniaaGreatDoor

namespace Go.Proofs.YthjibbakjbbniaaGreatDoor
set_option linter.unusedSimpArgs false
set_option linter.unusedVariables false
open Go Go.RowKit
@[go_sem] theorem eqNilStep (a : Option Addr) (n c : Nat) (w : World) : (binOp .eql 22 (.slice a n c) (.slice none 0 0)).run Tryz.prog w = .ok (.bool a.isNone) w := by
  have h := run_equal_slice_nil w _ _ a n c Tryz.underlying22
  simp only [binOp]
  simp [h]
section
variable {fr al : Nat → Prop} {w0 w : World} {L : List It} {P : Program} {o : Oper} {a : Act} {K : Act → World → Prop} {Q : Exit → Act → World → Prop}
end
section
variable {fr al : Nat → Prop} {w0 w : World}
end
end Go.Proofs.YthjibbakjbbniaaGreatDoor

namespace Go.Proofs.YthjibbakjbbniaaGreatDoor
set_option linter.unusedSimpArgs false
set_option linter.unusedVariables false
open Go Go.RowKit
end Go.Proofs.YthjibbakjbbniaaGreatDoor

namespace Go.Proofs.YthjibbakjbbniaaGreatDoor
set_option linter.unusedSimpArgs false
set_option linter.unusedVariables false
open Go Go.RowKit
theorem Fl.from {α : Type} [Flt α] {w : World} {b off n : Nat} {xs : List α} (h : Fl w (some ⟨b, off, none⟩) n xs) (p : Nat) (hp : p ≤ n) : Fl w (some ⟨b, off + p * Flt.k α, none⟩) (n - p) (xs.drop p) := by
  have := h.part p (n - p) (by omega)
  rwa [List.take_of_length_le (by have := h.1; simp; omega)] at this
end Go.Proofs.YthjibbakjbbniaaGreatDoor

namespace Go.Proofs.YthjibbakjbbniaaGreatDoor
set_option linter.unusedSimpArgs false
set_option linter.unusedVariables false
open Go Go.RowKit
/-- One behind another. -/
def bd {α β : Type} (r : Except Int (α × List UInt8)) (f : α → List UInt8 → Except Int β) : Except Int β := match r with | .error e => .error e | .ok p => f p.1 p.2
end Go.Proofs.YthjibbakjbbniaaGreatDoor

namespace Go.Proofs.YthjibbakjbbniaaGreatDoor
set_option linter.unusedSimpArgs false
set_option linter.unusedVariables false
open Go Go.RowKit
set_option maxRecDepth 100000 in
set_option maxHeartbeats 1000000 in
theorem credGreat_any (a : Option Addr) (n c : Nat) (l : List CredT) (W : World) (h : Fl W a n l) (hw : weightC l ≤ 2000000000) :
    Calls Tryz.prog 13 #[.slice a n c] W fun e w' => e = .returned (.int .i64 (weightC l : Int)) ∧ Ext W w' := by
  have hnw : n ≤ 2000000000 := by have := weightC_len l; have := h.1; omega
  have H := Lib.hid h
  have HN := Lib.hid (And.intro h.1 hw)
  have st := Own.startOld W
  clear h hw
  (try simp only [nsl, Value.cells, unB] at st)
  (try clear hc); have hc := st.facts; (try simp only [nfl, nft, Nat.reduceAdd] at hc)
  go_enter Tryz.func13, Tryz.ntmps13
  go_wp2_with fail
  go_loopg [3, 8] n (fun k v i wr => ∃ (j q : Nat), j ≤ n ∧ k = n - j ∧ q ≤ 2000000000 ∧ Hid (q = weightC (l.take j)) ∧ i = .int .i64 (j : Int) ∧ v = .int .i64 (q : Int) ∧ Own (fun _ => False) (fun _ => True) W [oldI W] wr)
  case atStart => exact ⟨0, 0, by omega, by omega, by omega, Lib.hid (by simp [weightC]), rfl, rfl, st⟩
  case round =>
    obtain ⟨j, q, hj, rfl, hq, HQ, rfl, rfl, st'⟩ := hrel
    clear st hc
    have st := st'
    clear st'
    (try simp only [nsl, Value.cells, unB] at st)
    (try clear hc); have hc := st.facts; (try simp only [nfl, nft, Nat.reduceAdd] at hc)
    by_cases hjn : j < n
    · obtain ⟨b, off, ha, hcell⟩ := H.out.cred (by omega)
      have hjl : j < l.length := by have := HN.out.1; omega
      have hcc := hcell j l[j] (List.getElem?_eq_getElem hjl)
      obtain ⟨r0, r1, r2, r3, r4, r5, r6, r7, r8⟩ := hcc
      replace r0 := st.oldCell (i := 0) get0 r0
      replace r1 := st.oldCell (i := 0) get0 r1
      replace r2 := st.oldCell (i := 0) get0 r2
      replace r3 := st.oldCell (i := 0) get0 r3
      replace r4 := st.oldCell (i := 0) get0 r4
      replace r5 := st.oldCell (i := 0) get0 r5
      replace r6 := st.oldCell (i := 0) get0 r6
      replace r7 := st.oldCell (i := 0) get0 r7
      replace r8 := st.oldCell (i := 0) get0 r8
      have hts : l.take (j + 1) = l.take j ++ [l[j]] := (List.take_append_getElem hjl).symm
      have hw1 := weightC_take l (j + 1)
      rw [hts, weightC_snoc, ← HQ.out] at hw1
      have hw2 : q + wtC l[j] ≤ 2000000000 := by have := HN.out.2; omega
      have HX : Hid (q + wtC l[j] = weightC (l.take (j + 1))) := Lib.hid (by rw [hts, weightC_snoc, ← HQ.out])
      clear hcell hts hw1
      generalize l[j] = x at *
      clear hjl
      subst ha
      unfold S at r1 r2 r3 r4 r5 r6 r7 r8
      have hszz : ∀ s : List UInt8, (⟨s.toArray⟩ : ByteArray).size = s.length := fun s => by simp [ByteArray.size]
      have HW : Hid (wtC x = 20 + x.h.1.length + x.h.2.length + x.w.length + x.b.1.length + x.b.2.length + x.c.1.length + x.c.2.length + x.e.length) := Lib.hid rfl
      have hw3 : q + (20 + x.h.1.length + x.h.2.length + x.w.length + x.b.1.length + x.b.2.length + x.c.1.length + x.c.2.length + x.e.length) ≤ 2000000000 := by rw [← HW.out]; exact hw2
      clear hw2
      go_wp2_with ((first
            | ((with_reducible refine wl_alloc ?_ (fun K hK => ?_)); rfl; refine owp_alloc (o := ⟨some 5, _, _, _, _, _⟩) rfl st ?_; apply Exists.intro; apply Exists.intro; refine ⟨?_, ?_⟩; (focus (first | (go_simp; done) | (go_simp; rfl))); (clear st; intro b5 w hb st; clear hb))
            | ((with_reducible refine wl_store ?_ (fun K hK => ?_)); rfl; refine owp_store rfl st ?_; apply Exists.intro; apply Exists.intro; refine ⟨?_, ?_, ?_⟩; (focus (go_simp; try rfl)); (focus (go_simp; try rfl)); (first | (with_reducible refine ⟨0, _, _, _, _, get0, rfl, rfl, ?_, ?_, ?_, ?_⟩) | (with_reducible refine ⟨1, _, _, _, _, get1, rfl, rfl, ?_, ?_, ?_, ?_⟩) | (with_reducible refine ⟨2, _, _, _, _, get2, rfl, rfl, ?_, ?_, ?_, ?_⟩) | (with_reducible refine ⟨3, _, _, _, _, get3, rfl, rfl, ?_, ?_, ?_, ?_⟩) | (with_reducible refine ⟨4, _, _, _, _, get4, rfl, rfl, ?_, ?_, ?_, ?_⟩) | (with_reducible refine ⟨5, _, _, _, _, get5, rfl, rfl, ?_, ?_, ?_, ?_⟩)); (kernel_rfl); (simp [Value.cells]); (rfl); (clear st; intro w st))); (try simp only [nsl, Value.cells, unB] at st); (try clear hc); have hc := st.facts; (try simp only [nfl, nft, Nat.reduceAdd] at hc))
      have st' := st.keep [0] (by decide) (by simp)
      go_roundg (n - (j + 1))
      case measure => omega
      case rel => exact ⟨j + 1, q + (20 + x.h.1.length + x.h.2.length + x.w.length + x.b.1.length + x.b.2.length + x.c.1.length + x.c.2.length + x.e.length), by omega, rfl, hw3, by rw [← HW.out]; exact HX, by go_num, by go_num, by simpa [pick] using st'⟩
    · obtain rfl : j = n := by omega
      have htk : weightC l = q := by rw [HQ.out, List.take_of_length_le (by have := HN.out.1; omega)]
      have HE := Lib.hid htk
      clear htk
      go_wp2_with fail
      go_ret
      exact ⟨by rw [HE.out]; rfl, st.ext0⟩
end Go.Proofs.YthjibbakjbbniaaGreatDoor

namespace Go.Proofs.YthjibbakjbbniaaGreatDoor
set_option linter.unusedSimpArgs false
set_option linter.unusedVariables false
open Go Go.RowKit
end Go.Proofs.YthjibbakjbbniaaGreatDoor

namespace Go.Proofs.YthjibbakjbbniaaGreatDoor
set_option linter.unusedSimpArgs false
set_option linter.unusedVariables false
open Go Go.RowKit
def wtS (x : StepT) : Nat := wtC x.c + x.f.w.length + x.f.r.1.length + x.f.r.2.length
def weightS (l : List StepT) : Nat := (l.map wtS).sum
theorem weightS_cons (x : StepT) (l : List StepT) : weightS (x :: l) = wtS x + weightS l := by simp [weightS]
theorem weightS_take (l : List StepT) (j : Nat) (h : j < l.length) : weightS (l.take (j + 1)) = weightS (l.take j) + wtS l[j] := by
  rw [← List.take_append_getElem h]
  unfold weightS
  rw [List.map_append, List.sum_append]
  simp
theorem weightS_le : ∀ (l : List StepT) (j : Nat), weightS (l.take j) ≤ weightS l
  | [], j => by simp
  | x :: l, 0 => by simp [weightS]
  | x :: l, j + 1 => by have := weightS_le l j; rw [List.take_succ_cons, weightS_cons, weightS_cons]; omega
theorem weightS_len : ∀ (l : List StepT), 20 * l.length ≤ weightS l
  | [] => by simp
  | x :: l => by have := weightS_len l; rw [weightS_cons, List.length_cons]; unfold wtS wtC; omega
theorem weightS_mem : ∀ (l : List StepT) (x : StepT), x ∈ l → wtS x ≤ weightS l
  | [], x, h => by simp at h
  | y :: l, x, h => by
    rw [weightS_cons]
    rcases List.mem_cons.1 h with rfl | h
    · omega
    · have := weightS_mem l x h; omega
set_option maxRecDepth 100000 in
set_option maxHeartbeats 4000000 in
theorem stepGreat_any (a : Option Addr) (n c : Nat) (l : List StepT) (W : World) (h : Fl W a n l) (hw : weightS l ≤ 2000000000) :
    Calls Tryz.prog 5 #[.slice a n c] W fun e w' => e = .returned (.int .i64 (weightS l : Int)) ∧ Ext W w' := by
  have hnl : n ≤ 100000000 := by have := weightS_len l; have := h.1; omega
  have H := Lib.hid h
  have HN := Lib.hid h.1
  have HT := Lib.hid (weightS_le l)
  obtain ⟨wl, hwl⟩ : ∃ w, weightS l = w := ⟨_, rfl⟩
  rw [hwl] at HT hw ⊢
  have HWL := Lib.hid hwl
  have st := Own.startOld W
  clear h hwl
  (try simp only [nsl, Value.cells, unB] at st)
  (try clear hc); have hc := st.facts; (try simp only [nfl, nft, Nat.reduceAdd] at hc)
  go_enter Tryz.func5, Tryz.ntmps5
  go_wp2_with fail
  go_loopg [3, 8] n (fun k s i wr => ∃ (j q : Nat), j ≤ n ∧ k = n - j ∧ i = .int .i64 (j : Int) ∧ Hid (q = weightS (l.take j)) ∧ q ≤ wl ∧ s = .int .i64 (q : Int) ∧ Own (fun _ => False) (fun _ => True) W [oldI W] wr)
  case atStart => exact ⟨0, 0, by omega, by omega, rfl, Lib.hid (by simp [weightS]), by omega, rfl, st⟩
  case round =>
    obtain ⟨j, q, hj, rfl, rfl, HQ, hq, rfl, st'⟩ := hrel
    clear st hc
    have st := st'
    clear st'
    (try simp only [nsl, Value.cells, unB] at st)
    (try clear hc); have hc := st.facts; (try simp only [nfl, nft, Nat.reduceAdd] at hc)
    by_cases hjn : j < n
    · obtain ⟨b, off, ha, hcell⟩ := H.out.step (by omega)
      have hjl : j < l.length := by have := HN.out; omega
      obtain ⟨r0, r1, r2, r3, r4, r5, r6, r7, r8, r9, r10, r11⟩ := hcell j l[j] (List.getElem?_eq_getElem hjl)
      replace r0 := st.oldCell (i := 0) get0 r0
      replace r1 := st.oldCell (i := 0) get0 r1
      replace r2 := st.oldCell (i := 0) get0 r2
      replace r3 := st.oldCell (i := 0) get0 r3
      replace r4 := st.oldCell (i := 0) get0 r4
      replace r5 := st.oldCell (i := 0) get0 r5
      replace r6 := st.oldCell (i := 0) get0 r6
      replace r7 := st.oldCell (i := 0) get0 r7
      replace r8 := st.oldCell (i := 0) get0 r8
      replace r9 := st.oldCell (i := 0) get0 r9
      replace r10 := st.oldCell (i := 0) get0 r10
      replace r11 := st.oldCell (i := 0) get0 r11
      have hle := HT.out (j + 1)
      have HTK := Lib.hid (weightS_take l j hjl)
      have hq2 : q + wtS l[j] ≤ wl := by have := HTK.out; have := HQ.out; omega
      clear hcell hle
      generalize l[j] = x at *
      subst ha
      obtain ⟨cx, ⟨⟨ro, rd⟩, fw⟩⟩ := x
      have HWX : Hid (wtS ⟨cx, ⟨(ro, rd), fw⟩⟩ = wtC cx + fw.length + ro.length + rd.length) := Lib.hid rfl
      rw [HWX.out] at hq2 HTK
      have HCG := Lib.hid (fun a c W h => credGreat_any a 1 c [cx] W h (by simp [weightC]; omega))
      rw [show weightC [cx] = wtC cx from by simp [weightC]] at HCG
      obtain ⟨wc, hwc⟩ : ∃ w, wtC cx = w := ⟨_, rfl⟩
      rw [hwc] at HCG hq2 HTK
      clear hwc HWX
      have z1 : IntKind.i64.wrap ((wc : Int) + (fw.length : Int)) = (wc : Int) + (fw.length : Int) := IntWalk.i64_in _ ⟨by omega, by omega⟩
      have z2 : IntKind.i64.wrap ((wc : Int) + (fw.length : Int) + (ro.length : Int)) = (wc : Int) + (fw.length : Int) + (ro.length : Int) := IntWalk.i64_in _ ⟨by omega, by omega⟩
      have z3 : IntKind.i64.wrap ((wc : Int) + (fw.length : Int) + (ro.length : Int) + (rd.length : Int)) = (wc : Int) + (fw.length : Int) + (ro.length : Int) + (rd.length : Int) := IntWalk.i64_in _ ⟨by omega, by omega⟩
      have z4 : IntKind.i64.wrap ((q : Int) + ((wc : Int) + (fw.length : Int) + (ro.length : Int) + (rd.length : Int))) = (q : Int) + ((wc : Int) + (fw.length : Int) + (ro.length : Int) + (rd.length : Int)) := IntWalk.i64_in _ ⟨by omega, by omega⟩
      obtain ⟨k, ⟨ho, hd⟩, nw, ⟨bo, bd⟩, ⟨co, cd⟩, we⟩ := cx
      simp only at r0 r1 r2 r3 r4 r5 r6 r7 r8 r9 r10 r11
      unfold S at r1 r2 r3 r4 r5 r6 r7 r8 r9 r10 r11
      go_wp2_with ((first
            | ((with_reducible refine wl_alloc ?_ (fun K hK => ?_)); rfl; refine owp_alloc (o := ⟨some 5, _, _, _, _, _⟩) rfl st ?_; apply Exists.intro; apply Exists.intro; refine ⟨?_, ?_⟩; (focus (first | (go_simp; done) | (go_simp; rfl))); (clear st; intro b5 w hb st; clear hb))
            | ((with_reducible refine wl_store ?_ (fun K hK => ?_)); rfl; refine owp_store rfl st ?_; apply Exists.intro; apply Exists.intro; refine ⟨?_, ?_, ?_⟩; (focus (go_simp; try rfl)); (focus (go_simp; try rfl)); (with_reducible refine ⟨1, _, _, _, _, get1, rfl, rfl, ?_, ?_, ?_, ?_⟩); (kernel_rfl); (simp [Value.cells]); (rfl); (clear st; intro w st))); (try simp only [nsl, Value.cells, unB] at st); (try clear hc); have hc := st.facts; (try simp only [nfl, nft, Nat.reduceAdd] at hc))
      clear r0 r1 r2 r3 r4 r5 r6 r7 r8 r9 r10 r11
      refine Rg4.wp_region4_eq #[0, 0, 2, 6, 14, 0, 32, 96, 224, 510, 0, 1024, 3072, 7168, 15360, 32766, 0, 65536, 196608, 458752, 983040, 2097150, 4194303, 8388607] [3, 4] [] (fun W' => Blk W' b5 [.int .i64 k, .string ⟨ho.toArray⟩, .string ⟨hd.toArray⟩, .string ⟨nw.toArray⟩, .string ⟨bo.toArray⟩, .string ⟨bd.toArray⟩, .string ⟨co.toArray⟩, .string ⟨cd.toArray⟩, .string ⟨we.toArray⟩, .string ⟨ro.toArray⟩, .string ⟨rd.toArray⟩, .string ⟨fw.toArray⟩]) [0, 1, 2, 5, 6, 7, 8, 10, 11, 12, 13, 14, 16, 17, 18, 19, 20, 3, 4, 9, 15, 21, 22, 23] (by kernel_rfl) (by kernel_rfl) (by kernel_rfl) (by kernel_rfl) (show Rg4.PB _ by repeat (first | with_reducible exact Rg4.pb_body | with_reducible exact Rg4.pb_bodyD rfl | with_reducible refine Rg4.pb_then ?_ | with_reducible refine Rg4.pb_inBlock ?_ | with_reducible refine Rg4.pb_noGoto ?_ | with_reducible assumption)) (st.drew.blk (i := 1) get1) ?_
      replace st := st.drew
      change Rg4.wp4 _ _ _ _ _ _ _ _ _ (World.drew _) _ _
      generalize World.drew _ = w at st ⊢
      (try clear hc); have hc := st.facts; (try simp only [nfl, nft, Nat.reduceAdd] at hc)
      iterate 2 (refine Rg4.w4_any (Rg4.want_none rfl) rfl ?_; apply Exists.intro; refine ⟨fun w' => ?_, ?_⟩; (focus (first | (go_simp; done) | (go_simp; first | rfl | (rw [if_neg] <;> first | rfl | omega) | (rw [if_pos] <;> first | rfl | omega)))); (try simp only [Rg4.nrm]))
      (refine Rg4.w4_cl (Rg4.want_none rfl) rfl ?_; apply Exists.intro; refine ⟨fun w' hcl => ?_, ?_⟩; (focus (have q0 := Blk.cell hcl 0; have q1 := Blk.cell hcl 1; have q2 := Blk.cell hcl 2; have q3 := Blk.cell hcl 3; have q4 := Blk.cell hcl 4; have q5 := Blk.cell hcl 5; have q6 := Blk.cell hcl 6; have q7 := Blk.cell hcl 7; have q8 := Blk.cell hcl 8; have q9 := Blk.cell hcl 9; have q10 := Blk.cell hcl 10; have q11 := Blk.cell hcl 11; (try simp at q0 q1 q2 q3 q4 q5 q6 q7 q8 q9 q10 q11); (focus (first | (go_simp; done) | (go_simp; first | rfl | (rw [if_neg] <;> first | rfl | omega) | (rw [if_pos] <;> first | rfl | omega)))))); (try simp only [Rg4.nrm]))
      iterate 2 (refine Rg4.w4_any (Rg4.want_none rfl) rfl ?_; apply Exists.intro; refine ⟨fun w' => ?_, ?_⟩; (focus (first | (go_simp; done) | (go_simp; first | rfl | (rw [if_neg] <;> first | rfl | omega) | (rw [if_pos] <;> first | rfl | omega)))); (try simp only [Rg4.nrm]))
      (refine Rg4.w4_cl (Rg4.want_none rfl) rfl ?_; apply Exists.intro; refine ⟨fun w' hcl => ?_, ?_⟩; (focus (have q0 := Blk.cell hcl 0; have q1 := Blk.cell hcl 1; have q2 := Blk.cell hcl 2; have q3 := Blk.cell hcl 3; have q4 := Blk.cell hcl 4; have q5 := Blk.cell hcl 5; have q6 := Blk.cell hcl 6; have q7 := Blk.cell hcl 7; have q8 := Blk.cell hcl 8; have q9 := Blk.cell hcl 9; have q10 := Blk.cell hcl 10; have q11 := Blk.cell hcl 11; (try simp at q0 q1 q2 q3 q4 q5 q6 q7 q8 q9 q10 q11); (focus (first | (go_simp; done) | (go_simp; first | rfl | (rw [if_neg] <;> first | rfl | omega) | (rw [if_pos] <;> first | rfl | omega)))))); (try simp only [Rg4.nrm]))
      iterate 4 (refine Rg4.w4_any (Rg4.want_none rfl) rfl ?_; apply Exists.intro; refine ⟨fun w' => ?_, ?_⟩; (focus (first | (go_simp; done) | (go_simp; first | rfl | (rw [if_neg] <;> first | rfl | omega) | (rw [if_pos] <;> first | rfl | omega)))); (try simp only [Rg4.nrm]))
      (refine Rg4.w4_cl (Rg4.want_none rfl) rfl ?_; apply Exists.intro; refine ⟨fun w' hcl => ?_, ?_⟩; (focus (have q0 := Blk.cell hcl 0; have q1 := Blk.cell hcl 1; have q2 := Blk.cell hcl 2; have q3 := Blk.cell hcl 3; have q4 := Blk.cell hcl 4; have q5 := Blk.cell hcl 5; have q6 := Blk.cell hcl 6; have q7 := Blk.cell hcl 7; have q8 := Blk.cell hcl 8; have q9 := Blk.cell hcl 9; have q10 := Blk.cell hcl 10; have q11 := Blk.cell hcl 11; (try simp at q0 q1 q2 q3 q4 q5 q6 q7 q8 q9 q10 q11); (focus (first | (go_simp; done) | (go_simp; first | rfl | (rw [if_neg] <;> first | rfl | omega) | (rw [if_pos] <;> first | rfl | omega)))))); (try simp only [Rg4.nrm]))
      iterate 4 (refine Rg4.w4_any (Rg4.want_none rfl) rfl ?_; apply Exists.intro; refine ⟨fun w' => ?_, ?_⟩; (focus (first | (go_simp; done) | (go_simp; first | rfl | (rw [if_neg] <;> first | rfl | omega) | (rw [if_pos] <;> first | rfl | omega)))); (try simp only [Rg4.nrm]))
      (refine Rg4.w4_cl (Rg4.want_none rfl) rfl ?_; apply Exists.intro; refine ⟨fun w' hcl => ?_, ?_⟩; (focus (have q0 := Blk.cell hcl 0; have q1 := Blk.cell hcl 1; have q2 := Blk.cell hcl 2; have q3 := Blk.cell hcl 3; have q4 := Blk.cell hcl 4; have q5 := Blk.cell hcl 5; have q6 := Blk.cell hcl 6; have q7 := Blk.cell hcl 7; have q8 := Blk.cell hcl 8; have q9 := Blk.cell hcl 9; have q10 := Blk.cell hcl 10; have q11 := Blk.cell hcl 11; (try simp at q0 q1 q2 q3 q4 q5 q6 q7 q8 q9 q10 q11); (focus (first | (go_simp; done) | (go_simp; first | rfl | (rw [if_neg] <;> first | rfl | omega) | (rw [if_pos] <;> first | rfl | omega)))))); (try simp only [Rg4.nrm]))
      (refine Rg4.w4_any (Rg4.want_none rfl) rfl ?_; apply Exists.intro; refine ⟨fun w' => ?_, ?_⟩; (focus (first | (go_simp; done) | (go_simp; first | rfl | (rw [if_neg] <;> first | rfl | omega) | (rw [if_pos] <;> first | rfl | omega)))); (try simp only [Rg4.nrm]))
      (refine Rg4.w4_bar (Rg4.want_none rfl) rfl (fun w' hw' hcl' _ K hK => ?_); subst hw'; (refine owp_buildSlice (o := ⟨some 15, _, _, _, _, _⟩) rfl st ?_; apply Exists.intro; apply Exists.intro; apply Exists.intro; apply Exists.intro; refine ⟨?_, ?_⟩; (focus (go_simp; (first | done | exact ⟨⟨rfl, rfl⟩, rfl⟩ | rfl))); (clear st; intro b15 w hb st; clear hb); (try simp only [nsl, Value.cells, unB] at st); (try clear hc); have hc := st.facts; (try simp only [nfl, nft, Nat.reduceAdd] at hc)); refine hK _ _ ⟨st.blk (i := 1) get1, ?_⟩; (try simp only [Rg4.nrm]))
      refine Rg4.w4_bar (Rg4.want_none rfl) rfl (fun w' hw' hcl _ K hK => ?_)
      subst hw'
      go_wp2_with fail
      refine (HCG.out _ _ _ (fl_lit (α := CredT) (st.blk (i := 2) get2) [⟨k, (ho, hd), nw, (bo, bd), (co, cd), we⟩] rfl)).mono ?_
      rintro en w ⟨rfl, hx⟩
      replace st := st.ext hx
      clear hx
      (try clear hc); have hc := st.facts; (try simp only [nfl, nft, Nat.reduceAdd] at hc)
      refine hK _ _ ⟨st.blk (i := 1) get1, ?_⟩
      clear hK
      (try simp only [Rg4.nrm])
      iterate 5 (refine Rg4.w4_any (Rg4.want_none rfl) rfl ?_; apply Exists.intro; refine ⟨fun w' => ?_, ?_⟩; (focus (first | (go_simp; done) | (go_simp; first | rfl | (rw [if_neg] <;> first | rfl | omega) | (rw [if_pos] <;> first | rfl | omega)))); (try simp only [Rg4.nrm]))
      refine Rg4.w4_nil (fun w' hw' hcl' _ => ?_); subst hw'; clear hcl'
      go_wp2_with fail
      have st' := st.keep [0] (by decide) (by simp)
      go_roundg (n - (j + 1))
      case measure => omega
      case rel => exact ⟨j + 1, q + (wc + fw.length + ro.length + rd.length), by omega, by omega, by go_num, Lib.hid (by rw [HTK.out, HQ.out]), hq2, by go_num, by simpa [pick] using st'⟩
    · obtain rfl : j = n := by omega
      have hqw : q = wl := by
        have := HQ.out
        rw [List.take_of_length_le (by have := HN.out; omega), HWL.out] at this
        exact this
      subst hqw
      clear HT
      go_wp2_with fail
      go_ret
      exact ⟨rfl, st.ext0⟩
end Go.Proofs.YthjibbakjbbniaaGreatDoor

namespace Go.Proofs.YthjibbakjbbniaaGreatDoor
set_option linter.unusedSimpArgs false
set_option linter.unusedVariables false
open Go Go.RowKit
def NL (s : List UInt8) : Prop := ∀ y ∈ s, y ≠ 10
instance (s : List UInt8) : Decidable (NL s) := by unfold NL; exact inferInstance
theorem NL.app {a b : List UInt8} (h : NL a) (g : NL b) : NL (a ++ b) := fun y hy => by
  rcases List.mem_append.1 hy with q | q
  · exact h y q
  · exact g y q
theorem nls_app (a b : List UInt8) : nls (a ++ b) = nls a + nls b := by unfold nls; rw [List.countP_append]
theorem nls_zero {s : List UInt8} (h : NL s) : nls s = 0 := by
  unfold nls
  rw [List.countP_eq_zero]
  intro y hy
  have := h y hy
  simpa using this
theorem nameR_NL {s : List UInt8} (h : nameR s = true) : NL s := by
  cases s with
  | nil => intro y hy; simp at hy
  | cons c s =>
    unfold nameR at h
    simp only [Bool.and_eq_true, List.all_eq_true] at h
    intro y hy e
    have := h.2 y hy
    rw [e] at this
    revert this
    decide
theorem roleT_NL {r : Role} (h : roleR r = true) : NL (roleT r) := by
  unfold roleR at h
  rw [Bool.and_eq_true] at h
  unfold roleT
  exact ((nameR_NL h.1).app (by decide)).app (nameR_NL h.2)
theorem credTy_NL (x : CredT) : NL (credTy x) := by
  unfold credTy
  by_cases h : credR x = true
  · rw [if_pos h]
    unfold credR at h
    rw [Bool.and_eq_true] at h
    unfold credTx bodyT
    refine ((roleT_NL h.1).app (by decide)).app ?_
    have h := h.2
    by_cases k1 : x.k = 1
    · rw [if_pos k1] at h ⊢
      simp only [Bool.and_eq_true] at h
      exact nameR_NL h.1.1.1
    · rw [if_neg k1] at h ⊢
      simp only [Bool.and_eq_true] at h
      have hb := roleT_NL h.1.2
      by_cases k2 : x.k = 2
      · rw [if_pos k2]
        exact hb
      · rw [if_neg k2] at h ⊢
        by_cases k3 : x.k = 3
        · rw [if_pos k3] at h ⊢
          simp only [Bool.and_eq_true] at h
          exact (hb.app (by decide)).app (nameR_NL h.2.2)
        · rw [if_neg k3] at h ⊢
          simp only [Bool.and_eq_true] at h
          exact (hb.app (by decide)).app (roleT_NL h.2.1.2)
  · rw [if_neg h]
    intro y hy
    simp at hy
theorem factT_NL {x : FactT} (h : NL (x.w ++ x.r.1 ++ x.r.2)) : NL (factT x) := by
  have h1 : NL x.w := fun y hy => h y (by simp [hy])
  have h2 : NL x.r.1 := fun y hy => h y (by simp [hy])
  have h3 : NL x.r.2 := fun y hy => h y (by simp [hy])
  unfold factT roleT
  exact ((((h2.app (by decide)).app h3)).app (by decide)).app h1
def itN (i : Nat) : List UInt8 := Lib.itoa i
theorem itN_eq (i : Nat) : itN i = Lib.decDigits i := Lib.itoa_nonneg i
theorem nDigits_le (u : Nat) : Lib.nDigits u ≤ u + 1 := by
  induction u using Nat.strongRecOn with
  | _ u ih =>
    rw [Lib.nDigits]
    split
    · omega
    · have := ih (u / 10) (by omega)
      omega
theorem itN_len (i : Nat) : (itN i).length ≤ i + 1 := by rw [itN_eq, Lib.decDigits_length]; exact nDigits_le i
theorem itN_NL (i : Nat) : NL (itN i) := by
  rw [itN_eq, Lib.decDigits_eq]
  intro y hy e
  obtain ⟨t, _, rfl⟩ := List.mem_map.1 hy
  generalize hk : Lib.nDigits i - 1 - t = k at e
  unfold Lib.dg at e
  have := congrArg UInt8.toNat e
  simp at this
  omega
theorem lineT_nls (i : Nat) (x : StepT) (h : NL (x.f.w ++ x.f.r.1 ++ x.f.r.2)) : nls (lineT (itN i) x) = 1 := by
  unfold lineT
  rw [nls_app, nls_zero (((((itN_NL i).app (by decide)).app (credTy_NL x.c)).app (by decide)).app (factT_NL h))]
  decide
theorem chainT_nls : ∀ (l : List StepT) (k : Nat), (∀ x ∈ l, NL (x.f.w ++ x.f.r.1 ++ x.f.r.2)) → nls (chainT itN k l) = l.length
  | [], _, _ => rfl
  | x :: l, k, h => by
    rw [chainT, nls_app, lineT_nls _ _ (h x (by simp)), chainT_nls l (k + 1) (fun y hy => h y (by simp [hy])), List.length_cons, Nat.add_comm]
theorem credTy_len (x : CredT) : (credTy x).length ≤ 2 * wtC x := by
  unfold credTy
  split
  · unfold credTx bodyT roleT arrow ampS wtC
    simp only [List.length_append, List.length_cons, List.length_nil]
    split
    · omega
    · split
      · simp only [List.length_append, List.length_cons, List.length_nil]; omega
      · split
        · simp only [List.length_append, List.length_cons, List.length_nil]; omega
        · simp only [List.length_append, List.length_cons, List.length_nil]; omega
  · simp
theorem chainT_len : ∀ (l : List StepT) (k : Nat), (chainT itN k l).length ≤ 10 * weightS l + l.length * (k + l.length + 20)
  | [], _ => by simp [chainT]
  | x :: l, k => by
    have h1 := chainT_len l (k + 1)
    have h2 := credTy_len x.c
    have h3 := factT_len x.f
    have h4 := itN_len (k + 1)
    rw [chainT, List.length_append, weightS_cons, List.length_cons]
    have e : l.length * (k + 1 + l.length + 20) ≤ l.length * (k + (l.length + 1) + 20) := Nat.mul_le_mul_left _ (by omega)
    have e2 : (l.length + 1) * (k + (l.length + 1) + 20) = l.length * (k + (l.length + 1) + 20) + (k + (l.length + 1) + 20) := by rw [Nat.add_mul, Nat.one_mul]
    unfold lineT
    simp only [List.length_append, List.length_cons, List.length_nil]
    have : 2 * wtC x.c + x.f.r.1.length + x.f.r.2.length + x.f.w.length ≤ 2 * wtS x := by unfold wtS; omega
    omega
/-- The table that the row lists. -/
theorem tabIs_of_vars {W : World} {name : String} {k : IntKind} {zs : List Int} {rest : List (String × DataW Unit)} {ps : List MemPlace} {g : Nat} {t e : TypeId} {n : Nat}
    (hg : Tryz.prog.globalNamed name = some g) (hty : (Tryz.prog.globals[g]?).map (·.type) = some t) (ht : Tryz.prog.underlying t = some (.array n e)) (he : Tryz.prog.underlying e = some (.int k)) (hce : Tryz.prog.cellsOf e = 1) (hct : Tryz.prog.cellsOf t = n)
    (h : DataW.LaidVars Tryz.prog W ((name, Lib.tabData k zs) :: rest) ps) : Lib.TabIs Tryz.prog W name k zs := by
  obtain ⟨g', t', cs, fuel, p, q, hg', ht', hvar, hd, _, _⟩ := h
  obtain rfl := Option.some.inj (hg.symm.trans hg')
  obtain rfl := Option.some.inj (hty.symm.trans ht')
  unfold Lib.TabIs
  rw [hvar, ← Lib.cells_of_tab ht he hce hct hd]
def Tab (w : World) : Prop := Lib.TabIs Tryz.prog w "internal/strconv.uint64pow10" .u64 Lib.pow10Tab ∧ 1 < w.heap.size
theorem Tab.ext {w w' : World} (h : Tab w) (hx : Ext w w') : Tab w' := by
  have hg : Tryz.prog.globalNamed "internal/strconv.uint64pow10" = some 1 := by kernel_rfl
  refine ⟨?_, Nat.lt_of_lt_of_le h.2 hx.le⟩
  have h1 := h.1
  unfold Lib.TabIs World.var? at h1 ⊢
  rw [hg] at h1 ⊢
  simp only [Option.bind_some] at h1 ⊢
  rw [Below.block hx.bel _ h.2]
  exact h1
theorem ext_growN (w : World) (k : Nat) (os : Array Obj) : Ext w (Go.Sort.grow (w.drewN k) os) := by
  refine ⟨⟨rfl, rfl, rfl, ?_, fun j hj => ?_⟩, Nat.le_add_right _ _⟩
  · show w.heap.size ≤ (w.heap ++ os).size
    simp
  · show (w.heap ++ os)[j]? = _
    simp [Array.getElem?_append, hj]
theorem itoa_any (i : Nat) (hi : i ≤ 9000000000000000000) (w : World) (ht : Tab w) : Calls Tryz.prog 15 #[.int .i64 (i : Int)] w fun e w' => e = .returned (S (itN i)) ∧ Ext w w' := by
  refine (Tryz.strconv_Itoa i (by omega) (by omega) w ht.1).mono ?_
  rintro e w' ⟨rfl, k, os, rfl⟩
  exact ⟨rfl, ext_growN _ _ _⟩
end Go.Proofs.YthjibbakjbbniaaGreatDoor

namespace Go.Proofs.YthjibbakjbbniaaGreatDoor
set_option linter.unusedSimpArgs false
set_option linter.unusedVariables false
open Go Go.RowKit
def mapI (b : Nat) (es : List (List UInt8 × Value)) : It where
  P e _ w := e b ∧ ∃ (arr : Array MapEntry) (clock : Nat), w.heap[b]? = some (.map arr clock) ∧ arr.toList.map (fun m => (m.key, m.val)) = es.map fun p => (S p.1, p.2)
  st := fun ⟨h1, arr, clock, h2, h3⟩ hag => ⟨h1, arr, clock, by rw [hag b (.inl h1)]; exact h2, h3⟩
  facts _ := True
  ok := fun _ => trivial
section
variable {fr al : Nat → Prop} {w0 w w' : World} {L : List It} {P : Program} {o : Oper} {a : Act} {K : Act → World → Prop} {Q : Exit → Act → World → Prop}
theorem owp_makeMap {t : TypeId} (ho : o.op = .makeMap t none) (st : Own fr al w0 L w) (h : ∀ b w', w.heap.size ≤ b → Own fr al w0 (L ++ [mapI b []]) w' → K (a.put o.dst (.map (some b))) w') : o.wp P a w K Q := by
  refine owp_run (v := .map (some w.heap.size)) (w' := w.alloc (.map #[] 0)) ?_ (h _ _ (Nat.le_refl _) ?_)
  · unfold execOp
    simp only [ho]
    rfl
  · refine st.new (I := mapI w.heap.size []) (e' := fun k => k = w.heap.size) (s' := fun _ => False) (Ext.new w _) ⟨rfl, #[], 0, by show (w.heap.push _)[_]? = _; simp, rfl⟩ ?_ (fun _ q => q.elim) (fun _ _ q => q)
    rintro b rfl
    exact ⟨by show _ < (w.heap.push _).size; simp, Nat.le_refl _⟩
theorem wl_makeMap {ops : Array Oper} {rest : List Oper} {d : Option Tmp} {T : TypeId} {ty : TypeId} {pos : String} {af : Array Edge} {gd : Option (Nat × Bool)} (hg : Region.wanted ⟨d, .makeMap T none, ty, pos, af, gd⟩ (yielded ops a.tmps) = true)
    (h : ∀ K : Act → World → Prop, (∀ a w, wpList P ops Q rest a w → K a w) → Oper.wp P ⟨d, .makeMap T none, ty, pos, af, gd⟩ a w K Q) : wpList P ops Q (⟨d, .makeMap T none, ty, pos, af, gd⟩ :: rest) a w := wpl_at hg h
end
end Go.Proofs.YthjibbakjbbniaaGreatDoor

namespace Go.Proofs.YthjibbakjbbniaaGreatDoor
set_option linter.unusedSimpArgs false
set_option linter.unusedVariables false
open Go Go.RowKit
section
variable {κ : Type} [DecidableEq κ]
/-- What lies at a key. -/
def gGet (es : List (κ × Value)) (k : κ) : Option Value := (es.find? fun p => decide (k = p.1)).map (·.2)
theorem gGet_nil (k : κ) : gGet ([] : List (κ × Value)) k = none := rfl
/-- How keys lie, and that they are found. -/
structure Kc (P : Program) (κ : Type) [DecidableEq κ] where
  kt : TypeId
  enc : κ → Value
  find : ∀ (k : κ) (l : List MapEntry) (es : List (κ × Value)) (w : World), l.map (fun m => (m.key, m.val)) = es.map (fun p => (enc p.1, p.2)) → ∃ r, (Instr.findKey kt (enc k) l).run P w = .ok r w ∧ r.map (·.2) = gGet es k
  check : ∀ e k w, (Instr.checkKey e 10000 kt (enc k)).run P w = .ok () w
def mapG {P : Program} (c : Kc P κ) (b : Nat) (es : List (κ × Value)) : It where
  P e _ w := e b ∧ ∃ (arr : Array MapEntry) (clock : Nat), w.heap[b]? = some (.map arr clock) ∧ (arr.toList.map (fun m => (m.key, m.val)) = es.map fun p => (c.enc p.1, p.2)) ∧ (∀ x ∈ arr.toList, x.born < clock) ∧ (arr.toList.map fun m : MapEntry => m.born).Nodup
  st := fun ⟨h1, arr, clock, h2, h3⟩ hag => ⟨h1, arr, clock, by rw [hag b (.inl h1)]; exact h2, h3⟩
  facts _ := True
  ok := fun _ => trivial
/-- Keys that lie within one cell. -/
theorem find_now {P : Program} {kt : TypeId} {d : TypeDesc} {enc : κ → Value} (hk : P.underlying kt = some d) (hs : ∀ a b, Instr.sameNow d (enc a) (enc b) = some (decide (a = b))) (k : κ) (l : List MapEntry) (es : List (κ × Value)) (w : World) (h : l.map (fun m => (m.key, m.val)) = es.map (fun p => (enc p.1, p.2))) :
    ∃ r, (Instr.findKey kt (enc k) l).run P w = .ok r w ∧ r.map (·.2) = gGet es k := by
  have key : ∀ (l : List MapEntry) (es : List (κ × Value)) (i : Nat), l.map (fun m => (m.key, m.val)) = es.map (fun p => (enc p.1, p.2)) → ∃ r, Instr.findNow d (enc k) l i = some r ∧ r.map (·.2) = gGet es k := by
    intro l
    induction l with
    | nil =>
      intro es i h
      cases es with
      | nil => exact ⟨none, rfl, rfl⟩
      | cons p es => simp at h
    | cons m l ih =>
      intro es i h
      cases es with
      | nil => simp at h
      | cons p es =>
        simp only [List.map_cons, List.cons.injEq, Prod.mk.injEq] at h
        obtain ⟨⟨h1, h2⟩, h3⟩ := h
        unfold Instr.findNow
        rw [h1, hs]
        by_cases e : k = p.1
        · rw [decide_eq_true e]
          exact ⟨_, rfl, by simp [gGet, List.find?_cons, e, h2]⟩
        · rw [decide_eq_false e]
          obtain ⟨r, q1, q2⟩ := ih es (i + 1) h3
          refine ⟨r, q1, ?_⟩
          rw [q2]
          simp [gGet, List.find?_cons, e]
  obtain ⟨r, q1, q2⟩ := key l es 0 h
  exact ⟨r, MapKept.run_findKey hk q1, q2⟩
/-- Keys that are asked one by one. -/
theorem find_ask {P : Program} {kt : TypeId} {d : TypeDesc} {enc : κ → Value} (hk : P.underlying kt = some d) (hs : ∀ a b, Instr.sameNow d (enc a) (enc b) = none) (he : ∀ a b w, (Op.equal kt (enc a) (enc b)).run P w = .ok (decide (a = b)) w) (k : κ) (l : List MapEntry) (es : List (κ × Value)) (w : World) (h : l.map (fun m => (m.key, m.val)) = es.map (fun p => (enc p.1, p.2))) :
    ∃ r, (Instr.findKey kt (enc k) l).run P w = .ok r w ∧ r.map (·.2) = gGet es k := by
  have key : ∀ (l : List MapEntry) (es : List (κ × Value)) (i : Nat), l.map (fun m => (m.key, m.val)) = es.map (fun p => (enc p.1, p.2)) → ∃ r, (Instr.findAsking kt (enc k) l i).run P w = .ok r w ∧ r.map (·.2) = gGet es k := by
    intro l
    induction l with
    | nil =>
      intro es i h
      cases es with
      | nil => exact ⟨none, rfl, rfl⟩
      | cons p es => simp at h
    | cons m l ih =>
      intro es i h
      cases es with
      | nil => simp at h
      | cons p es =>
        simp only [List.map_cons, List.cons.injEq, Prod.mk.injEq] at h
        obtain ⟨⟨h1, h2⟩, h3⟩ := h
        by_cases e : k = p.1
        · refine ⟨some (i, m.val), ?_, by simp [gGet, List.find?_cons, e, h2]⟩
          simp [Instr.findAsking, Sem.run_bind, h1, he, Result.andThen, e]
        · obtain ⟨r, q1, q2⟩ := ih es (i + 1) h3
          refine ⟨r, ?_, by rw [q2]; simp [gGet, List.find?_cons, e]⟩
          simp [Instr.findAsking, Sem.run_bind, h1, he, Result.andThen, e, q1]
  cases l with
  | nil =>
    cases es with
    | nil => exact ⟨none, by simp [Instr.findKey, run_underlying hk, Result.andThen, Instr.findNow], rfl⟩
    | cons p es => simp at h
  | cons m l =>
    obtain ⟨r, q1, q2⟩ := key (m :: l) es 0 h
    refine ⟨r, ?_, q2⟩
    cases es with
    | nil => simp at h
    | cons p es =>
      have h1 : m.key = enc p.1 := by simp only [List.map_cons, List.cons.injEq, Prod.mk.injEq] at h; exact h.1.1
      simp [Instr.findKey, run_underlying hk, Result.andThen, Instr.findNow, h1, hs, q1]
variable {fr al : Nat → Prop} {w0 w w' : World} {L : List It} {P : Program} {o : Oper} {a : Act} {K : Act → World → Prop} {Q : Exit → Act → World → Prop}
theorem owp_makeMapG (c : Kc P κ) {t : TypeId} (ho : o.op = .makeMap t none) (st : Own fr al w0 L w) (h : ∀ b w', w.heap.size ≤ b → Own fr al w0 (L ++ [mapG c b []]) w' → K (a.put o.dst (.map (some b))) w') : o.wp P a w K Q := by
  refine owp_run (v := .map (some w.heap.size)) (w' := w.alloc (.map #[] 0)) ?_ (h _ _ (Nat.le_refl _) ?_)
  · unfold execOp
    simp only [ho]
    rfl
  · refine st.new (I := mapG c w.heap.size []) (e' := fun k => k = w.heap.size) (s' := fun _ => False) (Ext.new w _) ⟨rfl, #[], 0, by show (w.heap.push _)[_]? = _; simp, rfl, by simp, by simp⟩ ?_ (fun _ q => q.elim) (fun _ _ q => q)
    rintro b rfl
    exact ⟨by show _ < (w.heap.push _).size; simp, Nat.le_refl _⟩
/-- A look-up. -/
theorem Own.lookG {c : Kc P κ} (st : Own fr al w0 L w) {i b : Nat} {es : List (κ × Value)} (hi : L[i]? = some (mapG c b es)) {mty et : TypeId} {z : Value} (hm : P.underlying mty = some (.map c.kt et)) (hz : (zeroValue et).run P w = .ok z w) (k : κ) :
    (Instr.lookup mty (.map (some b)) (c.enc k) false).run P w = .ok ((gGet es k).getD z) w ∧ (Instr.lookup mty (.map (some b)) (c.enc k) true).run P w = .ok (.tuple #[(gGet es k).getD z, .bool (gGet es k).isSome]) w := by
  obtain ⟨e, s, ⟨_, arr, clock, h2, h3, h4, h5⟩, _⟩ := st.get hi
  obtain ⟨r, q1, q2⟩ := c.find k arr.toList es w h3
  have hc := fun e => c.check e k w
  rw [← q2]
  cases r with
  | none => constructor <;> simp [Instr.lookup, run_underlying hm, MapKept.run_getObj_map h2, hc, q1, hz, Result.andThen]
  | some p => constructor <;> simp [Instr.lookup, run_underlying hm, MapKept.run_getObj_map h2, hc, q1, Result.andThen]
/-- A look-up in a map that is nil. -/
theorem run_lookNil (c : Kc P κ) {mty et : TypeId} {z : Value} (hm : P.underlying mty = some (.map c.kt et)) (hz : (zeroValue et).run P w = .ok z w) (k : κ) :
    (Instr.lookup mty (.map none) (c.enc k) false).run P w = .ok z w := by
  have hc := fun e => c.check e k w
  obtain ⟨r, q1, q2⟩ := c.find k [] [] w rfl
  obtain rfl : r = none := by
    cases r with
    | none => rfl
    | some p => simp [gGet] at q2
  simp [Instr.lookup, run_underlying hm, hc, q1, hz, Result.andThen]
/-- A new key is stored. -/
theorem owp_mapNewG {c : Kc P κ} {t : TypeId} {x y z : Operand} (ho : o.op = .mapUpdate t x y z) (st : Own fr al w0 L w) (i : Nat) {b : Nat} {es : List (κ × Value)} {et : TypeId} (k : κ) {v : Value} (hi : L[i]? = some (mapG c b es)) (hm : P.underlying t = some (.map c.kt et))
    (hx : a.eval x = .map (some b)) (hy : a.eval y = c.enc k) (hz : a.eval z = v) (hn : gGet es k = none)
    (h : ∀ w', Own fr al w0 (L.set i (mapG c b (es ++ [(k, v)]))) w' → K (a.put o.dst undef) w') : o.wp P a w K Q := by
  obtain ⟨e, s, ⟨_, arr, clock, h2, h3, h4, h5⟩, _⟩ := st.get hi
  obtain ⟨r, q1, q2⟩ := c.find k arr.toList es w h3
  have hr : r = none := by
    rw [hn] at q2
    cases r with
    | none => rfl
    | some p => cases q2
  subst hr
  have hc := c.check false k w
  have hrun : (Instr.mapUpdate t (.map (some b)) (c.enc k) v).run P w = .ok () { w with heap := w.heap.setIfInBounds b (.map (arr.push { key := c.enc k, val := v, born := clock }) (clock + 1)) } := by
    simp [Instr.mapUpdate, run_underlying hm, MapKept.run_getObj_map h2, hc, q1, MapKept.run_setObj_map _ h2, Result.andThen]
  have hbl : b < w.heap.size := (Array.getElem?_eq_some_iff.1 h2).1
  unfold Oper.wp execOp
  simp only [ho, hx, hy, hz, Sem.run_bind, hrun, Result.andThen, Sem.run_pure]
  refine h _ (st.upd hi fun e s ⟨q1, arr', clock', q2, q3⟩ q4 q5 => ⟨e, s, ⟨q1, arr.push { key := c.enc k, val := v, born := clock }, clock + 1, by simp [hbl], ?_, ?_, ?_⟩, fun q hq => ⟨by simpa using q4 q (.inl hq), .inl hq⟩, fun q hq => ⟨by simpa using q4 q (.inr hq), .inr (.inl hq)⟩, q5, ?_⟩)
  · simp only [Array.toList_push, List.map_append, h3, List.map_cons, List.map_nil]
  · intro x hx
    rw [Array.toList_push] at hx
    rcases List.mem_append.1 hx with q | q
    · have := h4 x q; omega
    · rw [List.mem_singleton.1 q]; exact Nat.lt_succ_self _
  · rw [Array.toList_push, List.map_append, List.nodup_append]
    refine ⟨h5, by simp, fun a ha b' hb' e' => ?_⟩
    obtain ⟨x, hx, rfl⟩ := List.mem_map.1 ha
    have := h4 x hx
    simp at hb'
    omega
  · refine ⟨rfl, rfl, rfl, by simp, Nat.le_refl _, fun j hj hne => ?_⟩
    have : b ≠ j := fun q => hne (q ▸ q1)
    simp [Array.getElem?_setIfInBounds_ne this]
end
end Go.Proofs.YthjibbakjbbniaaGreatDoor

namespace Go.Proofs.YthjibbakjbbniaaGreatDoor
set_option linter.unusedSimpArgs false
set_option linter.unusedVariables false
open Go Go.RowKit
section
variable {κ : Type} [DecidableEq κ]
/-- A map and an iterator over it: what is still to come, in whatever order, and where it stands. -/
def mapIt {P : Program} (c : Kc P κ) (b r : Nat) (es left : List (κ × Value)) (cur : Option (κ × Value)) : It where
  P e _ w := e b ∧ e r ∧ b ≠ r ∧ ∃ (arr : Array MapEntry) (clock since c0 : Nat) (seen : Array Nat), w.heap[b]? = some (.map arr clock) ∧ w.heap[r]? = some (.mapIter (some b) since seen c0) ∧ arr.toList.map (fun m => (m.key, m.val)) = es.map (fun p => (c.enc p.1, p.2)) ∧
    (∀ x ∈ arr.toList, x.born < since) ∧ since ≤ c0 ∧ since ≤ clock ∧ (arr.toList.map fun m : MapEntry => m.born).Nodup ∧ ((arr.toList.filter fun m => !seen.contains m.born).map fun m => (m.key, m.val)) = left.map (fun p => (c.enc p.1, p.2)) ∧
    ∀ p, cur = some p → c0 = clock ∧ ∃ e ∈ arr.toList, seen.back? = some e.born ∧ e.key = c.enc p.1 ∧ e.val = p.2
  st := fun ⟨h1, h2, h3, arr, clock, since, c0, seen, h4, h5, h6⟩ hag => ⟨h1, h2, h3, arr, clock, since, c0, seen, by rw [hag b (.inl h1)]; exact h4, by rw [hag r (.inl h2)]; exact h5, h6⟩
  facts _ := True
  ok := fun _ => trivial
variable {fr al : Nat → Prop} {w0 w w' : World} {L : List It} {P : Program} {o : Oper} {a : Act} {K : Act → World → Prop} {Q : Exit → Act → World → Prop}
theorem owp_rangeG {c : Kc P κ} {t : TypeId} {x : Operand} (ho : o.op = .range t x) (st : Own fr al w0 L w) (i : Nat) {b : Nat} {es : List (κ × Value)} {et : TypeId} (hi : L[i]? = some (mapG c b es)) (hm : P.underlying t = some (.map c.kt et)) (hx : a.eval x = .map (some b))
    (h : ∀ r w', Own fr al w0 (L.set i (mapIt c b r es es none)) w' → K (a.put o.dst (.pointer (some ⟨r, 0, none⟩))) w') : o.wp P a w K Q := by
  obtain ⟨e, s, ⟨_, arr, clock, h2, h3, h4, h5⟩, hlo, _⟩ := st.get hi
  have hbl : b < w.heap.size := (Array.getElem?_eq_some_iff.1 h2).1
  have hrun : (Instr.range t (.map (some b))).run P w = .ok (.pointer (some ⟨w.heap.size, 0, none⟩)) (w.alloc (.mapIter (some b) clock #[] clock)) := by
    simp [Instr.range, run_underlying hm, MapKept.run_getObj_map h2, Result.andThen]
  refine owp_run (v := .pointer (some ⟨w.heap.size, 0, none⟩)) (w' := w.alloc (.mapIter (some b) clock #[] clock)) ?_ (h w.heap.size _ ?_)
  · unfold execOp
    simp only [ho, hx, Sem.run_bind, hrun, Result.andThen, Sem.run_pure]
  · refine st.upd hi fun e s ⟨q1, arr', clock', q2, q3, q4, q5⟩ q6 q7 => ?_
    rw [q2] at h2
    injection h2 with h2
    injection h2 with h2 h2'
    subst h2 h2'
    refine ⟨fun k => e k ∨ k = w.heap.size, s, ⟨.inl q1, .inr rfl, by omega, arr', clock', clock', clock', #[], ?_, ?_, q3, q4, Nat.le_refl _, Nat.le_refl _, q5, ?_, fun p hp => by cases hp⟩, ?_, ?_, ?_, ?_⟩
    · rw [(Ext.new w _).bel.block b hbl]; exact q2
    · show (w.heap.push _)[_]? = _; simp
    · rw [← q3]; congr 1; simp
    · rintro k (hk | rfl)
      · exact ⟨Nat.lt_of_lt_of_le (q6 k (.inl hk)) (Ext.new w _).le, .inl hk⟩
      · exact ⟨by show _ < (w.heap.push _).size; simp, .inr (Nat.le_refl _)⟩
    · exact fun k hk => ⟨Nat.lt_of_lt_of_le (q6 k (.inr hk)) (Ext.new w _).le, .inr (.inl hk)⟩
    · rintro k (hk | rfl) hs
      · exact q7 k hk hs
      · have := q6 _ (.inr hs); omega
    · exact MutO.of_ext (Ext.new w _)
theorem run_nextG (ty : TypeId) {b r since c0 clock : Nat} {seen : Array Nat} {arr : Array MapEntry} (hb : w.heap[b]? = some (.map arr clock)) (hr : w.heap[r]? = some (.mapIter (some b) since seen c0)) (hold : ∀ x ∈ arr.toList, x.born < since) (hsc : since ≤ c0) :
    ((arr.toList.filter fun m => !seen.contains m.born) = [] ∧ (Instr.next (.pointer (some ⟨r, 0, none⟩)) false ty).run P w = .ok (.tuple #[.bool false]) w) ∨
    ∃ l1 e l2, ∃ w1 : World, (arr.toList.filter fun m => !seen.contains m.born) = l1 ++ e :: l2 ∧ (w1 = w ∨ w1 = w.drew) ∧ (Instr.next (.pointer (some ⟨r, 0, none⟩)) false ty).run P w = .ok (.tuple #[.bool true, e.key, e.val]) { w1 with heap := w1.heap.setIfInBounds r (.mapIter (some b) since (seen.push e.born) clock) } := by
  simp only [Instr.next, getObj, Sem.run_bind, Sem.run, hr, hb, Result.andThen, next_test_false seen arr since c0 hold hsc, Bool.false_eq_true, if_false]
  have hfl : (arr.toList.filter fun m => !seen.contains m.born) = (arr.filter fun m => !seen.contains m.born).toList := by simp
  rw [hfl]
  have hmem : ∀ x ∈ (Array.filter (fun e => !seen.contains e.born) arr).toList, x.born < since := fun x hx => hold x (by simp at hx ⊢; exact hx.1)
  generalize Array.filter (fun e => !seen.contains e.born) arr = M at hmem ⊢
  have e1 : M.filter (fun x => decide (x.born < since)) = M := Array.filter_eq_self.2 (fun x hx => by simpa using hmem x (by simpa using hx))
  have e2 : M.filter (fun x => decide (x.born ≥ since)) = #[] := by
    rw [Array.filter_eq_empty_iff]
    intro x hx
    have := hmem x (by simpa using hx)
    simp
    omega
  simp only [e1, e2, Array.append_empty]
  by_cases h0 : M.size = 0
  · left
    have : M = #[] := Array.eq_empty_of_size_eq_zero h0
    subst this
    refine ⟨rfl, ?_⟩
    simp [choose, Sem.run, Question.forced]
  · right
    have hne : M.isEmpty = false := by simp [Array.isEmpty, h0]
    simp only [hne, Bool.false_eq_true, if_false, Array.empty_append, Array.size_map]
    have hch : ∃ (j : Nat) (w1 : World), j < M.size ∧ (w1 = w ∨ w1 = w.drew) ∧ (choose (Question.mapNext M.size)).run P w = .ok j w1 := by
      by_cases hf : M.size ≤ 1
      · exact ⟨0, w, by omega, .inl rfl, by simp [choose, Sem.run, Question.forced, hf]⟩
      · exact ⟨_, w.drew, Nat.mod_lt _ (by omega), .inr rfl, by
          simp only [choose, Sem.run, Question.forced, decide_eq_true_eq, hf, if_false, Question.cut]
          rfl⟩
    obtain ⟨j, w1, hj, hal, hrun⟩ := hch
    have hj' : j < M.toList.length := by simpa using hj
    refine ⟨M.toList.take j, M.toList[j], M.toList.drop (j + 1), w1, ?_, hal, ?_⟩
    · rw [← List.drop_eq_getElem_cons hj', List.take_append_drop]
    · have hset : ∀ o', (setObj r o').run P w1 = .ok () { w1 with heap := w1.heap.setIfInBounds r o' } := fun o' => by
        have hr1 : w1.heap[r]? = some (.mapIter (some b) since seen c0) := by
          rcases hal with rfl | rfl
          · exact hr
          · exact hr
        simp [setObj, Sem.run, hr1]
      simp only [hrun, Array.getElem?_map, Array.getElem?_eq_getElem hj, Option.map_some, Sem.run_bind, hset, Result.andThen]
      rfl
theorem filter_push (l : List MapEntry) (seen : Array Nat) (x : Nat) : (l.filter fun m => !(seen.push x).contains m.born) = (l.filter fun m => !seen.contains m.born).filter fun m => !(m.born == x) := by
  rw [List.filter_filter]
  congr 1
  funext m
  rw [Array.contains_push]
  cases (m.born == x) <;> cases seen.contains m.born <;> rfl
theorem filter_mid {l1 l2 : List MapEntry} {e : MapEntry} (h : ((l1 ++ e :: l2).map fun m : MapEntry => m.born).Nodup) : ((l1 ++ e :: l2).filter fun m => !(m.born == e.born)) = l1 ++ l2 := by
  rw [List.map_append, List.map_cons, List.nodup_append] at h
  obtain ⟨h1, h2, h3⟩ := h
  have h4 := (List.nodup_cons.1 h2).1
  rw [List.filter_append, List.filter_cons]
  rw [List.filter_eq_self.2 fun m hm => by
    have : m.born ≠ e.born := h3 _ (List.mem_map.2 ⟨m, hm, rfl⟩) _ (by simp)
    simpa using this]
  rw [List.filter_eq_self.2 fun m hm => by
    have : m.born ≠ e.born := fun q => h4 (List.mem_map.2 ⟨m, hm, q⟩)
    simpa using this]
  simp
theorem owp_nextG {c : Kc P κ} {x : Operand} (ho : o.op = .next x false) (st : Own fr al w0 L w) (i : Nat) {b r : Nat} {es left : List (κ × Value)} {cur : Option (κ × Value)} (hi : L[i]? = some (mapIt c b r es left cur)) (hx : a.eval x = .pointer (some ⟨r, 0, none⟩))
    (h0 : left = [] → K (a.put o.dst (.tuple #[.bool false])) w)
    (h1 : ∀ l1 p l2 w', left = l1 ++ p :: l2 → Own fr al w0 (L.set i (mapIt c b r es (l1 ++ l2) (some p))) w' → K (a.put o.dst (.tuple #[.bool true, c.enc p.1, p.2])) w') : o.wp P a w K Q := by
  obtain ⟨e, s, ⟨_, _, hbr, arr, clock, since, c0, seen, q1, q2, q3, q4, q5, q6, q7, q8, q9⟩, hlo, _⟩ := st.get hi
  rcases run_nextG (P := P) o.type q1 q2 q4 q5 with ⟨hf, hrun⟩ | ⟨l1, en, l2, w1, hf, hw1, hrun⟩
  · refine owp_run ?_ (h0 ?_)
    · unfold execOp
      simp only [ho, hx, Sem.run_bind, hrun, Result.andThen, Sem.run_pure]
    · rw [hf] at q8
      exact List.map_eq_nil_iff.1 q8.symm
  · rw [hf, List.map_append, List.map_cons] at q8
    obtain ⟨m1, m2, rfl, e1, e2⟩ := List.map_eq_append_iff.1 q8.symm
    obtain ⟨p, m3, rfl, e3, e4⟩ := List.map_eq_cons_iff.1 e2
    injection e3 with e5 e6
    have hrl : r < w.heap.size := (Array.getElem?_eq_some_iff.1 q2).1
    have hh : w1.heap = w.heap := by rcases hw1 with rfl | rfl <;> rfl
    refine owp_run (v := .tuple #[.bool true, c.enc p.1, p.2]) ?_ (h1 m1 p m3 { w1 with heap := w1.heap.setIfInBounds r (.mapIter (some b) since (seen.push en.born) clock) } rfl ?_)
    · unfold execOp
      simp only [ho, hx, Sem.run_bind, hrun, Result.andThen, Sem.run_pure, e5, e6]
    · refine st.upd hi fun e s ⟨k1, k2, k3, arr', clock', since', c0', seen', r1, r2, r3, r4, r5, r6, r7, r8, r9⟩ k6 k7 => ?_
      rw [q1] at r1
      injection r1 with r1
      injection r1 with r1 r1'
      subst r1 r1'
      have hin : en ∈ arr.toList := by
        have : en ∈ (arr.toList.filter fun m => !seen.contains m.born) := by rw [hf]; simp
        exact (List.mem_filter.1 this).1
      have hnd : ((l1 ++ en :: l2).map fun m : MapEntry => m.born).Nodup := by
        rw [← hf]
        exact List.Nodup.sublist ((List.filter_sublist (p := fun m => !seen.contains m.born) (l := arr.toList)).map _) q7
      refine ⟨e, s, ⟨k1, k2, k3, arr, clock, since, clock, seen.push en.born, ?_, ?_, q3, q4, q6, q6, q7, ?_, ?_⟩, fun q hq => ⟨by show _ < (w1.heap.setIfInBounds r _).size; rw [Array.size_setIfInBounds, hh]; exact k6 q (.inl hq), .inl hq⟩, fun q hq => ⟨by show _ < (w1.heap.setIfInBounds r _).size; rw [Array.size_setIfInBounds, hh]; exact k6 q (.inr hq), .inr (.inl hq)⟩, k7, ?_⟩
      · show (w1.heap.setIfInBounds r _)[b]? = _
        rw [Array.getElem?_setIfInBounds_ne (Ne.symm k3), hh]
        exact q1
      · show (w1.heap.setIfInBounds r _)[r]? = _
        simp [hh, hrl]
      · rw [filter_push, hf, filter_mid hnd, List.map_append, List.map_append, e1, e4]
      · intro p' hp'
        injection hp' with hp'
        subst hp'
        exact ⟨rfl, en, hin, by simp, e5.symm, e6.symm⟩
      · refine ⟨by rcases hw1 with rfl | rfl <;> rfl, by rcases hw1 with rfl | rfl <;> rfl, by rcases hw1 with rfl | rfl <;> rfl, by show _ ≤ (w1.heap.setIfInBounds r _).size; rw [Array.size_setIfInBounds, hh]; exact Nat.le_refl _, ?_, fun k hk hne => ?_⟩
        · rcases hw1 with rfl | rfl
          · exact Nat.le_refl _
          · exact Nat.le_succ _
        · show (w1.heap.setIfInBounds r _)[k]? = _
          have : r ≠ k := fun q => hne (q ▸ k2)
          rw [Array.getElem?_setIfInBounds_ne this, hh]
theorem Own.entryG {c : Kc P κ} (st : Own fr al w0 L w) {i b r : Nat} {es left : List (κ × Value)} {p : κ × Value} (hi : L[i]? = some (mapIt c b r es left (some p))) : (Instr.entry (.pointer (some ⟨r, 0, none⟩))).run P w = .ok (.tuple #[c.enc p.1, p.2]) w := by
  obtain ⟨e, s, ⟨_, _, hbr, arr, clock, since, c0, seen, q1, q2, q3, q4, q5, q6, q7, q8, q9⟩, hlo, _⟩ := st.get hi
  obtain ⟨rfl, en, h1, h2, h3, h4⟩ := q9 p rfl
  have hfb := find_born en arr.toList q7 h1
  have hfb' : arr.find? (fun x => x.born == en.born) = some en := by rw [← Array.find?_toList]; exact hfb
  simp only [Instr.entry, getObj, Sem.run_bind, Sem.run, q1, q2, Result.andThen, h2, bne_self_eq_false, Bool.false_eq_true, if_false, hfb', h3, h4]
  rfl
theorem Own.endIt {c : Kc P κ} (st : Own fr al w0 L w) {i b r : Nat} {es left : List (κ × Value)} {cur : Option (κ × Value)} (hi : L[i]? = some (mapIt c b r es left cur)) : Own fr al w0 (L.set i (mapG c b es)) w :=
  st.upd hi fun e s ⟨k1, k2, k3, arr, clock, since, c0, seen, r1, r2, r3, r4, r5, r6, r7, r8, r9⟩ k6 k7 => ⟨e, s, ⟨k1, arr, clock, r1, r3, fun x hx => Nat.lt_of_lt_of_le (r4 x hx) r6, r7⟩, fun q hq => ⟨k6 q (.inl hq), .inl hq⟩, fun q hq => ⟨k6 q (.inr hq), .inr (.inl hq)⟩, k7, MutO.refl _ _⟩
end
end Go.Proofs.YthjibbakjbbniaaGreatDoor

namespace Go.Proofs.YthjibbakjbbniaaGreatDoor
set_option linter.unusedSimpArgs false
set_option linter.unusedVariables false
open Go Go.RowKit
theorem checkRole (e : Bool) (r : Role) (w : World) : (Instr.checkKey e 10000 26 (rV r)).run Tryz.prog w = .ok () w := by
  obtain ⟨o, d⟩ := r
  unfold rV S
  kernel_rfl
def kcR : Kc Tryz.prog Role where
  kt := 26
  enc := rV
  find := find_ask Tryz.underlying26 (fun a b => rfl) (fun a b w => by
    obtain ⟨o, d⟩ := a
    obtain ⟨o', d'⟩ := b
    show (Op.equalIn 10000 26 (.agg #[.string ⟨o.toArray⟩, .string ⟨d.toArray⟩]) (.agg #[.string ⟨o'.toArray⟩, .string ⟨d'.toArray⟩])).run Tryz.prog w = _
    rw [eqRole, roleEq_eq])
  check := checkRole
def kcS : Kc Tryz.prog (List UInt8) where
  kt := 9
  enc := S
  find := find_now Tryz.underlying9 (fun a b => by
    simp only [Instr.sameNow, S]
    congr 1
    rw [Bool.eq_iff_iff, MapKept.bytes_beq, decide_eq_true_eq]
    constructor
    · intro q
      injection q with q
      simpa using congrArg Array.toList q
    · intro q; rw [q])
  check := fun e k w => MapKept.run_checkKey (k := S k) Tryz.underlying9 (by simp [S, MapKept.IsKey]) e 9999
theorem zeroIn (w : World) : (zeroValue 90).run Tryz.prog w = .ok (.map none) w := by kernel_rfl
theorem zeroBool (w : World) : (zeroValue 4).run Tryz.prog w = .ok (.bool false) w := by kernel_rfl
theorem zeroCreds (w : World) : (zeroValue 45).run Tryz.prog w = .ok (.slice none 0 0) w := by kernel_rfl
theorem underIn : Tryz.prog.underlying 85 = some (.map kcR.kt 90) := Tryz.underlying85
theorem underWho : Tryz.prog.underlying 90 = some (.map kcS.kt 4) := Tryz.underlying90
theorem underUses : Tryz.prog.underlying 86 = some (.map kcR.kt 45) := Tryz.underlying86
theorem underWords : Tryz.prog.underlying 87 = some (.map kcS.kt 45) := Tryz.underlying87
section
variable {fr al : Nat → Prop} {w0 w : World} {L : List It}
theorem Own.lookIn (st : Own fr al w0 L w) {i b : Nat} {es : List (Role × Value)} (hi : L[i]? = some (mapG kcR b es)) (o d : List UInt8) : (Instr.lookup 85 (.map (some b)) (.agg #[.string ⟨o.toArray⟩, .string ⟨d.toArray⟩]) false).run Tryz.prog w = .ok ((gGet es (o, d)).getD (.map none)) w := (st.lookG hi underIn (zeroIn w) (o, d)).1
theorem lookWhoNil (w : World) (o : List UInt8) : (Instr.lookup 90 (.map none) (.string ⟨o.toArray⟩) false).run Tryz.prog w = .ok (.bool false) w := run_lookNil kcS underWho (zeroBool w) o
theorem Own.lookUses (st : Own fr al w0 L w) {i b : Nat} {es : List (Role × Value)} (hi : L[i]? = some (mapG kcR b es)) (o d : List UInt8) : (Instr.lookup 86 (.map (some b)) (.agg #[.string ⟨o.toArray⟩, .string ⟨d.toArray⟩]) false).run Tryz.prog w = .ok ((gGet es (o, d)).getD (.slice none 0 0)) w := (st.lookG hi underUses (zeroCreds w) (o, d)).1
theorem Own.lookWords (st : Own fr al w0 L w) {i b : Nat} {es : List (List UInt8 × Value)} (hi : L[i]? = some (mapG kcS b es)) (o : List UInt8) : (Instr.lookup 87 (.map (some b)) (.string ⟨o.toArray⟩) false).run Tryz.prog w = .ok ((gGet es o).getD (.slice none 0 0)) w := (st.lookG hi underWords (zeroCreds w) o).1
end
theorem gGet_one {κ : Type} [DecidableEq κ] (k : κ) (v : Value) : gGet [(k, v)] k = some v := by simp [gGet]
theorem factInfoM : ∃ i, Tryz.prog.info? 30 = some i ∧ i.zero = some (.agg #[.string ⟨#[]⟩, .string ⟨#[]⟩, .string ⟨#[]⟩]) ∧ i.size = 3 ∧ i.bytes = 48 := info_parts (by kernel_rfl)
theorem credInfoM : ∃ i, Tryz.prog.info? 28 = some i ∧ i.zero = some (.agg #[.int .i64 0, .string ⟨#[]⟩, .string ⟨#[]⟩, .string ⟨#[]⟩, .string ⟨#[]⟩, .string ⟨#[]⟩, .string ⟨#[]⟩, .string ⟨#[]⟩, .string ⟨#[]⟩]) ∧ i.size = 9 ∧ i.bytes = 136 := info_parts (by kernel_rfl)
end Go.Proofs.YthjibbakjbbniaaGreatDoor

namespace Go.Proofs.YthjibbakjbbniaaGreatDoor
set_option linter.unusedSimpArgs false
set_option linter.unusedVariables false
open Go Go.RowKit
set_option maxRecDepth 100000 in
set_option maxHeartbeats 4000000 in
theorem tellFirst {fr al : Nat → Prop} {w0 w : World} (o d wh : List UInt8) (m bi bu bw : Nat) (crs : Value) (h1 : crs.oneCell' = true) (st : Own fr al w0 [blkI m [.map (some bi), crs, .map (some bu), .map (some bw), .slice none 0 0, .int .i64 0], mapG kcR bi []] w) :
    Calls Tryz.prog 66 #[.pointer (some ⟨m, 0, none⟩), .agg #[.string ⟨o.toArray⟩, .string ⟨d.toArray⟩], .string ⟨wh.toArray⟩] w fun e w' => ∃ b1 v, e = .returned (.tuple #[]) ∧
      Own fr al w0 [blkI m [.map (some bi), crs, .map (some bu), .map (some bw), v, .int .i64 1], mapG kcR bi [((o, d), .map (some b1))], mapG kcS b1 [(wh, .bool true)], rowI 30 3 v 1 [.string ⟨o.toArray⟩, .string ⟨d.toArray⟩, .string ⟨wh.toArray⟩]] w' := by
  have qN : ∀ (w : World) (r : Option Nat), (binOp .eql 90 (.map r) (.map none)).run Tryz.prog w = .ok (.bool r.isNone) w := fun w r => run_eql_map_nil w _ _ _ r Tryz.underlying90
  (try simp only [nsl, Value.cells, unB] at st)
  (try clear hc); have hc := st.facts; (try simp only [nfl, nft, Nat.reduceAdd] at hc)
  go_enter Tryz.func66, Tryz.ntmps66
  go_wp2_with ((first
        | ((with_reducible refine wl_box ?_ (fun K hK => ?_)); rfl; refine owp_box (o := ⟨some 4, _, _, _, _, _⟩) rfl st ?_; apply Exists.intro; refine ⟨?_, ?_⟩; (focus (go_simp; try rfl)); (clear st; intro b4 w hb st; clear hb))
        | ((with_reducible refine wl_makeMap ?_ (fun K hK => ?_)); rfl; refine owp_makeMap (o := ⟨some 26, _, _, _, _, _⟩) rfl st ?_; (clear st; intro b26 w hb st; clear hb))
        | ((with_reducible refine wl_store ?_ (fun K hK => ?_)); rfl; refine owp_store rfl st ?_; apply Exists.intro; apply Exists.intro; refine ⟨?_, ?_, ?_⟩; (focus (go_simp; try rfl)); (focus (go_simp; try rfl)); (first | (with_reducible refine ⟨0, _, _, _, _, get0, rfl, rfl, ?_, ?_, ?_, ?_⟩) | (with_reducible refine ⟨1, _, _, _, _, get1, rfl, rfl, ?_, ?_, ?_, ?_⟩) | (with_reducible refine ⟨2, _, _, _, _, get2, rfl, rfl, ?_, ?_, ?_, ?_⟩)); (kernel_rfl); (simp [Value.cells]); (rfl); (clear st; intro w st))
        | ((with_reducible refine wl_buildSlice ?_ (fun K hK => ?_)); rfl; refine owp_buildSlice (o := ⟨some 49, _, _, _, _, _⟩) rfl st ?_; apply Exists.intro; apply Exists.intro; apply Exists.intro; apply Exists.intro; refine ⟨?_, ?_⟩; (focus (go_simp; (first | done | exact ⟨⟨rfl, rfl⟩, rfl⟩ | rfl))); (clear st; intro b49 w hb st; clear hb))); (try simp only [nsl, Value.cells, unB] at st); (try clear hc); have hc := st.facts; (try simp only [nfl, nft, Nat.reduceAdd] at hc))
  refine Rg4.wp_region4_eq #[0, 1, 3, 7, 0, 31, 0, 127] [] [3, 4, 5, 7] (fun _ => True) [0, 1, 2, 3, 4, 5, 6, 7] (by kernel_rfl) (by kernel_rfl) (by kernel_rfl) (by kernel_rfl) (show Rg4.PB _ by repeat (first | with_reducible exact Rg4.pb_body | with_reducible exact Rg4.pb_bodyD rfl | with_reducible refine Rg4.pb_then ?_ | with_reducible refine Rg4.pb_inBlock ?_ | with_reducible refine Rg4.pb_noGoto ?_ | with_reducible assumption)) (trivial) ?_
  replace st := st.drew
  change Rg4.wp4 _ _ _ _ _ _ _ _ _ (World.drew _) _ _
  generalize World.drew _ = w at st ⊢
  (try clear hc); have hc := st.facts; (try simp only [nfl, nft, Nat.reduceAdd] at hc)
  iterate 3 (refine Rg4.w4_any (Rg4.want_none rfl) rfl ?_; apply Exists.intro; refine ⟨fun w' => ?_, ?_⟩; (focus (first | (go_simp; done) | (go_simp; first | rfl | (rw [if_neg] <;> first | rfl | omega) | (rw [if_pos] <;> first | rfl | omega)))); (try simp only [Rg4.nrm]))
  iterate 3 (refine Rg4.w4_read (Rg4.want_none rfl) rfl rfl ?_; apply Exists.intro; refine ⟨fun w' hw' hcl' => ?_, ?_⟩; focus (subst hw'; have q0 := st.lookIn (i := 1) get1 o d; have q1 := lookWhoNil w wh; simp only [gGet_nil, Option.getD_none] at q0; (focus (first | (go_simp; done) | (go_simp; first | rfl | (rw [if_neg] <;> first | rfl | omega) | (rw [if_pos] <;> first | rfl | omega))))); (try simp only [Rg4.nrm]))
  (refine Rg4.w4_any (Rg4.want_none rfl) rfl ?_; apply Exists.intro; refine ⟨fun w' => ?_, ?_⟩; (focus (first | (go_simp; done) | (go_simp; first | rfl | (rw [if_neg] <;> first | rfl | omega) | (rw [if_pos] <;> first | rfl | omega)))); (try simp only [Rg4.nrm]))
  (refine Rg4.w4_read (Rg4.want_none rfl) rfl rfl ?_; apply Exists.intro; refine ⟨fun w' hw' hcl' => ?_, ?_⟩; focus (subst hw'; have q0 := st.lookIn (i := 1) get1 o d; have q1 := lookWhoNil w wh; simp only [gGet_nil, Option.getD_none] at q0; (focus (first | (go_simp; done) | (go_simp; first | rfl | (rw [if_neg] <;> first | rfl | omega) | (rw [if_pos] <;> first | rfl | omega))))); (try simp only [Rg4.nrm]))
  refine Rg4.w4_nil (fun w' hw' hcl' _ => ?_); subst hw'; clear hcl'
  go_wp2_with ((first
        | ((with_reducible refine wl_box ?_ (fun K hK => ?_)); rfl; refine owp_box (o := ⟨some 4, _, _, _, _, _⟩) rfl st ?_; apply Exists.intro; refine ⟨?_, ?_⟩; (focus (go_simp; try rfl)); (clear st; intro b4 w hb st; clear hb))
        | ((with_reducible refine wl_makeMap ?_ (fun K hK => ?_)); rfl; refine owp_makeMap (o := ⟨some 26, _, _, _, _, _⟩) rfl st ?_; (clear st; intro b26 w hb st; clear hb))
        | ((with_reducible refine wl_store ?_ (fun K hK => ?_)); rfl; refine owp_store rfl st ?_; apply Exists.intro; apply Exists.intro; refine ⟨?_, ?_, ?_⟩; (focus (go_simp; try rfl)); (focus (go_simp; try rfl)); (first | (with_reducible refine ⟨0, _, _, _, _, get0, rfl, rfl, ?_, ?_, ?_, ?_⟩) | (with_reducible refine ⟨1, _, _, _, _, get1, rfl, rfl, ?_, ?_, ?_, ?_⟩) | (with_reducible refine ⟨2, _, _, _, _, get2, rfl, rfl, ?_, ?_, ?_, ?_⟩)); (kernel_rfl); (simp [Value.cells]); (rfl); (clear st; intro w st))
        | ((with_reducible refine wl_buildSlice ?_ (fun K hK => ?_)); rfl; refine owp_buildSlice (o := ⟨some 49, _, _, _, _, _⟩) rfl st ?_; apply Exists.intro; apply Exists.intro; apply Exists.intro; apply Exists.intro; refine ⟨?_, ?_⟩; (focus (go_simp; (first | done | exact ⟨⟨rfl, rfl⟩, rfl⟩ | rfl))); (clear st; intro b49 w hb st; clear hb))); (try simp only [nsl, Value.cells, unB] at st); (try clear hc); have hc := st.facts; (try simp only [nfl, nft, Nat.reduceAdd] at hc))
  refine Rg4.wp_region4_eq #[0, 1, 3, 7, 0, 31, 63] [] [3, 4, 5] (fun _ => True) [0, 1, 2, 3, 4, 5, 6] (by kernel_rfl) (by kernel_rfl) (by kernel_rfl) (by kernel_rfl) (show Rg4.PB _ by repeat (first | with_reducible exact Rg4.pb_body | with_reducible exact Rg4.pb_bodyD rfl | with_reducible refine Rg4.pb_then ?_ | with_reducible refine Rg4.pb_inBlock ?_ | with_reducible refine Rg4.pb_noGoto ?_ | with_reducible assumption)) (trivial) ?_
  replace st := st.drew
  change Rg4.wp4 _ _ _ _ _ _ _ _ _ (World.drew _) _ _
  generalize World.drew _ = w at st ⊢
  (try clear hc); have hc := st.facts; (try simp only [nfl, nft, Nat.reduceAdd] at hc)
  iterate 3 (refine Rg4.w4_any (Rg4.want_none rfl) rfl ?_; apply Exists.intro; refine ⟨fun w' => ?_, ?_⟩; (focus (first | (go_simp; done) | (go_simp; first | rfl | (rw [if_neg] <;> first | rfl | omega) | (rw [if_pos] <;> first | rfl | omega)))); (try simp only [Rg4.nrm]))
  iterate 3 (refine Rg4.w4_read (Rg4.want_none rfl) rfl rfl ?_; apply Exists.intro; refine ⟨fun w' hw' hcl' => ?_, ?_⟩; focus (subst hw'; have q0 := st.lookIn (i := 1) get1 o d; have q1 := lookWhoNil w wh; simp only [gGet_nil, Option.getD_none] at q0; (focus (first | (go_simp; done) | (go_simp; first | rfl | (rw [if_neg] <;> first | rfl | omega) | (rw [if_pos] <;> first | rfl | omega))))); (try simp only [Rg4.nrm]))
  (refine Rg4.w4_any (Rg4.want_none rfl) rfl ?_; apply Exists.intro; refine ⟨fun w' => ?_, ?_⟩; (focus (first | (go_simp; done) | (go_simp; first | rfl | (rw [if_neg] <;> first | rfl | omega) | (rw [if_pos] <;> first | rfl | omega)))); (try simp only [Rg4.nrm]))
  refine Rg4.w4_nil (fun w' hw' hcl' _ => ?_); subst hw'; clear hcl'
  go_wp2_with ((first
        | ((with_reducible refine wl_box ?_ (fun K hK => ?_)); rfl; refine owp_box (o := ⟨some 4, _, _, _, _, _⟩) rfl st ?_; apply Exists.intro; refine ⟨?_, ?_⟩; (focus (go_simp; try rfl)); (clear st; intro b4 w hb st; clear hb))
        | ((with_reducible refine wl_makeMap ?_ (fun K hK => ?_)); rfl; refine owp_makeMap (o := ⟨some 26, _, _, _, _, _⟩) rfl st ?_; (clear st; intro b26 w hb st; clear hb))
        | ((with_reducible refine wl_store ?_ (fun K hK => ?_)); rfl; refine owp_store rfl st ?_; apply Exists.intro; apply Exists.intro; refine ⟨?_, ?_, ?_⟩; (focus (go_simp; try rfl)); (focus (go_simp; try rfl)); (first | (with_reducible refine ⟨0, _, _, _, _, get0, rfl, rfl, ?_, ?_, ?_, ?_⟩) | (with_reducible refine ⟨1, _, _, _, _, get1, rfl, rfl, ?_, ?_, ?_, ?_⟩) | (with_reducible refine ⟨2, _, _, _, _, get2, rfl, rfl, ?_, ?_, ?_, ?_⟩)); (kernel_rfl); (simp [Value.cells]); (rfl); (clear st; intro w st))
        | ((with_reducible refine wl_buildSlice ?_ (fun K hK => ?_)); rfl; refine owp_buildSlice (o := ⟨some 49, _, _, _, _, _⟩) rfl st ?_; apply Exists.intro; apply Exists.intro; apply Exists.intro; apply Exists.intro; refine ⟨?_, ?_⟩; (focus (go_simp; (first | done | exact ⟨⟨rfl, rfl⟩, rfl⟩ | rfl))); (clear st; intro b49 w hb st; clear hb))); (try simp only [nsl, Value.cells, unB] at st); (try clear hc); have hc := st.facts; (try simp only [nfl, nft, Nat.reduceAdd] at hc))
  refine Rg4.wp_region4_eq #[0, 1, 3, 7, 0, 0, 63] [5, 6] [] (fun W' => Blk W' m [.map (some bi), crs, .map (some bu), .map (some bw), .slice none 0 0, .int .i64 0] ∧ Blk W' b4 [.string ⟨o.toArray⟩, .string ⟨d.toArray⟩]) [0, 1, 2, 3, 4, 5, 6] (by kernel_rfl) (by kernel_rfl) (by kernel_rfl) (by kernel_rfl) (show Rg4.PB _ by repeat (first | with_reducible exact Rg4.pb_body | with_reducible exact Rg4.pb_bodyD rfl | with_reducible refine Rg4.pb_then ?_ | with_reducible refine Rg4.pb_inBlock ?_ | with_reducible refine Rg4.pb_noGoto ?_ | with_reducible assumption)) (⟨st.drew.blk (i := 0) get0, st.drew.blk (i := 2) get2⟩) ?_
  replace st := st.drew
  change Rg4.wp4 _ _ _ _ _ _ _ _ _ (World.drew _) _ _
  generalize World.drew _ = w at st ⊢
  (try clear hc); have hc := st.facts; (try simp only [nfl, nft, Nat.reduceAdd] at hc)
  iterate 3 (refine Rg4.w4_any (Rg4.want_none rfl) rfl ?_; apply Exists.intro; refine ⟨fun w' => ?_, ?_⟩; (focus (first | (go_simp; done) | (go_simp; first | rfl | (rw [if_neg] <;> first | rfl | omega) | (rw [if_pos] <;> first | rfl | omega)))); (try simp only [Rg4.nrm]))
  iterate 2 (refine Rg4.w4_cl (Rg4.want_none rfl) rfl ?_; apply Exists.intro; refine ⟨fun w' hcl => ?_, ?_⟩; (focus (have q0 := Blk.cell hcl.1 0; have q1 := Blk.cell hcl.2 0; have q2 := Blk.cell hcl.2 1; (try simp at q0 q1 q2); (focus (first | (go_simp; done) | (go_simp; first | rfl | (rw [if_neg] <;> first | rfl | omega) | (rw [if_pos] <;> first | rfl | omega)))))); (try simp only [Rg4.nrm]))
  refine Rg4.w4_bar (Rg4.want_none rfl) rfl (fun w' hw' hcl _ K hK => ?_)
  subst hw'
  refine owp_makeMapG kcS rfl st ?_
  clear st
  intro b26 w hb st
  clear hb
  (try simp only [nsl, Value.cells, unB] at st)
  (try clear hc); have hc := st.facts; (try simp only [nfl, nft, Nat.reduceAdd] at hc)
  refine hK _ _ ⟨⟨st.blk (i := 0) get0, st.blk (i := 2) get2⟩, ?_⟩
  clear hK
  (try simp only [Rg4.nrm])

  refine Rg4.w4_bar (Rg4.want_none rfl) rfl (fun w' hw' hcl _ K hK => ?_)
  subst hw'
  refine owp_mapNewG (c := kcR) (v := .map (some b26)) rfl st 1 (o, d) get1 underIn rfl rfl rfl rfl ?_
  clear st
  intro w st
  simp only [List.set] at st
  (try simp only [nsl, Value.cells, unB] at st)
  (try clear hc); have hc := st.facts; (try simp only [nfl, nft, Nat.reduceAdd] at hc)
  refine hK _ _ ⟨⟨st.blk (i := 0) get0, st.blk (i := 2) get2⟩, ?_⟩
  clear hK
  (try simp only [Rg4.nrm])
  refine Rg4.w4_nil (fun w' hw' hcl' _ => ?_); subst hw'; clear hcl'
  go_wp2_with ((first
        | ((with_reducible refine wl_box ?_ (fun K hK => ?_)); rfl; refine owp_box (o := ⟨some 4, _, _, _, _, _⟩) rfl st ?_; apply Exists.intro; refine ⟨?_, ?_⟩; (focus (go_simp; try rfl)); (clear st; intro b4 w hb st; clear hb))
        | ((with_reducible refine wl_makeMap ?_ (fun K hK => ?_)); rfl; refine owp_makeMap (o := ⟨some 26, _, _, _, _, _⟩) rfl st ?_; (clear st; intro b26 w hb st; clear hb))
        | ((with_reducible refine wl_store ?_ (fun K hK => ?_)); rfl; refine owp_store rfl st ?_; apply Exists.intro; apply Exists.intro; refine ⟨?_, ?_, ?_⟩; (focus (go_simp; try rfl)); (focus (go_simp; try rfl)); (first | (with_reducible refine ⟨0, _, _, _, _, get0, rfl, rfl, ?_, ?_, ?_, ?_⟩) | (with_reducible refine ⟨1, _, _, _, _, get1, rfl, rfl, ?_, ?_, ?_, ?_⟩) | (with_reducible refine ⟨2, _, _, _, _, get2, rfl, rfl, ?_, ?_, ?_, ?_⟩)); (kernel_rfl); (simp [Value.cells]); (rfl); (clear st; intro w st))
        | ((with_reducible refine wl_buildSlice ?_ (fun K hK => ?_)); rfl; refine owp_buildSlice (o := ⟨some 49, _, _, _, _, _⟩) rfl st ?_; apply Exists.intro; apply Exists.intro; apply Exists.intro; apply Exists.intro; refine ⟨?_, ?_⟩; (focus (go_simp; (first | done | exact ⟨⟨rfl, rfl⟩, rfl⟩ | rfl))); (clear st; intro b49 w hb st; clear hb))); (try simp only [nsl, Value.cells, unB] at st); (try clear hc); have hc := st.facts; (try simp only [nfl, nft, Nat.reduceAdd] at hc))
  refine Rg4.wp_region4_eq #[0, 1, 3, 7, 0, 31, 0, 127] [7] [3, 4, 5] (fun _ => True) [0, 1, 2, 3, 4, 5, 6, 7] (by kernel_rfl) (by kernel_rfl) (by kernel_rfl) (by kernel_rfl) (show Rg4.PB _ by repeat (first | with_reducible exact Rg4.pb_body | with_reducible exact Rg4.pb_bodyD rfl | with_reducible refine Rg4.pb_then ?_ | with_reducible refine Rg4.pb_inBlock ?_ | with_reducible refine Rg4.pb_noGoto ?_ | with_reducible assumption)) (trivial) ?_
  replace st := st.drew
  change Rg4.wp4 _ _ _ _ _ _ _ _ _ (World.drew _) _ _
  generalize World.drew _ = w at st ⊢
  (try clear hc); have hc := st.facts; (try simp only [nfl, nft, Nat.reduceAdd] at hc)
  iterate 3 (refine Rg4.w4_any (Rg4.want_none rfl) rfl ?_; apply Exists.intro; refine ⟨fun w' => ?_, ?_⟩; (focus (first | (go_simp; done) | (go_simp; first | rfl | (rw [if_neg] <;> first | rfl | omega) | (rw [if_pos] <;> first | rfl | omega)))); (try simp only [Rg4.nrm]))
  iterate 3 (refine Rg4.w4_read (Rg4.want_none rfl) rfl rfl ?_; apply Exists.intro; refine ⟨fun w' hw' hcl' => ?_, ?_⟩; focus (subst hw'; have q0 := st.lookIn (i := 1) get1 o d; simp only [List.nil_append, gGet_one, Option.getD_some] at q0; (focus (first | (go_simp; done) | (go_simp; first | rfl | (rw [if_neg] <;> first | rfl | omega) | (rw [if_pos] <;> first | rfl | omega))))); (try simp only [Rg4.nrm]))
  (refine Rg4.w4_any (Rg4.want_none rfl) rfl ?_; apply Exists.intro; refine ⟨fun w' => ?_, ?_⟩; (focus (first | (go_simp; done) | (go_simp; first | rfl | (rw [if_neg] <;> first | rfl | omega) | (rw [if_pos] <;> first | rfl | omega)))); (try simp only [Rg4.nrm]))
  refine Rg4.w4_bar (Rg4.want_none rfl) rfl (fun w' hw' hcl _ K hK => ?_)
  subst hw'
  refine owp_mapNewG (c := kcS) (v := .bool true) rfl st 3 wh get3 underWho rfl rfl rfl rfl ?_
  clear st
  intro w st
  simp only [List.set] at st
  (try simp only [nsl, Value.cells, unB] at st)
  (try clear hc); have hc := st.facts; (try simp only [nfl, nft, Nat.reduceAdd] at hc)
  refine hK _ _ ⟨trivial, ?_⟩
  clear hK
  (try simp only [Rg4.nrm])
  refine Rg4.w4_nil (fun w' hw' hcl' _ => ?_); subst hw'; clear hcl'
  go_wp2_with ((first
        | ((with_reducible refine wl_box ?_ (fun K hK => ?_)); rfl; refine owp_box (o := ⟨some 4, _, _, _, _, _⟩) rfl st ?_; apply Exists.intro; refine ⟨?_, ?_⟩; (focus (go_simp; try rfl)); (clear st; intro b4 w hb st; clear hb))
        | ((with_reducible refine wl_makeMap ?_ (fun K hK => ?_)); rfl; refine owp_makeMap (o := ⟨some 26, _, _, _, _, _⟩) rfl st ?_; (clear st; intro b26 w hb st; clear hb))
        | ((with_reducible refine wl_store ?_ (fun K hK => ?_)); rfl; refine owp_store rfl st ?_; apply Exists.intro; apply Exists.intro; refine ⟨?_, ?_, ?_⟩; (focus (go_simp; try rfl)); (focus (go_simp; try rfl)); (first | (with_reducible refine ⟨0, _, _, _, _, get0, rfl, rfl, ?_, ?_, ?_, ?_⟩) | (with_reducible refine ⟨1, _, _, _, _, get1, rfl, rfl, ?_, ?_, ?_, ?_⟩) | (with_reducible refine ⟨2, _, _, _, _, get2, rfl, rfl, ?_, ?_, ?_, ?_⟩)); (kernel_rfl); (simp [Value.cells]); (rfl); (clear st; intro w st))
        | ((with_reducible refine wl_buildSlice ?_ (fun K hK => ?_)); rfl; refine owp_buildSlice (o := ⟨some 49, _, _, _, _, _⟩) rfl st ?_; apply Exists.intro; apply Exists.intro; apply Exists.intro; apply Exists.intro; refine ⟨?_, ?_⟩; (focus (go_simp; (first | done | exact ⟨⟨rfl, rfl⟩, rfl⟩ | rfl))); (clear st; intro b49 w hb st; clear hb))); (try simp only [nsl, Value.cells, unB] at st); (try clear hc); have hc := st.facts; (try simp only [nfl, nft, Nat.reduceAdd] at hc))
  replace st := st.row_nil 30 3
  (try simp only [nsl, Value.cells, unB] at st)
  (try clear hc); have hc := st.facts; (try simp only [nfl, nft, Nat.reduceAdd] at hc)
  refine Rg4.wp_region4 (Rel := Ext) #[0, 0, 2, 6, 14, 0, 0, 96, 224, 510, 1023, 2047, 4095]
    [(8, ⟨fun v w => ∃ b, v = .slice (some ⟨b, 0, none⟩) 1 1 ∧ Blk w b [.string ⟨o.toArray⟩, .string ⟨d.toArray⟩, .string ⟨wh.toArray⟩] , fun _ _ _ hx ⟨b, h1, h2⟩ => ⟨b, h1, h2.ext hx⟩⟩)] [9, 12] [4, 5] (fun _ => True) [0, 1, 2, 3, 4, 5, 6, 7, 8, 9, 10, 11, 12] (by kernel_rfl) (by kernel_rfl) (by kernel_rfl) (by kernel_rfl) Ext.refl (fun _ _ _ => Ext.trans) (show Rg4.PB _ by repeat (first | with_reducible exact Rg4.pb_body | with_reducible exact Rg4.pb_bodyD rfl | with_reducible refine Rg4.pb_then ?_ | with_reducible refine Rg4.pb_inBlock ?_ | with_reducible refine Rg4.pb_noGoto ?_ | with_reducible assumption)) (trivial) ?_
  replace st := st.drew
  change Rg4.wp4 _ _ _ _ _ _ _ _ _ (World.drew _) _ _
  generalize World.drew _ = w at st ⊢
  (try clear hc); have hc := st.facts; (try simp only [nfl, nft, Nat.reduceAdd] at hc)
  iterate 4 (refine Rg4.w4_any (Rg4.want_none rfl) rfl ?_; apply Exists.intro; refine ⟨fun w' => ?_, ?_⟩; (focus (first | (go_simp; done) | (go_simp; first | rfl | (rw [if_neg] <;> first | rfl | omega) | (rw [if_pos] <;> first | rfl | omega)))); (try simp only [Rg4.nrm]))
  iterate 2 (refine Rg4.w4_read (Rg4.want_none rfl) rfl rfl ?_; apply Exists.intro; refine ⟨fun w' hw' hcl' => ?_, ?_⟩; focus (have st' := st.ext hw'; have hc' := st'.facts; (try simp only [nfl, nft, Nat.reduceAdd] at hc'); (focus (first | (go_simp; done) | (go_simp; first | rfl | (rw [if_neg] <;> first | rfl | omega) | (rw [if_pos] <;> first | rfl | omega))))); (try simp only [Rg4.nrm]))
  iterate 2 (refine Rg4.w4_any (Rg4.want_none rfl) rfl ?_; apply Exists.intro; refine ⟨fun w' => ?_, ?_⟩; (focus (first | (go_simp; done) | (go_simp; first | rfl | (rw [if_neg] <;> first | rfl | omega) | (rw [if_pos] <;> first | rfl | omega)))); (try simp only [Rg4.nrm]))
  refine Rg4.w4_some (Rg4.want_none rfl) rfl (fun w' hw' hcl' _ => ?_) ?_
  · refine Rg.relAt_value (v := .slice (some ⟨w'.heap.size, 0, none⟩) 1 1) (w' := w'.alloc (.cells #[.string ⟨o.toArray⟩, .string ⟨d.toArray⟩, .string ⟨wh.toArray⟩] 30)) ?_ ⟨Ext.new _ _, trivial, _, rfl, Blk.new _ [_, _, _] _⟩
    go_simp
  rintro v ⟨_, _, _, b49, rfl, _⟩
  (try simp only [Rg4.nrm])

  refine Rg4.w4_bar (Rg4.want_none rfl) rfl (fun w' hw' hcl hF K hK => ?_)
  obtain ⟨b, hv, hblk⟩ := (hF 8).2 rfl
  cases hv
  replace st := st.ext hw'
  clear hF hcl hw'
  (try simp only [nsl, Value.cells, unB] at st)
  (try clear hc); have hc := st.facts; (try simp only [nfl, nft, Nat.reduceAdd] at hc)
  obtain ⟨inf, hinf, hz0, hz1, hz2⟩ := factInfoM
  refine owp_append rfl st 4 get4 Tryz.underlying74 hinf hz0 hz1 hz2 rfl (by decide) rfl rfl (hblk.flat rfl) (by simp [Value.oneCell']) (by simp only [maxLen]; omega) (by omega) ?_
  clear hinf hz0 hz1 hz2 inf hblk
  clear st
  intro v' w st
  obtain ⟨va', vc', rfl⟩ := own_slice (st.row (i := 4) get4)
  (try simp only [nsl, Value.cells, unB] at st)
  (try clear hc); have hc := st.facts; (try simp only [nfl, nft, Nat.reduceAdd] at hc)
  refine hK _ _ ⟨trivial, ?_⟩
  clear hK
  (try simp only [Rg4.nrm])
  iterate 2 (refine Rg4.w4_any (Rg4.want_none rfl) rfl ?_; apply Exists.intro; refine ⟨fun w' => ?_, ?_⟩; (focus (first | (go_simp; done) | (go_simp; first | rfl | (rw [if_neg] <;> first | rfl | omega) | (rw [if_pos] <;> first | rfl | omega)))); (try simp only [Rg4.nrm]))
  (refine Rg4.w4_bar (Rg4.want_none rfl) rfl (fun w' hw' hcl' _ K hK => ?_); replace st := st.ext hw'; (refine owp_store rfl st ?_; apply Exists.intro; apply Exists.intro; refine ⟨?_, ?_, ?_⟩; (focus (go_simp; try rfl)); (focus (go_simp; try rfl)); (first | (with_reducible refine ⟨0, _, _, _, _, get0, rfl, rfl, ?_, ?_, ?_, ?_⟩) | (with_reducible refine ⟨1, _, _, _, _, get1, rfl, rfl, ?_, ?_, ?_, ?_⟩) | (with_reducible refine ⟨2, _, _, _, _, get2, rfl, rfl, ?_, ?_, ?_, ?_⟩)); (kernel_rfl); (simp [Value.cells]); (rfl); (clear st; intro w st); (try simp only [nsl, Value.cells, unB] at st); (try clear hc); have hc := st.facts; (try simp only [nfl, nft, Nat.reduceAdd] at hc)); refine hK _ _ ⟨trivial, ?_⟩; (try simp only [Rg4.nrm]))
  refine Rg4.w4_nil (fun w' hw' hcl' _ => ?_); replace st := st.ext hw'; clear hw' hcl'; (try clear hc); have hc := st.facts; (try simp only [nfl, nft, Nat.reduceAdd] at hc)
  go_end0
  exact ⟨_, _, rfl, by simpa [pick] using st.keep [0, 1, 3, 4] (by decide) (by simp)⟩
end Go.Proofs.YthjibbakjbbniaaGreatDoor

namespace Go.Proofs.YthjibbakjbbniaaGreatDoor
set_option linter.unusedSimpArgs false
set_option linter.unusedVariables false
open Go Go.RowKit
set_option maxRecDepth 100000 in
set_option maxHeartbeats 4000000 in
theorem noteM {fr al : Nat → Prop} {w0 w : World} (x : CredT) (k1 : x.k = 1) (hr : credR x = true) (hl : CredL 100000 x) (m bi bu bw : Nat) (td nn : Value) (h1 : td.oneCell' = true) (h2 : nn.oneCell' = true) (st : Own fr al w0 [blkI m [.map (some bi), .slice none 0 0, .map (some bu), .map (some bw), td, nn]] w) :
    Calls Tryz.prog 49 #[.pointer (some ⟨m, 0, none⟩), cV x] w fun e w' => ∃ va vc, e = .returned (.tuple #[]) ∧ Own fr al w0 [blkI m [.map (some bi), .slice va 1 vc, .map (some bu), .map (some bw), td, nn]] w' := by
  have HRo := Lib.hid (fun W => credRoles_any x W hl)
  rw [credRo_1 hr k1] at HRo
  have hk : (x.k == 3) = false := by rw [k1]; rfl
  clear hl hr k1
  unfold cV S at *
  (try simp only [nsl, Value.cells, unB] at st)
  (try clear hc); have hc := st.facts; (try simp only [nfl, nft, Nat.reduceAdd] at hc)
  go_enter Tryz.func49, Tryz.ntmps49
  go_wp2_with ((first
        | ((with_reducible refine wl_box ?_ (fun K hK => ?_)); rfl; refine owp_box (o := ⟨some 3, _, _, _, _, _⟩) rfl st ?_; apply Exists.intro; refine ⟨?_, ?_⟩; (focus (go_simp; try rfl)); (clear st; intro b3 w hb st; clear hb))
        | ((with_reducible refine wl_buildSlice ?_ (fun K hK => ?_)); rfl; refine owp_buildSlice (o := ⟨some 12, _, _, _, _, _⟩) rfl st ?_; apply Exists.intro; apply Exists.intro; apply Exists.intro; apply Exists.intro; refine ⟨?_, ?_⟩; (focus (go_simp; (first | done | exact ⟨⟨rfl, rfl⟩, rfl⟩ | rfl))); (clear st; intro b12 w hb st; clear hb))
        | ((with_reducible refine wl_store ?_ (fun K hK => ?_)); rfl; refine owp_store rfl st ?_; apply Exists.intro; apply Exists.intro; refine ⟨?_, ?_, ?_⟩; (focus (go_simp; try rfl)); (focus (go_simp; try rfl)); (first | (with_reducible refine ⟨0, _, _, _, _, get0, rfl, rfl, ?_, ?_, ?_, ?_⟩) | (with_reducible refine ⟨1, _, _, _, _, get1, rfl, rfl, ?_, ?_, ?_, ?_⟩) | (with_reducible refine ⟨2, _, _, _, _, get2, rfl, rfl, ?_, ?_, ?_, ?_⟩)); (kernel_rfl); (simp [Value.cells]); (rfl); (clear st; intro w st))
        | ((with_reducible refine wl_alloc ?_ (fun K hK => ?_)); rfl; refine owp_alloc (o := ⟨some 5, _, _, _, _, _⟩) rfl st ?_; apply Exists.intro; apply Exists.intro; refine ⟨?_, ?_⟩; (focus (first | (go_simp; done) | (go_simp; rfl))); (clear st; intro b5 w hb st; clear hb))
        | ((with_reducible refine wl_buildSlice ?_ (fun K hK => ?_)); rfl; refine owp_buildSlice (o := ⟨some 31, _, _, _, _, _⟩) rfl st ?_; apply Exists.intro; apply Exists.intro; apply Exists.intro; apply Exists.intro; refine ⟨?_, ?_⟩; (focus (go_simp; (first | done | exact ⟨⟨rfl, rfl⟩, rfl⟩ | rfl))); (clear st; intro b31 w hb st; clear hb))
        | ((with_reducible refine wl_buildSlice ?_ (fun K hK => ?_)); rfl; refine owp_buildSlice (o := ⟨some 53, _, _, _, _, _⟩) rfl st ?_; apply Exists.intro; apply Exists.intro; apply Exists.intro; apply Exists.intro; refine ⟨?_, ?_⟩; (focus (go_simp; (first | done | exact ⟨⟨rfl, rfl⟩, rfl⟩ | rfl))); (clear st; intro b53 w hb st; clear hb))); (try simp only [nsl, Value.cells, unB] at st); (try clear hc); have hc := st.facts; (try simp only [nfl, nft, Nat.reduceAdd] at hc))
  replace st := st.row_nil 28 9
  (try simp only [nsl, Value.cells, unB] at st)
  (try clear hc); have hc := st.facts; (try simp only [nfl, nft, Nat.reduceAdd] at hc)
  refine Rg4.wp_region4 (Rel := Ext) #[0, 0, 2, 6, 14, 0, 32, 126, 255, 511, 1023]
    [(6, ⟨fun v w => ∃ b, v = .slice (some ⟨b, 0, none⟩) 1 1 ∧ Blk w b [.int .i64 x.k, .string ⟨x.h.1.toArray⟩, .string ⟨x.h.2.toArray⟩, .string ⟨x.w.toArray⟩, .string ⟨x.b.1.toArray⟩, .string ⟨x.b.2.toArray⟩, .string ⟨x.c.1.toArray⟩, .string ⟨x.c.2.toArray⟩, .string ⟨x.e.toArray⟩] , fun _ _ _ hx ⟨b, h1, h2⟩ => ⟨b, h1, h2.ext hx⟩⟩)] [7, 10] [4, 5] (fun _ => True) [0, 1, 2, 3, 4, 5, 6, 7, 8, 9, 10] (by kernel_rfl) (by kernel_rfl) (by kernel_rfl) (by kernel_rfl) Ext.refl (fun _ _ _ => Ext.trans) (show Rg4.PB _ by repeat (first | with_reducible exact Rg4.pb_body | with_reducible exact Rg4.pb_bodyD rfl | with_reducible refine Rg4.pb_then ?_ | with_reducible refine Rg4.pb_inBlock ?_ | with_reducible refine Rg4.pb_noGoto ?_ | with_reducible assumption)) (trivial) ?_
  replace st := st.drew
  change Rg4.wp4 _ _ _ _ _ _ _ _ _ (World.drew _) _ _
  generalize World.drew _ = w at st ⊢
  (try clear hc); have hc := st.facts; (try simp only [nfl, nft, Nat.reduceAdd] at hc)
  iterate 4 (refine Rg4.w4_any (Rg4.want_none rfl) rfl ?_; apply Exists.intro; refine ⟨fun w' => ?_, ?_⟩; (focus (first | (go_simp; done) | (go_simp; first | rfl | (rw [if_neg] <;> first | rfl | omega) | (rw [if_pos] <;> first | rfl | omega)))); (try simp only [Rg4.nrm]))
  iterate 2 (refine Rg4.w4_read (Rg4.want_none rfl) rfl rfl ?_; apply Exists.intro; refine ⟨fun w' hw' hcl' => ?_, ?_⟩; focus (have st' := st.ext hw'; have hc' := st'.facts; (try simp only [nfl, nft, Nat.reduceAdd] at hc'); (focus (first | (go_simp; done) | (go_simp; first | rfl | (rw [if_neg] <;> first | rfl | omega) | (rw [if_pos] <;> first | rfl | omega))))); (try simp only [Rg4.nrm]))
  refine Rg4.w4_some (Rg4.want_none rfl) rfl (fun w' hw' hcl' _ => ?_) ?_
  · refine Rg.relAt_value (v := .slice (some ⟨w'.heap.size, 0, none⟩) 1 1) (w' := w'.alloc (.cells #[.int .i64 x.k, .string ⟨x.h.1.toArray⟩, .string ⟨x.h.2.toArray⟩, .string ⟨x.w.toArray⟩, .string ⟨x.b.1.toArray⟩, .string ⟨x.b.2.toArray⟩, .string ⟨x.c.1.toArray⟩, .string ⟨x.c.2.toArray⟩, .string ⟨x.e.toArray⟩] 28)) ?_ ⟨Ext.new _ _, trivial, _, rfl, Blk.new _ [_, _, _, _, _, _, _, _, _] _⟩
    go_simp
  rintro v ⟨_, _, _, b12, rfl, _⟩
  (try simp only [Rg4.nrm])

  refine Rg4.w4_bar (Rg4.want_none rfl) rfl (fun w' hw' hcl hF K hK => ?_)
  obtain ⟨b, hv, hblk⟩ := (hF 6).2 rfl
  cases hv
  replace st := st.ext hw'
  clear hF hcl hw'
  (try simp only [nsl, Value.cells, unB] at st)
  (try clear hc); have hc := st.facts; (try simp only [nfl, nft, Nat.reduceAdd] at hc)
  obtain ⟨inf, hinf, hz0, hz1, hz2⟩ := credInfoM
  refine owp_append rfl st 2 get2 Tryz.underlying45 hinf hz0 hz1 hz2 rfl (by decide) rfl rfl (hblk.flat rfl) (by simp [Value.oneCell']) (by simp only [maxLen]; omega) (by omega) ?_
  clear hinf hz0 hz1 hz2 inf hblk
  clear st
  intro v' w st
  obtain ⟨va', vc', rfl⟩ := own_slice (st.row (i := 2) get2)
  (try simp only [nsl, Value.cells, unB] at st)
  (try clear hc); have hc := st.facts; (try simp only [nfl, nft, Nat.reduceAdd] at hc)
  refine hK _ _ ⟨trivial, ?_⟩
  clear hK
  (try simp only [Rg4.nrm])
  iterate 2 (refine Rg4.w4_any (Rg4.want_none rfl) rfl ?_; apply Exists.intro; refine ⟨fun w' => ?_, ?_⟩; (focus (first | (go_simp; done) | (go_simp; first | rfl | (rw [if_neg] <;> first | rfl | omega) | (rw [if_pos] <;> first | rfl | omega)))); (try simp only [Rg4.nrm]))
  (refine Rg4.w4_bar (Rg4.want_none rfl) rfl (fun w' hw' hcl' _ K hK => ?_); replace st := st.ext hw'; (refine owp_store rfl st ?_; apply Exists.intro; apply Exists.intro; refine ⟨?_, ?_, ?_⟩; (focus (go_simp; try rfl)); (focus (go_simp; try rfl)); (first | (with_reducible refine ⟨0, _, _, _, _, get0, rfl, rfl, ?_, ?_, ?_, ?_⟩) | (with_reducible refine ⟨1, _, _, _, _, get1, rfl, rfl, ?_, ?_, ?_, ?_⟩) | (with_reducible refine ⟨2, _, _, _, _, get2, rfl, rfl, ?_, ?_, ?_, ?_⟩)); (kernel_rfl); (simp [Value.cells]); (rfl); (clear st; intro w st); (try simp only [nsl, Value.cells, unB] at st); (try clear hc); have hc := st.facts; (try simp only [nfl, nft, Nat.reduceAdd] at hc)); refine hK _ _ ⟨trivial, ?_⟩; (try simp only [Rg4.nrm]))
  refine Rg4.w4_nil (fun w' hw' hcl' _ => ?_); replace st := st.ext hw'; clear hw' hcl'; (try clear hc); have hc := st.facts; (try simp only [nfl, nft, Nat.reduceAdd] at hc)
  go_wp2_with fail
  refine (HRo.out _).mono ?_
  rintro en w ⟨ra, rc, rfl, hf⟩
  have hfl := (hf.fl (α := Role)).1
  replace st := st.fresh hf
  clear hf
  (try simp only [nsl, Value.cells, unB] at st)
  (try clear hc); have hc := st.facts; (try simp only [nfl, nft, Nat.reduceAdd] at hc)
  have hrc : 1 ≤ rc ∧ rc ≤ maxLen := hfl
  clear hfl
  go_wp2_with fail
  all_goals
    refine wp_loop_rounds 1 ?_
    rw [rounds_succ]
    go_wp2_with fail
    go_end0
    exact ⟨_, _, rfl, by simpa [pick] using st.keep [0] (by decide) (by simp)⟩
set_option maxRecDepth 100000 in
set_option maxHeartbeats 4000000 in
theorem beginM {fr al : Nat → Prop} {w0 w : World} (x : CredT) (k1 : x.k = 1) (m bi bu bw : Nat) (crs : Value) (h1 : crs.oneCell' = true) (st : Own fr al w0 [blkI m [.map (some bi), crs, .map (some bu), .map (some bw), .slice none 0 0, .int .i64 0], mapG kcR bi []] w) :
    Calls Tryz.prog 50 #[.pointer (some ⟨m, 0, none⟩), cV x] w fun e w' => ∃ b1 v, e = .returned (.tuple #[]) ∧
      Own fr al w0 [blkI m [.map (some bi), crs, .map (some bu), .map (some bw), v, .int .i64 1], mapG kcR bi [(x.h, .map (some b1))], mapG kcS b1 [(x.w, .bool true)], rowI 30 3 v 1 [.string ⟨x.h.1.toArray⟩, .string ⟨x.h.2.toArray⟩, .string ⟨x.w.toArray⟩]] w' := by
  have hk : (x.k == 1) = true := by rw [k1]; rfl
  clear k1
  obtain ⟨kk, ⟨o, d⟩, wh, b, c, e⟩ := x
  unfold cV S at *
  (try simp only [nsl, Value.cells, unB] at st)
  (try clear hc); have hc := st.facts; (try simp only [nfl, nft, Nat.reduceAdd] at hc)
  simp only at hk
  go_enter Tryz.func50, Tryz.ntmps50
  go_wp2_with ((((with_reducible refine wl_box ?_ (fun K hK => ?_)); rfl; refine owp_box (o := ⟨some 3, _, _, _, _, _⟩) rfl st ?_; apply Exists.intro; refine ⟨?_, ?_⟩; (focus (go_simp; try rfl)); (clear st; intro b3 w hb st; clear hb))); (try simp only [nsl, Value.cells, unB] at st); (try clear hc); have hc := st.facts; (try simp only [nfl, nft, Nat.reduceAdd] at hc))
  obtain ⟨fr', al', st', back⟩ := st.sub [0, 1] (by decide) (by simp)
  (try simp only [nsl, Value.cells, unB] at st')
  refine (tellFirst o d wh m bi bu bw crs h1 st').mono ?_
  clear st'
  rintro en w ⟨b1, v, rfl, st'⟩
  replace st := back _ _ (by simp) st'
  clear back st'
  (try simp only [nsl, Value.cells, unB] at st)
  (try clear hc); have hc := st.facts; (try simp only [nfl, nft, Nat.reduceAdd] at hc)
  go_wp2_with ((((with_reducible refine wl_box ?_ (fun K hK => ?_)); rfl; refine owp_box (o := ⟨some 3, _, _, _, _, _⟩) rfl st ?_; apply Exists.intro; refine ⟨?_, ?_⟩; (focus (go_simp; try rfl)); (clear st; intro b3 w hb st; clear hb))); (try simp only [nsl, Value.cells, unB] at st); (try clear hc); have hc := st.facts; (try simp only [nfl, nft, Nat.reduceAdd] at hc))
  go_end0
  exact ⟨_, _, rfl, by simpa [pick] using st.keep [0, 1, 3, 4] (by decide) (by simp)⟩
end Go.Proofs.YthjibbakjbbniaaGreatDoor

namespace Go.Proofs.YthjibbakjbbniaaGreatDoor
set_option linter.unusedSimpArgs false
set_option linter.unusedVariables false
open Go Go.RowKit
set_option maxRecDepth 100000 in
set_option maxHeartbeats 4000000 in
theorem settleM {fr al : Nat → Prop} {w0 w : World} (o d wh : List UInt8) (m bu bw : Nat) (inn crs v : Value) (h1 : crs.oneCell' = true) (h2 : inn.oneCell' = true) (st : Own fr al w0 [blkI m [inn, crs, .map (some bu), .map (some bw), v, .int .i64 1], mapG kcR bu [], mapG kcS bw [], rowI 30 3 v 1 [.string ⟨o.toArray⟩, .string ⟨d.toArray⟩, .string ⟨wh.toArray⟩]] w) :
    Calls Tryz.prog 51 #[.pointer (some ⟨m, 0, none⟩)] w fun e w' => ∃ v', e = .returned (.tuple #[]) ∧ Own fr al w0 [blkI m [inn, crs, .map (some bu), .map (some bw), v', .int .i64 1], mapG kcR bu [], mapG kcS bw [], rowI 30 3 v 1 [.string ⟨o.toArray⟩, .string ⟨d.toArray⟩, .string ⟨wh.toArray⟩]] w' := by
  obtain ⟨va, vc, rfl, hvc, hfl⟩ := Own.rowFl (α := FactT) (xs := [⟨(o, d), wh⟩]) st (i := 3) get3
  obtain ⟨b, off, rfl, hcell⟩ := hfl.2 (by decide)
  have r0 : w.cell? ⟨b, off, none⟩ = some (.string ⟨o.toArray⟩) := hcell 0 _ rfl 0 _ rfl
  have r1 : w.cell? ⟨b, off + 1, none⟩ = some (.string ⟨d.toArray⟩) := hcell 0 _ rfl 1 _ rfl
  have r2 : w.cell? ⟨b, off + 2, none⟩ = some (.string ⟨wh.toArray⟩) := hcell 0 _ rfl 2 _ rfl
  clear hfl hcell
  obtain ⟨hv1, hv2⟩ := hvc
  (try simp only [nsl, Value.cells, unB] at st)
  (try clear hc); have hc := st.facts; (try simp only [nfl, nft, Nat.reduceAdd] at hc)
  by_cases hvc : vc = 1
  case' pos => subst hvc
  all_goals
    go_enter Tryz.func51, Tryz.ntmps51
    go_wp2_with fail
    refine wp_loop_rounds 2 ?_
    rw [rounds_succ]
    go_wp2_with ((first
          | ((with_reducible refine wl_alloc ?_ (fun K hK => ?_)); rfl; refine owp_alloc (o := ⟨some 2, _, _, _, _, _⟩) rfl st ?_; apply Exists.intro; apply Exists.intro; refine ⟨?_, ?_⟩; (focus (first | (go_simp; done) | (go_simp; rfl))); (clear st; intro b2 w hb st; clear hb))
          | ((with_reducible refine wl_store ?_ (fun K hK => ?_)); rfl; refine owp_store rfl st ?_; apply Exists.intro; apply Exists.intro; refine ⟨?_, ?_, ?_⟩; (focus (go_simp; try rfl)); (focus (go_simp; try rfl)); (first | (with_reducible refine ⟨0, _, _, _, _, get0, rfl, rfl, ?_, ?_, ?_, ?_⟩) | (with_reducible refine ⟨1, _, _, _, _, get1, rfl, rfl, ?_, ?_, ?_, ?_⟩) | (with_reducible refine ⟨2, _, _, _, _, get2, rfl, rfl, ?_, ?_, ?_, ?_⟩) | (with_reducible refine ⟨3, _, _, _, _, get3, rfl, rfl, ?_, ?_, ?_, ?_⟩) | (with_reducible refine ⟨4, _, _, _, _, get4, rfl, rfl, ?_, ?_, ?_, ?_⟩) | (with_reducible refine ⟨5, _, _, _, _, get5, rfl, rfl, ?_, ?_, ?_, ?_⟩)); (kernel_rfl); (simp [Value.cells]); (rfl); (clear st; intro w st))
          | ((with_reducible refine wl_alloc ?_ (fun K hK => ?_)); rfl; refine owp_alloc (o := ⟨some 4, _, _, _, _, _⟩) rfl st ?_; apply Exists.intro; apply Exists.intro; refine ⟨?_, ?_⟩; (focus (first | (go_simp; done) | (go_simp; rfl))); (clear st; intro b4 w hb st; clear hb))
          | ((with_reducible refine wl_alloc ?_ (fun K hK => ?_)); rfl; refine owp_alloc (o := ⟨some 6, _, _, _, _, _⟩) rfl st ?_; apply Exists.intro; apply Exists.intro; refine ⟨?_, ?_⟩; (focus (first | (go_simp; done) | (go_simp; rfl))); (clear st; intro b6 w hb st; clear hb))); (try simp only [nsl, Value.cells, unB] at st); (try clear hc); have hc := st.facts; (try simp only [nfl, nft, Nat.reduceAdd] at hc))
    refine Rg4.wp_region4_eq #[0, 1, 3, 7, 0, 16, 63, 127, 0] [] [3, 5, 6] (fun _ => True) [0, 1, 2, 3, 4, 5, 6, 7, 8] (by kernel_rfl) (by kernel_rfl) (by kernel_rfl) (by kernel_rfl) (show Rg4.PB _ by repeat (first | with_reducible exact Rg4.pb_body | with_reducible exact Rg4.pb_bodyD rfl | with_reducible refine Rg4.pb_then ?_ | with_reducible refine Rg4.pb_inBlock ?_ | with_reducible refine Rg4.pb_noGoto ?_ | with_reducible assumption)) (trivial) ?_
    replace st := st.drew
    change Rg4.wp4 _ _ _ _ _ _ _ _ _ (World.drew _) _ _
    generalize World.drew _ = w at st ⊢
    (try clear hc); have hc := st.facts; (try simp only [nfl, nft, Nat.reduceAdd] at hc)
    iterate 3 (refine Rg4.w4_any (Rg4.want_none rfl) rfl ?_; apply Exists.intro; refine ⟨fun w' => ?_, ?_⟩; (focus (first | (go_simp; done) | (go_simp; first | rfl | (rw [if_neg] <;> first | rfl | omega) | (rw [if_pos] <;> first | rfl | omega)))); (try simp only [Rg4.nrm]))
    (refine Rg4.w4_read (Rg4.want_none rfl) rfl rfl ?_; apply Exists.intro; refine ⟨fun w' hw' hcl' => ?_, ?_⟩; focus (subst hw'; have q0 := st.lookUses (i := 1) get1 o d; simp only [gGet_nil, Option.getD_none] at q0; (focus (first | (go_simp; done) | (go_simp; first | rfl | (rw [if_neg] <;> first | rfl | omega) | (rw [if_pos] <;> first | rfl | omega))))); (try simp only [Rg4.nrm]))
    (refine Rg4.w4_any (Rg4.want_none rfl) rfl ?_; apply Exists.intro; refine ⟨fun w' => ?_, ?_⟩; (focus (first | (go_simp; done) | (go_simp; first | rfl | (rw [if_neg] <;> first | rfl | omega) | (rw [if_pos] <;> first | rfl | omega)))); (try simp only [Rg4.nrm]))
    iterate 2 (refine Rg4.w4_read (Rg4.want_none rfl) rfl rfl ?_; apply Exists.intro; refine ⟨fun w' hw' hcl' => ?_, ?_⟩; focus (subst hw'; have q0 := st.lookUses (i := 1) get1 o d; simp only [gGet_nil, Option.getD_none] at q0; (focus (first | (go_simp; done) | (go_simp; first | rfl | (rw [if_neg] <;> first | rfl | omega) | (rw [if_pos] <;> first | rfl | omega))))); (try simp only [Rg4.nrm]))
    iterate 2 (refine Rg4.w4_any (Rg4.want_none rfl) rfl ?_; apply Exists.intro; refine ⟨fun w' => ?_, ?_⟩; (focus (first | (go_simp; done) | (go_simp; first | rfl | (rw [if_neg] <;> first | rfl | omega) | (rw [if_pos] <;> first | rfl | omega)))); (try simp only [Rg4.nrm]))
    refine Rg4.w4_nil (fun w' hw' hcl' _ => ?_); subst hw'; clear hcl'
    go_wp2_with fail
    refine wp_loop_rounds 1 ?_
    rw [rounds_succ]
    go_wp2_with fail
    refine Rg4.wp_region4_eq #[0, 1, 3, 7, 0, 16, 48, 127, 255, 0] [] [3, 6, 7] (fun _ => True) [0, 1, 2, 3, 4, 5, 6, 7, 8, 9] (by kernel_rfl) (by kernel_rfl) (by kernel_rfl) (by kernel_rfl) (show Rg4.PB _ by repeat (first | with_reducible exact Rg4.pb_body | with_reducible exact Rg4.pb_bodyD rfl | with_reducible refine Rg4.pb_then ?_ | with_reducible refine Rg4.pb_inBlock ?_ | with_reducible refine Rg4.pb_noGoto ?_ | with_reducible assumption)) (trivial) ?_
    replace st := st.drew
    change Rg4.wp4 _ _ _ _ _ _ _ _ _ (World.drew _) _ _
    generalize World.drew _ = w at st ⊢
    (try clear hc); have hc := st.facts; (try simp only [nfl, nft, Nat.reduceAdd] at hc)
    iterate 3 (refine Rg4.w4_any (Rg4.want_none rfl) rfl ?_; apply Exists.intro; refine ⟨fun w' => ?_, ?_⟩; (focus (first | (go_simp; done) | (go_simp; first | rfl | (rw [if_neg] <;> first | rfl | omega) | (rw [if_pos] <;> first | rfl | omega)))); (try simp only [Rg4.nrm]))
    (refine Rg4.w4_read (Rg4.want_none rfl) rfl rfl ?_; apply Exists.intro; refine ⟨fun w' hw' hcl' => ?_, ?_⟩; focus (subst hw'; have q0 := st.lookWords (i := 2) get2 d; simp only [gGet_nil, Option.getD_none] at q0; (focus (first | (go_simp; done) | (go_simp; first | rfl | (rw [if_neg] <;> first | rfl | omega) | (rw [if_pos] <;> first | rfl | omega))))); (try simp only [Rg4.nrm]))
    iterate 2 (refine Rg4.w4_any (Rg4.want_none rfl) rfl ?_; apply Exists.intro; refine ⟨fun w' => ?_, ?_⟩; (focus (first | (go_simp; done) | (go_simp; first | rfl | (rw [if_neg] <;> first | rfl | omega) | (rw [if_pos] <;> first | rfl | omega)))); (try simp only [Rg4.nrm]))
    iterate 2 (refine Rg4.w4_read (Rg4.want_none rfl) rfl rfl ?_; apply Exists.intro; refine ⟨fun w' hw' hcl' => ?_, ?_⟩; focus (subst hw'; have q0 := st.lookWords (i := 2) get2 d; simp only [gGet_nil, Option.getD_none] at q0; (focus (first | (go_simp; done) | (go_simp; first | rfl | (rw [if_neg] <;> first | rfl | omega) | (rw [if_pos] <;> first | rfl | omega))))); (try simp only [Rg4.nrm]))
    iterate 2 (refine Rg4.w4_any (Rg4.want_none rfl) rfl ?_; apply Exists.intro; refine ⟨fun w' => ?_, ?_⟩; (focus (first | (go_simp; done) | (go_simp; first | rfl | (rw [if_neg] <;> first | rfl | omega) | (rw [if_pos] <;> first | rfl | omega)))); (try simp only [Rg4.nrm]))
    refine Rg4.w4_nil (fun w' hw' hcl' _ => ?_); subst hw'; clear hcl'
    go_wp2_with fail
    refine wp_loop_rounds 1 ?_
    rw [rounds_succ]
    go_wp2_with fail
    rw [rounds_succ]
    go_wp2_with fail
    go_end0
    exact ⟨_, rfl, by simpa [pick] using st.keep [0, 1, 2, 3] (by decide) (by simp)⟩
end Go.Proofs.YthjibbakjbbniaaGreatDoor

namespace Go.Proofs.YthjibbakjbbniaaGreatDoor
set_option linter.unusedSimpArgs false
set_option linter.unusedVariables false
open Go Go.RowKit
set_option maxRecDepth 100000 in
set_option maxHeartbeats 4000000 in
theorem addM {fr al : Nat → Prop} {W w0 w : World} (x : CredT) (k1 : x.k = 1) (hr : credR x = true) (hl : CredL 100000 x) (a c m bi bu bw : Nat) (hx : Fl W (some ⟨a, 0, none⟩) 1 [x]) (st : Own fr al w0 [oldI W, blkI m [.map (some bi), .slice none 0 0, .map (some bu), .map (some bw), .slice none 0 0, .int .i64 0], mapG kcR bi [], mapG kcR bu [], mapG kcS bw []] w) :
    Calls Tryz.prog 37 #[.pointer (some ⟨m, 0, none⟩), .slice (some ⟨a, 0, none⟩) 1 c] w fun e w' => ∃ b1 cr td, e = .returned (.int .i64 1) ∧
      Own fr al w0 [oldI W, blkI m [.map (some bi), cr, .map (some bu), .map (some bw), td, .int .i64 1], mapG kcR bi [(x.h, .map (some b1))], mapG kcR bu [], mapG kcS bw [], mapG kcS b1 [(x.w, .bool true)]] w' := by
  have HR := Lib.hid (fun W => credRight_any x W (by unfold CredL at hl; omega))
  have HH := Lib.hid (fun W => credHas_any none 0 0 [] x W (Fl.nil _ _) (by decide))
  have HN := Lib.hid (fun fr al w0 w cc nn h1 h2 st => noteM (fr := fr) (al := al) (w0 := w0) (w := w) x k1 hr hl m bi bu bw cc nn h1 h2 st)
  have HB := Lib.hid (fun fr al w0 w crs h1 st => beginM (fr := fr) (al := al) (w0 := w0) (w := w) x k1 m bi bu bw crs h1 st)
  have HS := Lib.hid (fun fr al w0 w inn crs v h1 h2 st => settleM (fr := fr) (al := al) (w0 := w0) (w := w) x.h.1 x.h.2 x.w m bu bw inn crs v h1 h2 st)
  rw [hr] at HR
  clear k1 hr hl
  obtain ⟨b, off, e, hcell⟩ := hx.2 (by decide)
  cases e
  have hcell := hcell 0 x rfl
  have r0 := st.oldCell (i := 0) get0 (hcell 0 _ rfl)
  have r1 := st.oldCell (i := 0) get0 (hcell 1 _ rfl)
  have r2 := st.oldCell (i := 0) get0 (hcell 2 _ rfl)
  have r3 := st.oldCell (i := 0) get0 (hcell 3 _ rfl)
  have r4 := st.oldCell (i := 0) get0 (hcell 4 _ rfl)
  have r5 := st.oldCell (i := 0) get0 (hcell 5 _ rfl)
  have r6 := st.oldCell (i := 0) get0 (hcell 6 _ rfl)
  have r7 := st.oldCell (i := 0) get0 (hcell 7 _ rfl)
  have r8 := st.oldCell (i := 0) get0 (hcell 8 _ rfl)
  clear hcell hx
  simp only [Nat.zero_mul, Nat.zero_add, Nat.add_zero] at r0 r1 r2 r3 r4 r5 r6 r7 r8
  unfold cV S at *
  (try simp only [nsl, Value.cells, unB] at st)
  (try clear hc); have hc := st.facts; (try simp only [nfl, nft, Nat.reduceAdd] at hc)
  go_enter Tryz.func37, Tryz.ntmps37
  go_wp2_with ((first
        | ((with_reducible refine wl_alloc ?_ (fun K hK => ?_)); rfl; refine owp_alloc (o := ⟨some 7, _, _, _, _, _⟩) rfl st ?_; apply Exists.intro; apply Exists.intro; refine ⟨?_, ?_⟩; (focus (first | (go_simp; done) | (go_simp; rfl))); (clear st; intro b7 w hb st; clear hb))
        | ((with_reducible refine wl_store ?_ (fun K hK => ?_)); rfl; refine owp_store rfl st ?_; apply Exists.intro; apply Exists.intro; refine ⟨?_, ?_, ?_⟩; (focus (go_simp; try rfl)); (focus (go_simp; try rfl)); (first | (with_reducible refine ⟨0, _, _, _, _, get0, rfl, rfl, ?_, ?_, ?_, ?_⟩) | (with_reducible refine ⟨1, _, _, _, _, get1, rfl, rfl, ?_, ?_, ?_, ?_⟩) | (with_reducible refine ⟨2, _, _, _, _, get2, rfl, rfl, ?_, ?_, ?_, ?_⟩) | (with_reducible refine ⟨3, _, _, _, _, get3, rfl, rfl, ?_, ?_, ?_, ?_⟩) | (with_reducible refine ⟨4, _, _, _, _, get4, rfl, rfl, ?_, ?_, ?_, ?_⟩) | (with_reducible refine ⟨5, _, _, _, _, get5, rfl, rfl, ?_, ?_, ?_, ?_⟩) | (with_reducible refine ⟨6, _, _, _, _, get6, rfl, rfl, ?_, ?_, ?_, ?_⟩)); (kernel_rfl); (simp [Value.cells]); (rfl); (clear st; intro w st))); (try simp only [nsl, Value.cells, unB] at st); (try clear hc); have hc := st.facts; (try simp only [nfl, nft, Nat.reduceAdd] at hc))
  refine wp_loop_rounds 2 ?_
  rw [rounds_succ]
  go_wp2_with ((first
        | ((with_reducible refine wl_alloc ?_ (fun K hK => ?_)); rfl; refine owp_alloc (o := ⟨some 7, _, _, _, _, _⟩) rfl st ?_; apply Exists.intro; apply Exists.intro; refine ⟨?_, ?_⟩; (focus (first | (go_simp; done) | (go_simp; rfl))); (clear st; intro b7 w hb st; clear hb))
        | ((with_reducible refine wl_store ?_ (fun K hK => ?_)); rfl; refine owp_store rfl st ?_; apply Exists.intro; apply Exists.intro; refine ⟨?_, ?_, ?_⟩; (focus (go_simp; try rfl)); (focus (go_simp; try rfl)); (first | (with_reducible refine ⟨0, _, _, _, _, get0, rfl, rfl, ?_, ?_, ?_, ?_⟩) | (with_reducible refine ⟨1, _, _, _, _, get1, rfl, rfl, ?_, ?_, ?_, ?_⟩) | (with_reducible refine ⟨2, _, _, _, _, get2, rfl, rfl, ?_, ?_, ?_, ?_⟩) | (with_reducible refine ⟨3, _, _, _, _, get3, rfl, rfl, ?_, ?_, ?_, ?_⟩) | (with_reducible refine ⟨4, _, _, _, _, get4, rfl, rfl, ?_, ?_, ?_, ?_⟩) | (with_reducible refine ⟨5, _, _, _, _, get5, rfl, rfl, ?_, ?_, ?_, ?_⟩) | (with_reducible refine ⟨6, _, _, _, _, get6, rfl, rfl, ?_, ?_, ?_, ?_⟩)); (kernel_rfl); (simp [Value.cells]); (rfl); (clear st; intro w st))); (try simp only [nsl, Value.cells, unB] at st); (try clear hc); have hc := st.facts; (try simp only [nfl, nft, Nat.reduceAdd] at hc))
  clear r0 r1 r2 r3 r4 r5 r6 r7 r8
  refine Rg4.wp_region4_eq #[0, 1, 3, 7, 15, 31, 63, 7, 255, 511, 1023] [1, 8] [0, 6, 7] (fun _ => True) [0, 1, 2, 3, 4, 5, 6, 7, 8, 9, 10] (by kernel_rfl) (by kernel_rfl) (by kernel_rfl) (by kernel_rfl) (show Rg4.PB _ by repeat (first | with_reducible exact Rg4.pb_body | with_reducible exact Rg4.pb_bodyD rfl | with_reducible refine Rg4.pb_then ?_ | with_reducible refine Rg4.pb_inBlock ?_ | with_reducible refine Rg4.pb_noGoto ?_ | with_reducible assumption)) (trivial) ?_
  replace st := st.drew
  change Rg4.wp4 _ _ _ _ _ _ _ _ _ (World.drew _) _ _
  generalize World.drew _ = w at st ⊢
  (try clear hc); have hc := st.facts; (try simp only [nfl, nft, Nat.reduceAdd] at hc)
  (refine Rg4.w4_read (Rg4.want_none rfl) rfl rfl ?_; apply Exists.intro; refine ⟨fun w' hw' hcl' => ?_, ?_⟩; focus (subst hw'; (focus (first | (go_simp; done) | (go_simp; first | rfl | (rw [if_neg] <;> first | rfl | omega) | (rw [if_pos] <;> first | rfl | omega))))); (try simp only [Rg4.nrm]))
  refine Rg4.w4_bar (Rg4.want_none rfl) rfl (fun w' hw' hcl _ K hK => ?_)
  subst hw'
  go_wp2_with fail
  refine (HR.out _).mono ?_
  rintro en w ⟨rfl, hx⟩
  replace st := st.ext hx
  clear hx
  (try clear hc); have hc := st.facts; (try simp only [nfl, nft, Nat.reduceAdd] at hc)
  refine hK _ _ ⟨trivial, ?_⟩
  clear hK
  (try simp only [Rg4.nrm])
  (refine Rg4.w4_any (Rg4.want_none rfl) rfl ?_; apply Exists.intro; refine ⟨fun w' => ?_, ?_⟩; (focus (first | (go_simp; done) | (go_simp; first | rfl | (rw [if_neg] <;> first | rfl | omega) | (rw [if_pos] <;> first | rfl | omega)))); (try simp only [Rg4.nrm]))
  iterate 3 (first | (refine Rg4.w4_any (Rg4.wt rfl rfl rfl) rfl ?_; apply Exists.intro; refine ⟨fun w' => ?_, ?_⟩; (focus (first | (go_simp; done) | (go_simp; first | rfl | (rw [if_neg] <;> first | rfl | omega) | (rw [if_pos] <;> first | rfl | omega)))); (try simp only [Rg4.nrm])) | (refine Rg4.w4_skip (Rg4.uw rfl rfl rfl) ?_; (try simp only [Rg4.nrm])) | (refine Rg4.w4_skip (Rg4.un rfl rfl rfl) ?_; (try simp only [Rg4.nrm])))
  iterate 2 (first | (refine Rg4.w4_read (Rg4.wt rfl rfl rfl) rfl rfl ?_; apply Exists.intro; refine ⟨fun w' hw' hcl' => ?_, ?_⟩; focus (subst hw'; (focus (first | (go_simp; done) | (go_simp; first | rfl | (rw [if_neg] <;> first | rfl | omega) | (rw [if_pos] <;> first | rfl | omega))))); (try simp only [Rg4.nrm])) | (refine Rg4.w4_skip (Rg4.uw rfl rfl rfl) ?_; (try simp only [Rg4.nrm])) | (refine Rg4.w4_skip (Rg4.un rfl rfl rfl) ?_; (try simp only [Rg4.nrm])))
  refine Rg4.w4_bar (Rg4.want_of 2 22 true rfl rfl rfl) rfl (fun w' hw' hcl _ K hK => ?_)
  subst hw'
  go_wp2_with fail
  refine (HH.out _).mono ?_
  rintro en w ⟨rfl, hx⟩
  replace st := st.ext hx
  clear hx
  (try clear hc); have hc := st.facts; (try simp only [nfl, nft, Nat.reduceAdd] at hc)
  refine hK _ _ ⟨trivial, ?_⟩
  clear hK
  (try simp only [Rg4.nrm])
  (first | (refine Rg4.w4_any (Rg4.wt rfl rfl rfl) rfl ?_; apply Exists.intro; refine ⟨fun w' => ?_, ?_⟩; (focus (first | (go_simp; done) | (go_simp; first | rfl | (rw [if_neg] <;> first | rfl | omega) | (rw [if_pos] <;> first | rfl | omega)))); (try simp only [Rg4.nrm])) | (refine Rg4.w4_skip (Rg4.uw rfl rfl rfl) ?_; (try simp only [Rg4.nrm])) | (refine Rg4.w4_skip (Rg4.un rfl rfl rfl) ?_; (try simp only [Rg4.nrm])))
  (refine Rg4.w4_any (Rg4.want_none rfl) rfl ?_; apply Exists.intro; refine ⟨fun w' => ?_, ?_⟩; (focus (first | (go_simp; done) | (go_simp; first | rfl | (rw [if_neg] <;> first | rfl | omega) | (rw [if_pos] <;> first | rfl | omega)))); (try simp only [Rg4.nrm]))
  refine Rg4.w4_nil (fun w' hw' hcl' _ => ?_); subst hw'; clear hcl'
  go_wp2_with fail
  obtain ⟨fr', al', st', back⟩ := st.sub [1] (by decide) (by simp)
  (try simp only [nsl, Value.cells, unB] at st')
  refine (HN.out _ _ _ _ _ _ rfl rfl st').mono ?_
  clear st'
  rintro en w ⟨va, vc, rfl, st'⟩
  replace st := back _ _ (by simp) st'
  clear back st'
  (try simp only [nsl, Value.cells, unB] at st)
  (try clear hc); have hc := st.facts; (try simp only [nfl, nft, Nat.reduceAdd] at hc)
  go_wp2_with ((first
        | ((with_reducible refine wl_alloc ?_ (fun K hK => ?_)); rfl; refine owp_alloc (o := ⟨some 7, _, _, _, _, _⟩) rfl st ?_; apply Exists.intro; apply Exists.intro; refine ⟨?_, ?_⟩; (focus (first | (go_simp; done) | (go_simp; rfl))); (clear st; intro b7 w hb st; clear hb))
        | ((with_reducible refine wl_store ?_ (fun K hK => ?_)); rfl; refine owp_store rfl st ?_; apply Exists.intro; apply Exists.intro; refine ⟨?_, ?_, ?_⟩; (focus (go_simp; try rfl)); (focus (go_simp; try rfl)); (first | (with_reducible refine ⟨0, _, _, _, _, get0, rfl, rfl, ?_, ?_, ?_, ?_⟩) | (with_reducible refine ⟨1, _, _, _, _, get1, rfl, rfl, ?_, ?_, ?_, ?_⟩) | (with_reducible refine ⟨2, _, _, _, _, get2, rfl, rfl, ?_, ?_, ?_, ?_⟩) | (with_reducible refine ⟨3, _, _, _, _, get3, rfl, rfl, ?_, ?_, ?_, ?_⟩) | (with_reducible refine ⟨4, _, _, _, _, get4, rfl, rfl, ?_, ?_, ?_, ?_⟩) | (with_reducible refine ⟨5, _, _, _, _, get5, rfl, rfl, ?_, ?_, ?_, ?_⟩) | (with_reducible refine ⟨6, _, _, _, _, get6, rfl, rfl, ?_, ?_, ?_, ?_⟩)); (kernel_rfl); (simp [Value.cells]); (rfl); (clear st; intro w st))); (try simp only [nsl, Value.cells, unB] at st); (try clear hc); have hc := st.facts; (try simp only [nfl, nft, Nat.reduceAdd] at hc))
  obtain ⟨fr', al', st', back⟩ := st.sub [1, 2] (by decide) (by simp)
  (try simp only [nsl, Value.cells, unB] at st')
  refine (HB.out _ _ _ _ _ rfl st').mono ?_
  clear st'
  rintro en w ⟨b1, v, rfl, st'⟩
  replace st := back _ _ (by simp) st'
  clear back st'
  (try simp only [nsl, Value.cells, unB] at st)
  (try clear hc); have hc := st.facts; (try simp only [nfl, nft, Nat.reduceAdd] at hc)
  go_wp2_with ((first
        | ((with_reducible refine wl_alloc ?_ (fun K hK => ?_)); rfl; refine owp_alloc (o := ⟨some 7, _, _, _, _, _⟩) rfl st ?_; apply Exists.intro; apply Exists.intro; refine ⟨?_, ?_⟩; (focus (first | (go_simp; done) | (go_simp; rfl))); (clear st; intro b7 w hb st; clear hb))
        | ((with_reducible refine wl_store ?_ (fun K hK => ?_)); rfl; refine owp_store rfl st ?_; apply Exists.intro; apply Exists.intro; refine ⟨?_, ?_, ?_⟩; (focus (go_simp; try rfl)); (focus (go_simp; try rfl)); (first | (with_reducible refine ⟨0, _, _, _, _, get0, rfl, rfl, ?_, ?_, ?_, ?_⟩) | (with_reducible refine ⟨1, _, _, _, _, get1, rfl, rfl, ?_, ?_, ?_, ?_⟩) | (with_reducible refine ⟨2, _, _, _, _, get2, rfl, rfl, ?_, ?_, ?_, ?_⟩) | (with_reducible refine ⟨3, _, _, _, _, get3, rfl, rfl, ?_, ?_, ?_, ?_⟩) | (with_reducible refine ⟨4, _, _, _, _, get4, rfl, rfl, ?_, ?_, ?_, ?_⟩) | (with_reducible refine ⟨5, _, _, _, _, get5, rfl, rfl, ?_, ?_, ?_, ?_⟩) | (with_reducible refine ⟨6, _, _, _, _, get6, rfl, rfl, ?_, ?_, ?_, ?_⟩)); (kernel_rfl); (simp [Value.cells]); (rfl); (clear st; intro w st))); (try simp only [nsl, Value.cells, unB] at st); (try clear hc); have hc := st.facts; (try simp only [nfl, nft, Nat.reduceAdd] at hc))
  rw [rounds_succ]
  go_wp2_with ((first
        | ((with_reducible refine wl_alloc ?_ (fun K hK => ?_)); rfl; refine owp_alloc (o := ⟨some 7, _, _, _, _, _⟩) rfl st ?_; apply Exists.intro; apply Exists.intro; refine ⟨?_, ?_⟩; (focus (first | (go_simp; done) | (go_simp; rfl))); (clear st; intro b7 w hb st; clear hb))
        | ((with_reducible refine wl_store ?_ (fun K hK => ?_)); rfl; refine owp_store rfl st ?_; apply Exists.intro; apply Exists.intro; refine ⟨?_, ?_, ?_⟩; (focus (go_simp; try rfl)); (focus (go_simp; try rfl)); (first | (with_reducible refine ⟨0, _, _, _, _, get0, rfl, rfl, ?_, ?_, ?_, ?_⟩) | (with_reducible refine ⟨1, _, _, _, _, get1, rfl, rfl, ?_, ?_, ?_, ?_⟩) | (with_reducible refine ⟨2, _, _, _, _, get2, rfl, rfl, ?_, ?_, ?_, ?_⟩) | (with_reducible refine ⟨3, _, _, _, _, get3, rfl, rfl, ?_, ?_, ?_, ?_⟩) | (with_reducible refine ⟨4, _, _, _, _, get4, rfl, rfl, ?_, ?_, ?_, ?_⟩) | (with_reducible refine ⟨5, _, _, _, _, get5, rfl, rfl, ?_, ?_, ?_, ?_⟩) | (with_reducible refine ⟨6, _, _, _, _, get6, rfl, rfl, ?_, ?_, ?_, ?_⟩)); (kernel_rfl); (simp [Value.cells]); (rfl); (clear st; intro w st))); (try simp only [nsl, Value.cells, unB] at st); (try clear hc); have hc := st.facts; (try simp only [nfl, nft, Nat.reduceAdd] at hc))
  obtain ⟨fr', al', st', back⟩ := st.sub [1, 3, 4, 7] (by decide) (by simp)
  (try simp only [nsl, Value.cells, unB] at st')
  refine (HS.out _ _ _ _ _ _ _ rfl rfl st').mono ?_
  clear st'
  rintro en w ⟨v', rfl, st'⟩
  replace st := back _ _ (by simp) st'
  clear back st'
  (try simp only [nsl, Value.cells, unB] at st)
  (try clear hc); have hc := st.facts; (try simp only [nfl, nft, Nat.reduceAdd] at hc)
  go_wp2_with ((first
        | ((with_reducible refine wl_alloc ?_ (fun K hK => ?_)); rfl; refine owp_alloc (o := ⟨some 7, _, _, _, _, _⟩) rfl st ?_; apply Exists.intro; apply Exists.intro; refine ⟨?_, ?_⟩; (focus (first | (go_simp; done) | (go_simp; rfl))); (clear st; intro b7 w hb st; clear hb))
        | ((with_reducible refine wl_store ?_ (fun K hK => ?_)); rfl; refine owp_store rfl st ?_; apply Exists.intro; apply Exists.intro; refine ⟨?_, ?_, ?_⟩; (focus (go_simp; try rfl)); (focus (go_simp; try rfl)); (first | (with_reducible refine ⟨0, _, _, _, _, get0, rfl, rfl, ?_, ?_, ?_, ?_⟩) | (with_reducible refine ⟨1, _, _, _, _, get1, rfl, rfl, ?_, ?_, ?_, ?_⟩) | (with_reducible refine ⟨2, _, _, _, _, get2, rfl, rfl, ?_, ?_, ?_, ?_⟩) | (with_reducible refine ⟨3, _, _, _, _, get3, rfl, rfl, ?_, ?_, ?_, ?_⟩) | (with_reducible refine ⟨4, _, _, _, _, get4, rfl, rfl, ?_, ?_, ?_, ?_⟩) | (with_reducible refine ⟨5, _, _, _, _, get5, rfl, rfl, ?_, ?_, ?_, ?_⟩) | (with_reducible refine ⟨6, _, _, _, _, get6, rfl, rfl, ?_, ?_, ?_, ?_⟩)); (kernel_rfl); (simp [Value.cells]); (rfl); (clear st; intro w st))); (try simp only [nsl, Value.cells, unB] at st); (try clear hc); have hc := st.facts; (try simp only [nfl, nft, Nat.reduceAdd] at hc))
  go_ret
  exact ⟨_, _, _, rfl, by simpa [pick] using st.keep [0, 1, 2, 3, 4, 6] (by decide) (by simp)⟩
set_option maxRecDepth 100000 in
set_option maxHeartbeats 4000000 in
theorem ofM {fr al : Nat → Prop} {W w0 w : World} (x : CredT) (k1 : x.k = 1) (hr : credR x = true) (hl : CredL 100000 x) (a c : Nat) (hx : Fl W (some ⟨a, 0, none⟩) 1 [x]) (st : Own fr al w0 [oldI W] w) :
    Calls Tryz.prog 24 #[.slice (some ⟨a, 0, none⟩) 1 c] w fun e w' => ∃ m bi bu bw b1 cr td, e = .returned (.pointer (some ⟨m, 0, none⟩)) ∧
      Own fr al w0 [oldI W, blkI m [.map (some bi), cr, .map (some bu), .map (some bw), td, .int .i64 1], mapG kcR bi [(x.h, .map (some b1))], mapG kcS b1 [(x.w, .bool true)]] w' := by
  have HA := Lib.hid (fun fr al w0 w c m bi bu bw st => addM (fr := fr) (al := al) (W := W) (w0 := w0) (w := w) x k1 hr hl a c m bi bu bw hx st)
  clear hx hl hr k1
  (try simp only [nsl, Value.cells, unB] at st)
  (try clear hc); have hc := st.facts; (try simp only [nfl, nft, Nat.reduceAdd] at hc)
  go_enter Tryz.func24, Tryz.ntmps24
  go_wp2_with ((first
        | ((with_reducible refine wl_makeMap ?_ (fun K hK => ?_)); rfl; refine owp_makeMapG (o := ⟨some 4, _, _, _, _, _⟩) kcR rfl st ?_; (clear st; intro b4 w hb st; clear hb))
        | ((with_reducible refine wl_makeMap ?_ (fun K hK => ?_)); rfl; refine owp_makeMapG (o := ⟨some 5, _, _, _, _, _⟩) kcR rfl st ?_; (clear st; intro b5 w hb st; clear hb))
        | ((with_reducible refine wl_makeMap ?_ (fun K hK => ?_)); rfl; refine owp_makeMapG (o := ⟨some 6, _, _, _, _, _⟩) kcS rfl st ?_; (clear st; intro b6 w hb st; clear hb))
        | ((with_reducible refine wl_box ?_ (fun K hK => ?_)); rfl; refine owp_box (o := ⟨some 8, _, _, _, _, _⟩) rfl st ?_; apply Exists.intro; refine ⟨?_, ?_⟩; (focus (go_simp; try rfl)); (clear st; intro b8 w hb st; clear hb))); (try simp only [nsl, Value.cells, unB] at st); (try clear hc); have hc := st.facts; (try simp only [nfl, nft, Nat.reduceAdd] at hc))
  obtain ⟨fr', al', st', back⟩ := st.sub [0, 4, 1, 2, 3] (by decide) (by simp)
  (try simp only [nsl, Value.cells, unB] at st')
  refine (HA.out _ _ _ _ _ _ _ _ _ st').mono ?_
  clear st'
  rintro en w ⟨b1, cr, td, rfl, st'⟩
  replace st := back _ _ (by simp) st'
  clear back st'
  (try simp only [nsl, Value.cells, unB] at st)
  (try clear hc); have hc := st.facts; (try simp only [nfl, nft, Nat.reduceAdd] at hc)
  go_wp2_with ((first
        | ((with_reducible refine wl_makeMap ?_ (fun K hK => ?_)); rfl; refine owp_makeMapG (o := ⟨some 4, _, _, _, _, _⟩) kcR rfl st ?_; (clear st; intro b4 w hb st; clear hb))
        | ((with_reducible refine wl_makeMap ?_ (fun K hK => ?_)); rfl; refine owp_makeMapG (o := ⟨some 5, _, _, _, _, _⟩) kcR rfl st ?_; (clear st; intro b5 w hb st; clear hb))
        | ((with_reducible refine wl_makeMap ?_ (fun K hK => ?_)); rfl; refine owp_makeMapG (o := ⟨some 6, _, _, _, _, _⟩) kcS rfl st ?_; (clear st; intro b6 w hb st; clear hb))
        | ((with_reducible refine wl_box ?_ (fun K hK => ?_)); rfl; refine owp_box (o := ⟨some 8, _, _, _, _, _⟩) rfl st ?_; apply Exists.intro; refine ⟨?_, ?_⟩; (focus (go_simp; try rfl)); (clear st; intro b8 w hb st; clear hb))); (try simp only [nsl, Value.cells, unB] at st); (try clear hc); have hc := st.facts; (try simp only [nfl, nft, Nat.reduceAdd] at hc))
  go_ret
  exact ⟨_, _, _, _, _, _, _, rfl, by simpa [pick] using st.keep [0, 4, 1, 5] (by decide) (by simp)⟩
end Go.Proofs.YthjibbakjbbniaaGreatDoor

namespace Go.Proofs.YthjibbakjbbniaaGreatDoor
set_option linter.unusedSimpArgs false
set_option linter.unusedVariables false
open Go Go.RowKit
set_option maxRecDepth 100000 in
set_option maxHeartbeats 1000000 in
theorem len64_1 (w : World) : Calls Tryz.prog 78 #[.int .u64 1] w fun e w' => e = .returned (.int .i64 1) ∧ w' = w := by
  go_enter Tryz.func78, Tryz.ntmps78
  go_wp2_with fail
  go_ret
  exact ⟨by kernel_rfl, rfl⟩
set_option maxRecDepth 100000 in
set_option maxHeartbeats 1000000 in
theorem bitsLen_1 (w : World) : Calls Tryz.prog 53 #[.int .u64 1] w fun e w' => e = .returned (.int .i64 1) ∧ w' = w := by
  go_enter Tryz.func53, Tryz.ntmps53
  go_wp2_with fail
  refine (len64_1 w).mono ?_
  rintro e w' ⟨rfl, rfl⟩
  go_wp2_with fail
  go_ret
  exact ⟨rfl, rfl⟩
set_option maxRecDepth 100000 in
set_option maxHeartbeats 1000000 in
theorem insFact_1 (a : Option Addr) (c : Nat) (f : Value) (w : World) : Calls Tryz.prog 69 #[.slice a 1 c, .int .i64 0, .int .i64 1, f] w fun e w' => e = .returned (.tuple #[]) ∧ w' = w := by
  go_enter Tryz.func69, Tryz.ntmps69
  go_wp2_with fail
  refine wp_loop_rounds 1 ?_
  rw [rounds_succ]
  go_wp2_with fail
  go_end0
  exact ⟨rfl, rfl⟩
set_option maxRecDepth 100000 in
set_option maxHeartbeats 1000000 in
theorem pdqFact_1 (a : Option Addr) (c : Nat) (f : Value) (w : World) : Calls Tryz.prog 52 #[.slice a 1 c, .int .i64 0, .int .i64 1, .int .i64 1, f] w fun e w' => e = .returned (.tuple #[]) ∧ w' = w := by
  go_enter Tryz.func52, Tryz.ntmps52
  go_wp2_with fail
  refine wp_loop_rounds 1 ?_
  rw [rounds_succ]
  go_wp2_with fail
  refine (insFact_1 a c f w).mono ?_
  rintro e w' ⟨rfl, rfl⟩
  go_wp2_with fail
  (try simp only [Exit.inBlock, Exit.then])
  refine bodyPost_ret (results_none rfl _ _ _) rfl ?_
  exact ⟨rfl, rfl⟩
set_option maxRecDepth 100000 in
set_option maxHeartbeats 1000000 in
theorem sortFact_1 (a : Option Addr) (c : Nat) (f : Value) (w : World) : Calls Tryz.prog 38 #[.slice a 1 c, f] w fun e w' => e = .returned (.tuple #[]) ∧ w' = w := by
  go_enter Tryz.func38, Tryz.ntmps38
  go_wp2_with fail
  refine (bitsLen_1 w).mono ?_
  rintro e w' ⟨rfl, rfl⟩
  go_wp2_with fail
  refine (pdqFact_1 a c f w').mono ?_
  rintro e w'' ⟨rfl, rfl⟩
  go_wp2_with fail
  go_end0
  exact ⟨rfl, rfl⟩
end Go.Proofs.YthjibbakjbbniaaGreatDoor

namespace Go.Proofs.YthjibbakjbbniaaGreatDoor
set_option linter.unusedSimpArgs false
set_option linter.unusedVariables false
open Go Go.RowKit
section
variable {P : Program} {o : Oper} {a : Act} {w : World} {K : Act → World → Prop} {Q : Exit → Act → World → Prop} {fr al : Nat → Prop} {w0 : World} {L : List It}
theorem wl_range {ops : Array Oper} {rest : List Oper} {d : Option Tmp} {T : TypeId} {x : Operand} {ty : TypeId} {pos : String} {af : Array Edge} {gd : Option (Nat × Bool)} (hg : Region.wanted ⟨d, .range T x, ty, pos, af, gd⟩ (yielded ops a.tmps) = true)
    (h : ∀ K : Act → World → Prop, (∀ a w, wpList P ops Q rest a w → K a w) → Oper.wp P ⟨d, .range T x, ty, pos, af, gd⟩ a w K Q) : wpList P ops Q (⟨d, .range T x, ty, pos, af, gd⟩ :: rest) a w := wpl_at hg h
theorem wl_next {ops : Array Oper} {rest : List Oper} {d : Option Tmp} {x : Operand} {b : Bool} {ty : TypeId} {pos : String} {af : Array Edge} {gd : Option (Nat × Bool)} (hg : Region.wanted ⟨d, .next x b, ty, pos, af, gd⟩ (yielded ops a.tmps) = true)
    (h : ∀ K : Act → World → Prop, (∀ a w, wpList P ops Q rest a w → K a w) → Oper.wp P ⟨d, .next x b, ty, pos, af, gd⟩ a w K Q) : wpList P ops Q (⟨d, .next x b, ty, pos, af, gd⟩ :: rest) a w := wpl_at hg h
variable {κ : Type} [DecidableEq κ]
theorem owp_next0 {c : Kc P κ} {x : Operand} (ho : o.op = .next x false) (st : Own fr al w0 L w) (i : Nat) {b r : Nat} {es : List (κ × Value)} {cur : Option (κ × Value)} (hi : L[i]? = some (mapIt c b r es [] cur)) (hx : a.eval x = .pointer (some ⟨r, 0, none⟩))
    (h0 : K (a.put o.dst (.tuple #[.bool false])) w) : o.wp P a w K Q :=
  owp_nextG ho st i hi hx (fun _ => h0) (fun l1 p l2 w' e => by cases l1 <;> cases e)
theorem owp_next1 {c : Kc P κ} {x : Operand} (ho : o.op = .next x false) (st : Own fr al w0 L w) (i : Nat) {b r : Nat} {es : List (κ × Value)} {cur : Option (κ × Value)} (p : κ × Value) (hi : L[i]? = some (mapIt c b r es [p] cur)) (hx : a.eval x = .pointer (some ⟨r, 0, none⟩))
    (h1 : ∀ w', Own fr al w0 (L.set i (mapIt c b r es [] (some p))) w' → K (a.put o.dst (.tuple #[.bool true, c.enc p.1, p.2])) w') : o.wp P a w K Q :=
  owp_nextG ho st i hi hx nofun (fun l1 p' l2 w' e st => by
    cases l1 with
    | nil => simp at e; obtain ⟨rfl, rfl⟩ := e; exact h1 w' st
    | cons q l1 => cases l1 <;> cases e)
end
set_option maxRecDepth 100000 in
set_option maxHeartbeats 4000000 in
theorem factsM {fr al : Nat → Prop} {w0 w : World} (o d wh : List UInt8) (m bi b1 : Nat) (v1 v2 v3 v4 v5 : Value) (st : Own fr al w0 [blkI m [.map (some bi), v1, v2, v3, v4, v5], mapG kcR bi [((o, d), .map (some b1))], mapG kcS b1 [(wh, .bool true)]] w) :
    Calls Tryz.prog 25 #[.pointer (some ⟨m, 0, none⟩)] w fun e w' => ∃ va vc, e = .returned (.slice va 1 vc) ∧
      Own fr al w0 [blkI m [.map (some bi), v1, v2, v3, v4, v5], mapG kcR bi [((o, d), .map (some b1))], mapG kcS b1 [(wh, .bool true)], rowI 30 3 (.slice va 1 vc) 1 [.string ⟨o.toArray⟩, .string ⟨d.toArray⟩, .string ⟨wh.toArray⟩]] w' := by
  have HS := Lib.hid (fun a c f w => sortFact_1 a c f w)
  replace st := st.row_nil 30 3
  (try simp only [nsl, Value.cells, unB] at st)
  (try clear hc); have hc := st.facts; (try simp only [nfl, nft, Nat.reduceAdd] at hc)
  go_enter Tryz.func25, Tryz.ntmps25
  go_wp2_with (first
      | (((with_reducible refine wl_range ?_ (fun K hK => ?_)); rfl; (refine owp_rangeG (c := kcR) rfl st 1 get1 underIn rfl ?_); (clear st; intro r13 w st)); (try simp only [nsl, Value.cells, unB] at st); (try clear hc); have hc := st.facts; (try simp only [nfl, nft, Nat.reduceAdd] at hc))
      | ((first
        | ((with_reducible refine wl_alloc ?_ (fun K hK => ?_)); rfl; refine owp_alloc (o := ⟨some 4, _, _, _, _, _⟩) rfl st ?_; apply Exists.intro; apply Exists.intro; refine ⟨?_, ?_⟩; (focus (first | (go_simp; done) | (go_simp; rfl))); (clear st; intro b4 w hb st; clear hb))
        | ((with_reducible refine wl_store ?_ (fun K hK => ?_)); rfl; refine owp_store rfl st ?_; apply Exists.intro; apply Exists.intro; refine ⟨?_, ?_, ?_⟩; (focus (go_simp; try rfl)); (focus (go_simp; try rfl)); (first | (with_reducible refine ⟨0, _, _, _, _, get0, rfl, rfl, ?_, ?_, ?_, ?_⟩) | (with_reducible refine ⟨1, _, _, _, _, get1, rfl, rfl, ?_, ?_, ?_, ?_⟩) | (with_reducible refine ⟨2, _, _, _, _, get2, rfl, rfl, ?_, ?_, ?_, ?_⟩) | (with_reducible refine ⟨3, _, _, _, _, get3, rfl, rfl, ?_, ?_, ?_, ?_⟩) | (with_reducible refine ⟨4, _, _, _, _, get4, rfl, rfl, ?_, ?_, ?_, ?_⟩) | (with_reducible refine ⟨5, _, _, _, _, get5, rfl, rfl, ?_, ?_, ?_, ?_⟩) | (with_reducible refine ⟨6, _, _, _, _, get6, rfl, rfl, ?_, ?_, ?_, ?_⟩)); (kernel_rfl); (simp [Value.cells]); (rfl); (clear st; intro w st))
        | ((with_reducible refine wl_buildSlice ?_ (fun K hK => ?_)); rfl; refine owp_buildSlice (o := ⟨some 29, _, _, _, _, _⟩) rfl st ?_; apply Exists.intro; apply Exists.intro; apply Exists.intro; apply Exists.intro; refine ⟨?_, ?_⟩; (focus (go_simp; (first | done | exact ⟨⟨rfl, rfl⟩, rfl⟩ | rfl))); (clear st; intro b29 w hb st; clear hb))); (try simp only [nsl, Value.cells, unB] at st); (try clear hc); have hc := st.facts; (try simp only [nfl, nft, Nat.reduceAdd] at hc)))
  refine wp_loop_rounds 2 ?_
  rw [rounds_succ]
  go_wp2_with (first
      | (((with_reducible refine wl_next ?_ (fun K hK => ?_)); rfl; (refine owp_next1 (c := kcR) rfl st 1 ((o, d), .map (some b1)) get1 rfl ?_); (clear st; intro w st; (try simp only [nsl, Value.cells, unB] at st); have qE := st.entryG (i := 1) get1; simp only [kcR, kcS, rV, S] at qE ⊢)); (try simp only [nsl, Value.cells, unB] at st); (try clear hc); have hc := st.facts; (try simp only [nfl, nft, Nat.reduceAdd] at hc))
      | (((with_reducible refine wl_range ?_ (fun K hK => ?_)); rfl; (refine owp_rangeG (c := kcS) rfl st 2 get2 underWho rfl ?_); (clear st; intro r20 w st)); (try simp only [nsl, Value.cells, unB] at st); (try clear hc); have hc := st.facts; (try simp only [nfl, nft, Nat.reduceAdd] at hc))
      | ((first
        | ((with_reducible refine wl_alloc ?_ (fun K hK => ?_)); rfl; refine owp_alloc (o := ⟨some 4, _, _, _, _, _⟩) rfl st ?_; apply Exists.intro; apply Exists.intro; refine ⟨?_, ?_⟩; (focus (first | (go_simp; done) | (go_simp; rfl))); (clear st; intro b4 w hb st; clear hb))
        | ((with_reducible refine wl_store ?_ (fun K hK => ?_)); rfl; refine owp_store rfl st ?_; apply Exists.intro; apply Exists.intro; refine ⟨?_, ?_, ?_⟩; (focus (go_simp; try rfl)); (focus (go_simp; try rfl)); (first | (with_reducible refine ⟨0, _, _, _, _, get0, rfl, rfl, ?_, ?_, ?_, ?_⟩) | (with_reducible refine ⟨1, _, _, _, _, get1, rfl, rfl, ?_, ?_, ?_, ?_⟩) | (with_reducible refine ⟨2, _, _, _, _, get2, rfl, rfl, ?_, ?_, ?_, ?_⟩) | (with_reducible refine ⟨3, _, _, _, _, get3, rfl, rfl, ?_, ?_, ?_, ?_⟩) | (with_reducible refine ⟨4, _, _, _, _, get4, rfl, rfl, ?_, ?_, ?_, ?_⟩) | (with_reducible refine ⟨5, _, _, _, _, get5, rfl, rfl, ?_, ?_, ?_, ?_⟩) | (with_reducible refine ⟨6, _, _, _, _, get6, rfl, rfl, ?_, ?_, ?_, ?_⟩)); (kernel_rfl); (simp [Value.cells]); (rfl); (clear st; intro w st))
        | ((with_reducible refine wl_buildSlice ?_ (fun K hK => ?_)); rfl; refine owp_buildSlice (o := ⟨some 29, _, _, _, _, _⟩) rfl st ?_; apply Exists.intro; apply Exists.intro; apply Exists.intro; apply Exists.intro; refine ⟨?_, ?_⟩; (focus (go_simp; (first | done | exact ⟨⟨rfl, rfl⟩, rfl⟩ | rfl))); (clear st; intro b29 w hb st; clear hb))); (try simp only [nsl, Value.cells, unB] at st); (try clear hc); have hc := st.facts; (try simp only [nfl, nft, Nat.reduceAdd] at hc)))
  clear qE
  refine wp_loop_rounds 2 ?_
  rw [rounds_succ]
  go_wp2_with (first
      | (((with_reducible refine wl_next ?_ (fun K hK => ?_)); rfl; (refine owp_next1 (c := kcS) rfl st 2 (wh, .bool true) get2 rfl ?_); (clear st; intro w st; (try simp only [nsl, Value.cells, unB] at st); have qE := st.entryG (i := 2) get2; simp only [kcR, kcS, rV, S] at qE ⊢)); (try simp only [nsl, Value.cells, unB] at st); (try clear hc); have hc := st.facts; (try simp only [nfl, nft, Nat.reduceAdd] at hc))
      | ((with_reducible refine wl_append ?_ (fun K hK => ?_)); (rfl); (obtain ⟨inf, hinf, hz0, hz1, hz2⟩ := factInfoM); (refine owp_append rfl st 3 get3 Tryz.underlying74 hinf hz0 hz1 hz2 rfl (by decide) rfl rfl ((st.blk (i := 5) get5).flat rfl) (by first | exact cellsL_all _ | simp [Value.oneCell']) (by simp only [maxLen]; omega) (by omega) ?_); (clear hinf hz0 hz1 hz2 inf); (clear st; intro v' w st); (obtain ⟨va', vc', rfl⟩ := own_slice (st.row (i := 3) get3)); (try simp only [nsl, Value.cells, unB] at st); (try simp only [Nat.zero_add] at st); (try clear hc); have hc := st.facts; (try simp only [nfl, nft, Nat.reduceAdd] at hc))
      | ((first
        | ((with_reducible refine wl_alloc ?_ (fun K hK => ?_)); rfl; refine owp_alloc (o := ⟨some 4, _, _, _, _, _⟩) rfl st ?_; apply Exists.intro; apply Exists.intro; refine ⟨?_, ?_⟩; (focus (first | (go_simp; done) | (go_simp; rfl))); (clear st; intro b4 w hb st; clear hb))
        | ((with_reducible refine wl_store ?_ (fun K hK => ?_)); rfl; refine owp_store rfl st ?_; apply Exists.intro; apply Exists.intro; refine ⟨?_, ?_, ?_⟩; (focus (go_simp; try rfl)); (focus (go_simp; try rfl)); (first | (with_reducible refine ⟨0, _, _, _, _, get0, rfl, rfl, ?_, ?_, ?_, ?_⟩) | (with_reducible refine ⟨1, _, _, _, _, get1, rfl, rfl, ?_, ?_, ?_, ?_⟩) | (with_reducible refine ⟨2, _, _, _, _, get2, rfl, rfl, ?_, ?_, ?_, ?_⟩) | (with_reducible refine ⟨3, _, _, _, _, get3, rfl, rfl, ?_, ?_, ?_, ?_⟩) | (with_reducible refine ⟨4, _, _, _, _, get4, rfl, rfl, ?_, ?_, ?_, ?_⟩) | (with_reducible refine ⟨5, _, _, _, _, get5, rfl, rfl, ?_, ?_, ?_, ?_⟩) | (with_reducible refine ⟨6, _, _, _, _, get6, rfl, rfl, ?_, ?_, ?_, ?_⟩)); (kernel_rfl); (simp [Value.cells]); (rfl); (clear st; intro w st))
        | ((with_reducible refine wl_buildSlice ?_ (fun K hK => ?_)); rfl; refine owp_buildSlice (o := ⟨some 29, _, _, _, _, _⟩) rfl st ?_; apply Exists.intro; apply Exists.intro; apply Exists.intro; apply Exists.intro; refine ⟨?_, ?_⟩; (focus (go_simp; (first | done | exact ⟨⟨rfl, rfl⟩, rfl⟩ | rfl))); (clear st; intro b29 w hb st; clear hb))); (try simp only [nsl, Value.cells, unB] at st); (try clear hc); have hc := st.facts; (try simp only [nfl, nft, Nat.reduceAdd] at hc)))
  clear qE
  rw [rounds_succ]
  go_wp2_with (first
      | (((with_reducible refine wl_next ?_ (fun K hK => ?_)); rfl; (refine owp_next0 (c := kcS) rfl st 2 get2 rfl ?_)); (try simp only [nsl, Value.cells, unB] at st); (try clear hc); have hc := st.facts; (try simp only [nfl, nft, Nat.reduceAdd] at hc))
      | ((first
        | ((with_reducible refine wl_alloc ?_ (fun K hK => ?_)); rfl; refine owp_alloc (o := ⟨some 4, _, _, _, _, _⟩) rfl st ?_; apply Exists.intro; apply Exists.intro; refine ⟨?_, ?_⟩; (focus (first | (go_simp; done) | (go_simp; rfl))); (clear st; intro b4 w hb st; clear hb))
        | ((with_reducible refine wl_store ?_ (fun K hK => ?_)); rfl; refine owp_store rfl st ?_; apply Exists.intro; apply Exists.intro; refine ⟨?_, ?_, ?_⟩; (focus (go_simp; try rfl)); (focus (go_simp; try rfl)); (first | (with_reducible refine ⟨0, _, _, _, _, get0, rfl, rfl, ?_, ?_, ?_, ?_⟩) | (with_reducible refine ⟨1, _, _, _, _, get1, rfl, rfl, ?_, ?_, ?_, ?_⟩) | (with_reducible refine ⟨2, _, _, _, _, get2, rfl, rfl, ?_, ?_, ?_, ?_⟩) | (with_reducible refine ⟨3, _, _, _, _, get3, rfl, rfl, ?_, ?_, ?_, ?_⟩) | (with_reducible refine ⟨4, _, _, _, _, get4, rfl, rfl, ?_, ?_, ?_, ?_⟩) | (with_reducible refine ⟨5, _, _, _, _, get5, rfl, rfl, ?_, ?_, ?_, ?_⟩) | (with_reducible refine ⟨6, _, _, _, _, get6, rfl, rfl, ?_, ?_, ?_, ?_⟩)); (kernel_rfl); (simp [Value.cells]); (rfl); (clear st; intro w st))
        | ((with_reducible refine wl_buildSlice ?_ (fun K hK => ?_)); rfl; refine owp_buildSlice (o := ⟨some 29, _, _, _, _, _⟩) rfl st ?_; apply Exists.intro; apply Exists.intro; apply Exists.intro; apply Exists.intro; refine ⟨?_, ?_⟩; (focus (go_simp; (first | done | exact ⟨⟨rfl, rfl⟩, rfl⟩ | rfl))); (clear st; intro b29 w hb st; clear hb))); (try simp only [nsl, Value.cells, unB] at st); (try clear hc); have hc := st.facts; (try simp only [nfl, nft, Nat.reduceAdd] at hc)))
  rw [rounds_succ]
  go_wp2_with (first
      | (((with_reducible refine wl_next ?_ (fun K hK => ?_)); rfl; (refine owp_next0 (c := kcR) rfl st 1 get1 rfl ?_)); (try simp only [nsl, Value.cells, unB] at st); (try clear hc); have hc := st.facts; (try simp only [nfl, nft, Nat.reduceAdd] at hc))
      | ((first
        | ((with_reducible refine wl_alloc ?_ (fun K hK => ?_)); rfl; refine owp_alloc (o := ⟨some 4, _, _, _, _, _⟩) rfl st ?_; apply Exists.intro; apply Exists.intro; refine ⟨?_, ?_⟩; (focus (first | (go_simp; done) | (go_simp; rfl))); (clear st; intro b4 w hb st; clear hb))
        | ((with_reducible refine wl_store ?_ (fun K hK => ?_)); rfl; refine owp_store rfl st ?_; apply Exists.intro; apply Exists.intro; refine ⟨?_, ?_, ?_⟩; (focus (go_simp; try rfl)); (focus (go_simp; try rfl)); (first | (with_reducible refine ⟨0, _, _, _, _, get0, rfl, rfl, ?_, ?_, ?_, ?_⟩) | (with_reducible refine ⟨1, _, _, _, _, get1, rfl, rfl, ?_, ?_, ?_, ?_⟩) | (with_reducible refine ⟨2, _, _, _, _, get2, rfl, rfl, ?_, ?_, ?_, ?_⟩) | (with_reducible refine ⟨3, _, _, _, _, get3, rfl, rfl, ?_, ?_, ?_, ?_⟩) | (with_reducible refine ⟨4, _, _, _, _, get4, rfl, rfl, ?_, ?_, ?_, ?_⟩) | (with_reducible refine ⟨5, _, _, _, _, get5, rfl, rfl, ?_, ?_, ?_, ?_⟩) | (with_reducible refine ⟨6, _, _, _, _, get6, rfl, rfl, ?_, ?_, ?_, ?_⟩)); (kernel_rfl); (simp [Value.cells]); (rfl); (clear st; intro w st))
        | ((with_reducible refine wl_buildSlice ?_ (fun K hK => ?_)); rfl; refine owp_buildSlice (o := ⟨some 29, _, _, _, _, _⟩) rfl st ?_; apply Exists.intro; apply Exists.intro; apply Exists.intro; apply Exists.intro; refine ⟨?_, ?_⟩; (focus (go_simp; (first | done | exact ⟨⟨rfl, rfl⟩, rfl⟩ | rfl))); (clear st; intro b29 w hb st; clear hb))); (try simp only [nsl, Value.cells, unB] at st); (try clear hc); have hc := st.facts; (try simp only [nfl, nft, Nat.reduceAdd] at hc)))
  refine (HS.out _ _ _ _).mono ?_
  rintro en w'' ⟨rfl, rfl⟩
  go_wp2_with ((first
        | ((with_reducible refine wl_alloc ?_ (fun K hK => ?_)); rfl; refine owp_alloc (o := ⟨some 4, _, _, _, _, _⟩) rfl st ?_; apply Exists.intro; apply Exists.intro; refine ⟨?_, ?_⟩; (focus (first | (go_simp; done) | (go_simp; rfl))); (clear st; intro b4 w hb st; clear hb))
        | ((with_reducible refine wl_store ?_ (fun K hK => ?_)); rfl; refine owp_store rfl st ?_; apply Exists.intro; apply Exists.intro; refine ⟨?_, ?_, ?_⟩; (focus (go_simp; try rfl)); (focus (go_simp; try rfl)); (first | (with_reducible refine ⟨0, _, _, _, _, get0, rfl, rfl, ?_, ?_, ?_, ?_⟩) | (with_reducible refine ⟨1, _, _, _, _, get1, rfl, rfl, ?_, ?_, ?_, ?_⟩) | (with_reducible refine ⟨2, _, _, _, _, get2, rfl, rfl, ?_, ?_, ?_, ?_⟩) | (with_reducible refine ⟨3, _, _, _, _, get3, rfl, rfl, ?_, ?_, ?_, ?_⟩) | (with_reducible refine ⟨4, _, _, _, _, get4, rfl, rfl, ?_, ?_, ?_, ?_⟩) | (with_reducible refine ⟨5, _, _, _, _, get5, rfl, rfl, ?_, ?_, ?_, ?_⟩) | (with_reducible refine ⟨6, _, _, _, _, get6, rfl, rfl, ?_, ?_, ?_, ?_⟩)); (kernel_rfl); (simp [Value.cells]); (rfl); (clear st; intro w st))
        | ((with_reducible refine wl_buildSlice ?_ (fun K hK => ?_)); rfl; refine owp_buildSlice (o := ⟨some 29, _, _, _, _, _⟩) rfl st ?_; apply Exists.intro; apply Exists.intro; apply Exists.intro; apply Exists.intro; refine ⟨?_, ?_⟩; (focus (go_simp; (first | done | exact ⟨⟨rfl, rfl⟩, rfl⟩ | rfl))); (clear st; intro b29 w hb st; clear hb))); (try simp only [nsl, Value.cells, unB] at st); (try clear hc); have hc := st.facts; (try simp only [nfl, nft, Nat.reduceAdd] at hc))
  go_ret
  replace st := st.endIt (i := 1) get1
  simp only [List.set] at st
  replace st := st.endIt (i := 2) get2
  simp only [List.set] at st
  exact ⟨_, _, rfl, by simpa [pick] using st.keep [0, 1, 2, 3] (by decide) (by simp)⟩
end Go.Proofs.YthjibbakjbbniaaGreatDoor

namespace Go.Proofs.YthjibbakjbbniaaGreatDoor
set_option linter.unusedSimpArgs false
set_option linter.unusedVariables false
open Go Go.RowKit
section
variable {fr al : Nat → Prop} {w0 w : World} {L : List It}
theorem Fl.at {α : Type} [Flt α] {a : Option Addr} {n : Nat} {xs : List α} (h : Fl w a n xs) (h0 : 0 < n) : ∃ b off, a = some ⟨b, off, none⟩ := by
  obtain ⟨b, off, h, _⟩ := h.2 h0
  exact ⟨b, off, h⟩
end
end Go.Proofs.YthjibbakjbbniaaGreatDoor
