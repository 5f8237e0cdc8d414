/- The reference's sets of credentials. -/
import Derived.Test.YtinfkenbjoddlaaWtG
import Derived.Test.YtinfkenbjoddlaaRefName
import Derived.ProofKit
import Derived.OpenShut
import Derived.Test.YtinfkenbjoddlaaRows
import Derived.Deep.Strs
import Derived.Deep.Slices
import Derived.ChangeSame
import Derived.ChangeArms
import Derived.Test.YtinfkenbjoddlaaSlRoleB
namespace Go.Proofs.Ytinfkenbjoddlaa
set_option linter.unusedSimpArgs false
set_option linter.unusedVariables false
open Go Go.RowKit
theorem credCmp_dec (x y : CredT) : decide (credCmp x y < 0) = credLt x y := by
  unfold credCmp cmp2 credLt
  cases h : strLt (credBy x) (credBy y) with
  | true => simp
  | false => cases h2 : strLt (credBy y) (credBy x) <;> simp
theorem pickMin_cand {α : Type} [Inhabited α] [DecidableEq α] {lt : α → α → Bool} (c : α → Bool) (l : List α) : ∀ y, pickMin lt c l = some y → c y = true := by
  refine list_snoc (motive := fun l => ∀ y, pickMin lt c l = some y → c y = true) (fun y h => by simp [pickMin] at h) (fun l x ih y h => ?_) l
  rw [pickMin_snoc] at h
  split at h
  · rename_i hc; cases h; simp only [Bool.and_eq_true] at hc; exact hc.1
  · exact ih y h
theorem cnd_P {α : Type} {lt : α → α → Bool} {P : α → Bool} {out : List α} {x : α} (h : cnd lt P out x = true) : P x = true := by
  unfold cnd at h; rw [Bool.and_eq_true] at h; exact h.1
def okC (ok : Bool) (b : CredT) : Option CredT := if ok then some b else none
theorem okC_t (b : CredT) : okC true b = some b := rfl
theorem okC_f (b : CredT) : okC false b = none := rfl
set_option maxRecDepth 100000 in
set_option maxHeartbeats 2000000 in
theorem refCredSet_any (a : Option Addr) (n c : Nat) (l : List CredT) (W : World) (h : Fl W a n l) (hn : n ≤ 2000000) (hs : ∀ x ∈ l, CredL 100000 x) :
    Calls Try.prog 15 #[.slice a n c] W fun e w' => ∃ out va vc, e = .returned (.slice va out.length vc) ∧ SSet credLt credR l out ∧ FreshI W w' (rowI 45 9 (.slice va out.length vc) out.length (cellsL out)) := by
  have H := Lib.hid h
  have HNL := Lib.hid (And.intro h.1 hs)
  clear h hs
  have st := (Own.startOld W).row_nil 45 9
  (try simp only [nsl, Value.cells, unB] at st)
  (try clear hc); have hc := st.facts; (try simp only [nfl, nft, Nat.reduceAdd] at hc)
  go_enter Try.func15, Try.ntmps15
  go_wp2_with fail
  go_loopg [3] (left credLt credR l []) (fun k v wr => ∃ (out : List CredT) (m : Nat) (va : Option Addr) (vc : Nat), v = .slice va m vc ∧ m ≤ 2000000 ∧ Hid (GInv credLt credR l out ∧ left credLt credR l out ≤ k ∧ m = out.length) ∧ Own (fun _ => False) (fun _ => True) W [oldI W, rowI 45 9 (.slice va m vc) m (cellsL out)] wr)
  case atStart => exact ⟨[], 0, none, 0, rfl, by omega, Lib.hid ⟨GInv.nil _, Nat.le_refl _, rfl⟩, st⟩
  case round =>
    obtain ⟨out, m, va, vc, rfl, hm2, HG, st'⟩ := hrel
    clear st hc
    have st := st'
    clear st'
    (try simp only [nsl, Value.cells, unB] at st)
    (try clear hc); have hc := st.facts; (try simp only [nfl, nft, Nat.reduceAdd] at hc)
    go_wp2_with ((((with_reducible refine wl_alloc ?_ (fun K hK => ?_)); rfl; refine owp_alloc (o := ⟨some 4, _, _, _, _, _⟩) rfl st ?_; apply Exists.intro; apply Exists.intro; refine ⟨?_, ?_⟩; (focus (first | (go_simp; done) | (go_simp; rfl))); (clear st; intro b4 w hb st; clear hb))); (try simp only [nsl, Value.cells, unB] at st); (try clear hc); have hc := st.facts; (try simp only [nfl, nft, Nat.reduceAdd] at hc))
    go_loopg [5, 10] n (fun k vok i wr => ∃ (j : Nat) (ok : Bool) (best : CredT), j ≤ n ∧ k = n - j ∧ i = .int .i64 (j : Int) ∧ vok = .bool ok ∧ Hid (pickMin credLt (cnd credLt credR out) (l.take j) = okC ok best) ∧ Own (fun _ => False) (fun _ => True) W [oldI W, rowI 45 9 (.slice va m vc) m (cellsL out), blkI b4 [.int .i64 best.k, .string ⟨best.h.1.toArray⟩, .string ⟨best.h.2.toArray⟩, .string ⟨best.w.toArray⟩, .string ⟨best.b.1.toArray⟩, .string ⟨best.b.2.toArray⟩, .string ⟨best.c.1.toArray⟩, .string ⟨best.c.2.toArray⟩, .string ⟨best.e.toArray⟩]] wr)
    case atStart => exact ⟨0, false, zC, by omega, by omega, rfl, rfl, Lib.hid (by simp [pickMin, okC]), by first | exact st | simpa [zC] using st⟩
    case round =>
      obtain ⟨j, ok, best, hj, rfl, rfl, rfl, HP, st'⟩ := hrel
      clear st hc
      have st := st'
      clear st'
      (try simp only [nsl, Value.cells, unB] at st)
      (try clear hc); have hc := st.facts; (try simp only [nfl, nft, Nat.reduceAdd] at hc)
      by_cases hjn : j < n
      · obtain ⟨b, off, ha, hcell⟩ := H.out.cred (by omega)
        have hjl : j < l.length := by have := HNL.out.1; omega
        have r0 := st.oldCell (i := 0) get0 (hcell j l[j] (List.getElem?_eq_getElem hjl)).1
        have r1 := st.oldCell (i := 0) get0 (hcell j l[j] (List.getElem?_eq_getElem hjl)).2.1
        have r2 := st.oldCell (i := 0) get0 (hcell j l[j] (List.getElem?_eq_getElem hjl)).2.2.1
        have r3 := st.oldCell (i := 0) get0 (hcell j l[j] (List.getElem?_eq_getElem hjl)).2.2.2.1
        have r4 := st.oldCell (i := 0) get0 (hcell j l[j] (List.getElem?_eq_getElem hjl)).2.2.2.2.1
        have r5 := st.oldCell (i := 0) get0 (hcell j l[j] (List.getElem?_eq_getElem hjl)).2.2.2.2.2.1
        have r6 := st.oldCell (i := 0) get0 (hcell j l[j] (List.getElem?_eq_getElem hjl)).2.2.2.2.2.2.1
        have r7 := st.oldCell (i := 0) get0 (hcell j l[j] (List.getElem?_eq_getElem hjl)).2.2.2.2.2.2.2.1
        have r8 := st.oldCell (i := 0) get0 (hcell j l[j] (List.getElem?_eq_getElem hjl)).2.2.2.2.2.2.2.2
        have hts := pickMin_take (lt := credLt) (cnd credLt credR out) l j hjl
        have hxl := HNL.out.2 l[j] (List.getElem_mem hjl)
        have hrr := refCredRight_any l[j]
        have hlb := fun (W : World) (hx : CredL 100000 l[j]) (hb : credR best = true) => refCredCompare_any l[j] best W hx (credR_len hb)
        clear hcell
        generalize l[j] = x at *
        have HX := Lib.hid hts
        have hrr2 := fun W => hrr W (by have := hxl; unfold CredL at this; omega)
        have hlb2 := fun W => hlb W hxl
        subst ha
        unfold S at r1 r2 r3 r4 r5 r6 r7 r8
        unfold cV S at hrr2 hlb2
        have HLB := Lib.hid hlb2
        clear hlb hlb2 hrr hts
        have hrr := hrr2
        clear hrr2
        go_wp2_with ((first
              | ((with_reducible refine wl_alloc ?_ (fun K hK => ?_)); rfl; refine owp_alloc (o := ⟨some 7, _, _, _, _, _⟩) rfl st ?_; apply Exists.intro; apply Exists.intro; refine ⟨?_, ?_⟩; (focus (first | (go_simp; done) | (go_simp; rfl))); (clear st; intro b7 w hb st; clear hb))
              | ((with_reducible refine wl_store ?_ (fun K hK => ?_)); rfl; refine owp_store rfl st ?_; apply Exists.intro; apply Exists.intro; refine ⟨?_, ?_, ?_⟩; (focus (go_simp; try rfl)); (focus (go_simp; try rfl)); (with_reducible refine ⟨3, _, _, _, _, get3, rfl, rfl, ?_, ?_, ?_, ?_⟩); (kernel_rfl); (simp [Value.cells]); (rfl); (clear st; intro w st))); (try simp only [nsl, Value.cells, unB] at st); (try clear hc); have hc := st.facts; (try simp only [nfl, nft, Nat.reduceAdd] at hc))
        clear r0 r1 r2 r3 r4 r5 r6 r7 r8
        cases hr : credR x with
        | false =>
          have HR := Lib.hid (And.intro (And.intro hr hxl) hrr)
          clear hr hrr hxl
          refine Rg4.wp_region4 (Rel := Ext) #[0, 1, 3, 7, 15, 31, 63, 127, 127, 383, 895, 2047, 4095, 127, 16383, 32767, 65535, 131071, 262143, 524287, 1048575, 2097151, 4194303, 4194303, 16777215, 33554431, 67108863, 134217727]
            [(1, .val (.bool false)), (14, .val (.int .i64 0)), (24, .val (.int .i64 0))] [] [0, 12, 13, 22, 23] (fun _ => True) [0, 1, 2, 3, 4, 5, 6, 7, 8, 9, 10, 11, 12, 13, 14, 15, 16, 17, 18, 19, 20, 21, 22, 23, 24, 25, 26, 27] (by kernel_rfl) (by kernel_rfl) (by kernel_rfl) (by kernel_rfl) Ext.refl (fun _ _ _ => Ext.trans) (show Rg4.PB _ by repeat (first | with_reducible exact Rg4.pb_body | with_reducible exact Rg4.pb_bodyD rfl | with_reducible refine Rg4.pb_then ?_ | with_reducible refine Rg4.pb_inBlock ?_ | with_reducible refine Rg4.pb_noGoto ?_)) (trivial) ?_
          replace st := st.drew
          change Rg4.wp4 _ _ _ _ _ _ _ _ _ (World.drew _) _ _
          generalize World.drew _ = w at st ⊢
          (try clear hc); have hc := st.facts; (try simp only [nfl, nft, Nat.reduceAdd] at hc)
          (refine Rg4.w4_read (Rg4.want_none rfl) rfl rfl ?_; apply Exists.intro; refine ⟨fun w' hw' hcl' => ?_, ?_⟩; focus (have st' := st.ext hw'; have hc' := st'.facts; (try simp only [nfl, nft, Nat.reduceAdd] at hc'); (focus (first | (go_simp; done) | (go_simp; first | rfl | (rw [if_neg] <;> first | rfl | omega) | (rw [if_pos] <;> first | rfl | omega))))); (try simp only [Rg4.nrm]))
          refine Rg4.w4_some (Rg4.want_none rfl) rfl (fun w' hw' hcl' _ => ?_) ?_
          · refine Rg.relAt_call (by go_simp; exact ⟨rfl, rfl⟩) ?_
            refine (HR.out.2 _).mono ?_
            rintro en w'' ⟨rfl, hx⟩
            exact ⟨_, by rw [HR.out.1.1], hx, trivial, rfl⟩
          rintro v ⟨_, _, _, rfl⟩
          (try simp only [Rg4.nrm])
          (refine Rg4.w4_any (Rg4.want_none rfl) rfl ?_; apply Exists.intro; refine ⟨fun w' => ?_, ?_⟩; (focus (first | (go_simp; done) | (go_simp; first | rfl | (rw [if_neg] <;> first | rfl | omega) | (rw [if_pos] <;> first | rfl | omega)))); (try simp only [Rg4.nrm]))
          iterate 9 (first | (refine Rg4.w4_any (Rg4.wt rfl rfl rfl) rfl ?_; apply Exists.intro; refine ⟨fun w' => ?_, ?_⟩; (focus (first | (go_simp; done) | (go_simp; first | rfl | (rw [if_neg] <;> first | rfl | omega) | (rw [if_pos] <;> first | rfl | omega)))); (try simp only [Rg4.nrm])) | (refine Rg4.w4_skip (Rg4.uw rfl rfl rfl) ?_; (try simp only [Rg4.nrm])) | (refine Rg4.w4_skip (Rg4.un rfl rfl rfl) ?_; (try simp only [Rg4.nrm])))
          iterate 2 (first | (refine Rg4.w4_read (Rg4.wt rfl rfl rfl) rfl rfl ?_; apply Exists.intro; refine ⟨fun w' hw' hcl' => ?_, ?_⟩; focus (have st' := st.ext hw'; have hc' := st'.facts; (try simp only [nfl, nft, Nat.reduceAdd] at hc'); (focus (first | (go_simp; done) | (go_simp; first | rfl | (rw [if_neg] <;> first | rfl | omega) | (rw [if_pos] <;> first | rfl | omega))))); (try simp only [Rg4.nrm])) | (refine Rg4.w4_skip (Rg4.uw rfl rfl rfl) ?_; (try simp only [Rg4.nrm])) | (refine Rg4.w4_skip (Rg4.un rfl rfl rfl) ?_; (try simp only [Rg4.nrm])))
          first | refine Rg4.w4_skip (Rg4.uw rfl rfl rfl) ?_ | refine Rg4.w4_skip (Rg4.un rfl rfl rfl) ?_
          (try simp only [Rg4.nrm])
          iterate 2 (first | (refine Rg4.w4_any (Rg4.wt rfl rfl rfl) rfl ?_; apply Exists.intro; refine ⟨fun w' => ?_, ?_⟩; (focus (first | (go_simp; done) | (go_simp; first | rfl | (rw [if_neg] <;> first | rfl | omega) | (rw [if_pos] <;> first | rfl | omega)))); (try simp only [Rg4.nrm])) | (refine Rg4.w4_skip (Rg4.uw rfl rfl rfl) ?_; (try simp only [Rg4.nrm])) | (refine Rg4.w4_skip (Rg4.un rfl rfl rfl) ?_; (try simp only [Rg4.nrm])))
          iterate 2 (refine Rg4.w4_any (Rg4.want_none rfl) rfl ?_; apply Exists.intro; refine ⟨fun w' => ?_, ?_⟩; (focus (first | (go_simp; done) | (go_simp; first | rfl | (rw [if_neg] <;> first | rfl | omega) | (rw [if_pos] <;> first | rfl | omega)))); (try simp only [Rg4.nrm]))
          iterate 3 (first | (refine Rg4.w4_any (Rg4.wt rfl rfl rfl) rfl ?_; apply Exists.intro; refine ⟨fun w' => ?_, ?_⟩; (focus (first | (go_simp; done) | (go_simp; first | rfl | (rw [if_neg] <;> first | rfl | omega) | (rw [if_pos] <;> first | rfl | omega)))); (try simp only [Rg4.nrm])) | (refine Rg4.w4_skip (Rg4.uw rfl rfl rfl) ?_; (try simp only [Rg4.nrm])) | (refine Rg4.w4_skip (Rg4.un rfl rfl rfl) ?_; (try simp only [Rg4.nrm])))
          iterate 2 (first | (refine Rg4.w4_read (Rg4.wt rfl rfl rfl) rfl rfl ?_; apply Exists.intro; refine ⟨fun w' hw' hcl' => ?_, ?_⟩; focus (have st' := st.ext hw'; have hc' := st'.facts; (try simp only [nfl, nft, Nat.reduceAdd] at hc'); (focus (first | (go_simp; done) | (go_simp; first | rfl | (rw [if_neg] <;> first | rfl | omega) | (rw [if_pos] <;> first | rfl | omega))))); (try simp only [Rg4.nrm])) | (refine Rg4.w4_skip (Rg4.uw rfl rfl rfl) ?_; (try simp only [Rg4.nrm])) | (refine Rg4.w4_skip (Rg4.un rfl rfl rfl) ?_; (try simp only [Rg4.nrm])))
          first | refine Rg4.w4_skip (Rg4.uw rfl rfl rfl) ?_ | refine Rg4.w4_skip (Rg4.un rfl rfl rfl) ?_
          (try simp only [Rg4.nrm])
          iterate 2 (first | (refine Rg4.w4_any (Rg4.wt rfl rfl rfl) rfl ?_; apply Exists.intro; refine ⟨fun w' => ?_, ?_⟩; (focus (first | (go_simp; done) | (go_simp; first | rfl | (rw [if_neg] <;> first | rfl | omega) | (rw [if_pos] <;> first | rfl | omega)))); (try simp only [Rg4.nrm])) | (refine Rg4.w4_skip (Rg4.uw rfl rfl rfl) ?_; (try simp only [Rg4.nrm])) | (refine Rg4.w4_skip (Rg4.un rfl rfl rfl) ?_; (try simp only [Rg4.nrm])))
          (refine Rg4.w4_any (Rg4.want_none rfl) rfl ?_; apply Exists.intro; refine ⟨fun w' => ?_, ?_⟩; (focus (first | (go_simp; done) | (go_simp; first | rfl | (rw [if_neg] <;> first | rfl | omega) | (rw [if_pos] <;> first | rfl | omega)))); (try simp only [Rg4.nrm]))
          refine Rg4.w4_nil (fun w' hw' hcl' _ => ?_); replace st := st.ext hw'; clear hw' hcl'; (try clear hc); have hc := st.facts; (try simp only [nfl, nft, Nat.reduceAdd] at hc)
          have HB : Hid (pickMin credLt (cnd credLt credR out) (l.take (j + 1)) = pickMin credLt (cnd credLt credR out) (l.take j)) := Lib.hid (by rw [HX.out]; simp [cnd, HR.out.1.1])
          go_wp2_with fail
          have st' := st.keep [0, 1, 2] (by decide) (by simp)
          go_roundg (n - (j + 1))
          case measure => omega
          case rel => exact ⟨j + 1, ok, best, by omega, by omega, by first | rfl | trivial | go_num, rfl, Lib.hid (by rw [HB.out]; exact HP.out), by simpa [pick] using st'⟩
        | true =>
          have HR := Lib.hid (And.intro (And.intro hr hxl) hrr)
          clear hr hrr hxl
          rcases List.eq_nil_or_concat out with ho | ⟨pre, z, ho⟩
          · subst ho
            have hm0 : m = 0 := HG.out.2.2
            subst hm0
            cases ok with
            | false =>
              refine Rg4.wp_region4 (Rel := Ext) #[0, 1, 3, 7, 15, 31, 63, 127, 127, 383, 895, 2047, 4095, 127, 16383, 32767, 65535, 131071, 262143, 524287, 1048575, 2097151, 4194303, 4194303, 16777215, 33554431, 67108863, 134217727]
                [(1, .val (.bool true)), (14, .val (.int .i64 0)), (24, .val (.int .i64 0))] [] [0, 12, 13, 22, 23] (fun _ => True) [0, 1, 2, 3, 4, 5, 6, 7, 8, 9, 10, 11, 12, 13, 14, 15, 16, 17, 18, 19, 20, 21, 22, 23, 24, 25, 26, 27] (by kernel_rfl) (by kernel_rfl) (by kernel_rfl) (by kernel_rfl) Ext.refl (fun _ _ _ => Ext.trans) (show Rg4.PB _ by repeat (first | with_reducible exact Rg4.pb_body | with_reducible exact Rg4.pb_bodyD rfl | with_reducible refine Rg4.pb_then ?_ | with_reducible refine Rg4.pb_inBlock ?_ | with_reducible refine Rg4.pb_noGoto ?_)) (trivial) ?_
              replace st := st.drew
              change Rg4.wp4 _ _ _ _ _ _ _ _ _ (World.drew _) _ _
              generalize World.drew _ = w at st ⊢
              (try clear hc); have hc := st.facts; (try simp only [nfl, nft, Nat.reduceAdd] at hc)
              (refine Rg4.w4_read (Rg4.want_none rfl) rfl rfl ?_; apply Exists.intro; refine ⟨fun w' hw' hcl' => ?_, ?_⟩; focus (have st' := st.ext hw'; have hc' := st'.facts; (try simp only [nfl, nft, Nat.reduceAdd] at hc'); (focus (first | (go_simp; done) | (go_simp; first | rfl | (rw [if_neg] <;> first | rfl | omega) | (rw [if_pos] <;> first | rfl | omega))))); (try simp only [Rg4.nrm]))
              refine Rg4.w4_some (Rg4.want_none rfl) rfl (fun w' hw' hcl' _ => ?_) ?_
              · refine Rg.relAt_call (by go_simp; exact ⟨rfl, rfl⟩) ?_
                refine (HR.out.2 _).mono ?_
                rintro en w'' ⟨rfl, hx⟩
                exact ⟨_, by rw [HR.out.1.1], hx, trivial, rfl⟩
              rintro v ⟨_, _, _, rfl⟩
              (try simp only [Rg4.nrm])
              (refine Rg4.w4_any (Rg4.want_none rfl) rfl ?_; apply Exists.intro; refine ⟨fun w' => ?_, ?_⟩; (focus (first | (go_simp; done) | (go_simp; first | rfl | (rw [if_neg] <;> first | rfl | omega) | (rw [if_pos] <;> first | rfl | omega)))); (try simp only [Rg4.nrm]))
              iterate 9 (first | (refine Rg4.w4_any (Rg4.wt rfl rfl rfl) rfl ?_; apply Exists.intro; refine ⟨fun w' => ?_, ?_⟩; (focus (first | (go_simp; done) | (go_simp; first | rfl | (rw [if_neg] <;> first | rfl | omega) | (rw [if_pos] <;> first | rfl | omega)))); (try simp only [Rg4.nrm])) | (refine Rg4.w4_skip (Rg4.uw rfl rfl rfl) ?_; (try simp only [Rg4.nrm])) | (refine Rg4.w4_skip (Rg4.un rfl rfl rfl) ?_; (try simp only [Rg4.nrm])))
              iterate 2 (first | (refine Rg4.w4_read (Rg4.wt rfl rfl rfl) rfl rfl ?_; apply Exists.intro; refine ⟨fun w' hw' hcl' => ?_, ?_⟩; focus (have st' := st.ext hw'; have hc' := st'.facts; (try simp only [nfl, nft, Nat.reduceAdd] at hc'); (focus (first | (go_simp; done) | (go_simp; first | rfl | (rw [if_neg] <;> first | rfl | omega) | (rw [if_pos] <;> first | rfl | omega))))); (try simp only [Rg4.nrm])) | (refine Rg4.w4_skip (Rg4.uw rfl rfl rfl) ?_; (try simp only [Rg4.nrm])) | (refine Rg4.w4_skip (Rg4.un rfl rfl rfl) ?_; (try simp only [Rg4.nrm])))
              first | refine Rg4.w4_skip (Rg4.uw rfl rfl rfl) ?_ | refine Rg4.w4_skip (Rg4.un rfl rfl rfl) ?_
              (try simp only [Rg4.nrm])
              iterate 2 (first | (refine Rg4.w4_any (Rg4.wt rfl rfl rfl) rfl ?_; apply Exists.intro; refine ⟨fun w' => ?_, ?_⟩; (focus (first | (go_simp; done) | (go_simp; first | rfl | (rw [if_neg] <;> first | rfl | omega) | (rw [if_pos] <;> first | rfl | omega)))); (try simp only [Rg4.nrm])) | (refine Rg4.w4_skip (Rg4.uw rfl rfl rfl) ?_; (try simp only [Rg4.nrm])) | (refine Rg4.w4_skip (Rg4.un rfl rfl rfl) ?_; (try simp only [Rg4.nrm])))
              iterate 2 (refine Rg4.w4_any (Rg4.want_none rfl) rfl ?_; apply Exists.intro; refine ⟨fun w' => ?_, ?_⟩; (focus (first | (go_simp; done) | (go_simp; first | rfl | (rw [if_neg] <;> first | rfl | omega) | (rw [if_pos] <;> first | rfl | omega)))); (try simp only [Rg4.nrm]))
              iterate 3 (first | (refine Rg4.w4_any (Rg4.wt rfl rfl rfl) rfl ?_; apply Exists.intro; refine ⟨fun w' => ?_, ?_⟩; (focus (first | (go_simp; done) | (go_simp; first | rfl | (rw [if_neg] <;> first | rfl | omega) | (rw [if_pos] <;> first | rfl | omega)))); (try simp only [Rg4.nrm])) | (refine Rg4.w4_skip (Rg4.uw rfl rfl rfl) ?_; (try simp only [Rg4.nrm])) | (refine Rg4.w4_skip (Rg4.un rfl rfl rfl) ?_; (try simp only [Rg4.nrm])))
              iterate 2 (first | (refine Rg4.w4_read (Rg4.wt rfl rfl rfl) rfl rfl ?_; apply Exists.intro; refine ⟨fun w' hw' hcl' => ?_, ?_⟩; focus (have st' := st.ext hw'; have hc' := st'.facts; (try simp only [nfl, nft, Nat.reduceAdd] at hc'); (focus (first | (go_simp; done) | (go_simp; first | rfl | (rw [if_neg] <;> first | rfl | omega) | (rw [if_pos] <;> first | rfl | omega))))); (try simp only [Rg4.nrm])) | (refine Rg4.w4_skip (Rg4.uw rfl rfl rfl) ?_; (try simp only [Rg4.nrm])) | (refine Rg4.w4_skip (Rg4.un rfl rfl rfl) ?_; (try simp only [Rg4.nrm])))
              first | refine Rg4.w4_skip (Rg4.uw rfl rfl rfl) ?_ | refine Rg4.w4_skip (Rg4.un rfl rfl rfl) ?_
              (try simp only [Rg4.nrm])
              iterate 2 (first | (refine Rg4.w4_any (Rg4.wt rfl rfl rfl) rfl ?_; apply Exists.intro; refine ⟨fun w' => ?_, ?_⟩; (focus (first | (go_simp; done) | (go_simp; first | rfl | (rw [if_neg] <;> first | rfl | omega) | (rw [if_pos] <;> first | rfl | omega)))); (try simp only [Rg4.nrm])) | (refine Rg4.w4_skip (Rg4.uw rfl rfl rfl) ?_; (try simp only [Rg4.nrm])) | (refine Rg4.w4_skip (Rg4.un rfl rfl rfl) ?_; (try simp only [Rg4.nrm])))
              (refine Rg4.w4_any (Rg4.want_none rfl) rfl ?_; apply Exists.intro; refine ⟨fun w' => ?_, ?_⟩; (focus (first | (go_simp; done) | (go_simp; first | rfl | (rw [if_neg] <;> first | rfl | omega) | (rw [if_pos] <;> first | rfl | omega)))); (try simp only [Rg4.nrm]))
              refine Rg4.w4_nil (fun w' hw' hcl' _ => ?_); replace st := st.ext hw'; clear hw' hcl'; (try clear hc); have hc := st.facts; (try simp only [nfl, nft, Nat.reduceAdd] at hc)
              have HB : Hid (pickMin credLt (cnd credLt credR []) (l.take (j + 1)) = some x) := Lib.hid (by rw [HX.out]; simp [cnd, HR.out.1.1, HP.out, okC_f])
              go_wp2_with ((((with_reducible refine wl_store ?_ (fun K hK => ?_)); rfl; refine owp_store rfl st ?_; apply Exists.intro; apply Exists.intro; refine ⟨?_, ?_, ?_⟩; (focus (go_simp; try rfl)); (focus (go_simp; try rfl)); (with_reducible refine ⟨2, _, _, _, _, get2, rfl, rfl, ?_, ?_, ?_, ?_⟩); (kernel_rfl); (simp [Value.cells]); (rfl); (clear st; intro w st))); (try simp only [nsl, Value.cells, unB] at st); (try clear hc); have hc := st.facts; (try simp only [nfl, nft, Nat.reduceAdd] at hc))
              have st' := st.keep [0, 1, 2] (by decide) (by simp)
              go_roundg (n - (j + 1))
              case measure => omega
              case rel => exact ⟨j + 1, true, x, by omega, by omega, by first | rfl | trivial | go_num, rfl, Lib.hid (by rw [HB.out]; rfl), by simpa [pick] using st'⟩
            | true =>
              cases hlt : credLt x best with
              | true =>
                have HLT := Lib.hid hlt
                have hqb := credCmp_dec x best
                rw [hlt] at hqb
                obtain ⟨qb, hq⟩ : ∃ q, credCmp x best = q := ⟨_, rfl⟩
                rw [hq] at hqb
                have HQB := Lib.hid hq
                have HBR : Hid (credR best = true) := Lib.hid (cnd_P (pickMin_cand _ _ best (HP.out.trans (okC_t best))))
                clear hlt hq
                refine Rg4.wp_region4 (Rel := Ext) #[0, 1, 3, 7, 15, 31, 63, 127, 127, 383, 895, 2047, 4095, 127, 16383, 32767, 65535, 131071, 262143, 524287, 1048575, 2097151, 4194303, 4194303, 16777215, 33554431, 67108863, 134217727]
                  [(1, .val (.bool true)), (14, .val (.int .i64 0)), (24, .val (.int .i64 qb))] [] [0, 12, 13, 22, 23] (fun _ => True) [0, 1, 2, 3, 4, 5, 6, 7, 8, 9, 10, 11, 12, 13, 14, 15, 16, 17, 18, 19, 20, 21, 22, 23, 24, 25, 26, 27] (by kernel_rfl) (by kernel_rfl) (by kernel_rfl) (by kernel_rfl) Ext.refl (fun _ _ _ => Ext.trans) (show Rg4.PB _ by repeat (first | with_reducible exact Rg4.pb_body | with_reducible exact Rg4.pb_bodyD rfl | with_reducible refine Rg4.pb_then ?_ | with_reducible refine Rg4.pb_inBlock ?_ | with_reducible refine Rg4.pb_noGoto ?_)) (trivial) ?_
                replace st := st.drew
                change Rg4.wp4 _ _ _ _ _ _ _ _ _ (World.drew _) _ _
                generalize World.drew _ = w at st ⊢
                (try clear hc); have hc := st.facts; (try simp only [nfl, nft, Nat.reduceAdd] at hc)
                (refine Rg4.w4_read (Rg4.want_none rfl) rfl rfl ?_; apply Exists.intro; refine ⟨fun w' hw' hcl' => ?_, ?_⟩; focus (have st' := st.ext hw'; have hc' := st'.facts; (try simp only [nfl, nft, Nat.reduceAdd] at hc'); (focus (first | (go_simp; done) | (go_simp; first | rfl | (rw [if_neg] <;> first | rfl | omega) | (rw [if_pos] <;> first | rfl | omega))))); (try simp only [Rg4.nrm]))
                refine Rg4.w4_some (Rg4.want_none rfl) rfl (fun w' hw' hcl' _ => ?_) ?_
                · refine Rg.relAt_call (by go_simp; exact ⟨rfl, rfl⟩) ?_
                  refine (HR.out.2 _).mono ?_
                  rintro en w'' ⟨rfl, hx⟩
                  exact ⟨_, by rw [HR.out.1.1], hx, trivial, rfl⟩
                rintro v ⟨_, _, _, rfl⟩
                (try simp only [Rg4.nrm])
                (refine Rg4.w4_any (Rg4.want_none rfl) rfl ?_; apply Exists.intro; refine ⟨fun w' => ?_, ?_⟩; (focus (first | (go_simp; done) | (go_simp; first | rfl | (rw [if_neg] <;> first | rfl | omega) | (rw [if_pos] <;> first | rfl | omega)))); (try simp only [Rg4.nrm]))
                iterate 9 (first | (refine Rg4.w4_any (Rg4.wt rfl rfl rfl) rfl ?_; apply Exists.intro; refine ⟨fun w' => ?_, ?_⟩; (focus (first | (go_simp; done) | (go_simp; first | rfl | (rw [if_neg] <;> first | rfl | omega) | (rw [if_pos] <;> first | rfl | omega)))); (try simp only [Rg4.nrm])) | (refine Rg4.w4_skip (Rg4.uw rfl rfl rfl) ?_; (try simp only [Rg4.nrm])) | (refine Rg4.w4_skip (Rg4.un rfl rfl rfl) ?_; (try simp only [Rg4.nrm])))
                iterate 2 (first | (refine Rg4.w4_read (Rg4.wt rfl rfl rfl) rfl rfl ?_; apply Exists.intro; refine ⟨fun w' hw' hcl' => ?_, ?_⟩; focus (have st' := st.ext hw'; have hc' := st'.facts; (try simp only [nfl, nft, Nat.reduceAdd] at hc'); (focus (first | (go_simp; done) | (go_simp; first | rfl | (rw [if_neg] <;> first | rfl | omega) | (rw [if_pos] <;> first | rfl | omega))))); (try simp only [Rg4.nrm])) | (refine Rg4.w4_skip (Rg4.uw rfl rfl rfl) ?_; (try simp only [Rg4.nrm])) | (refine Rg4.w4_skip (Rg4.un rfl rfl rfl) ?_; (try simp only [Rg4.nrm])))
                first | refine Rg4.w4_skip (Rg4.uw rfl rfl rfl) ?_ | refine Rg4.w4_skip (Rg4.un rfl rfl rfl) ?_
                (try simp only [Rg4.nrm])
                iterate 2 (first | (refine Rg4.w4_any (Rg4.wt rfl rfl rfl) rfl ?_; apply Exists.intro; refine ⟨fun w' => ?_, ?_⟩; (focus (first | (go_simp; done) | (go_simp; first | rfl | (rw [if_neg] <;> first | rfl | omega) | (rw [if_pos] <;> first | rfl | omega)))); (try simp only [Rg4.nrm])) | (refine Rg4.w4_skip (Rg4.uw rfl rfl rfl) ?_; (try simp only [Rg4.nrm])) | (refine Rg4.w4_skip (Rg4.un rfl rfl rfl) ?_; (try simp only [Rg4.nrm])))
                iterate 2 (refine Rg4.w4_any (Rg4.want_none rfl) rfl ?_; apply Exists.intro; refine ⟨fun w' => ?_, ?_⟩; (focus (first | (go_simp; done) | (go_simp; first | rfl | (rw [if_neg] <;> first | rfl | omega) | (rw [if_pos] <;> first | rfl | omega)))); (try simp only [Rg4.nrm]))
                iterate 3 (first | (refine Rg4.w4_any (Rg4.wt rfl rfl rfl) rfl ?_; apply Exists.intro; refine ⟨fun w' => ?_, ?_⟩; (focus (first | (go_simp; done) | (go_simp; first | rfl | (rw [if_neg] <;> first | rfl | omega) | (rw [if_pos] <;> first | rfl | omega)))); (try simp only [Rg4.nrm])) | (refine Rg4.w4_skip (Rg4.uw rfl rfl rfl) ?_; (try simp only [Rg4.nrm])) | (refine Rg4.w4_skip (Rg4.un rfl rfl rfl) ?_; (try simp only [Rg4.nrm])))
                iterate 2 (first | (refine Rg4.w4_read (Rg4.wt rfl rfl rfl) rfl rfl ?_; apply Exists.intro; refine ⟨fun w' hw' hcl' => ?_, ?_⟩; focus (have st' := st.ext hw'; have hc' := st'.facts; (try simp only [nfl, nft, Nat.reduceAdd] at hc'); (focus (first | (go_simp; done) | (go_simp; first | rfl | (rw [if_neg] <;> first | rfl | omega) | (rw [if_pos] <;> first | rfl | omega))))); (try simp only [Rg4.nrm])) | (refine Rg4.w4_skip (Rg4.uw rfl rfl rfl) ?_; (try simp only [Rg4.nrm])) | (refine Rg4.w4_skip (Rg4.un rfl rfl rfl) ?_; (try simp only [Rg4.nrm])))
                refine Rg4.w4_some (Rg4.want_of 21 35 false rfl rfl rfl) rfl (fun w' hw' hcl' _ => ?_) ?_
                · refine Rg.relAt_call (by go_simp; exact ⟨rfl, rfl⟩) ?_
                  refine (HLB.out _ HBR.out).mono ?_
                  rintro en w'' ⟨rfl, hx⟩
                  exact ⟨_, by rw [HQB.out], hx, trivial, rfl⟩
                rintro v ⟨_, _, _, rfl⟩
                (try simp only [Rg4.nrm])
                iterate 2 (first | (refine Rg4.w4_any (Rg4.wt rfl rfl rfl) rfl ?_; apply Exists.intro; refine ⟨fun w' => ?_, ?_⟩; (focus (first | (go_simp; done) | (go_simp; first | rfl | (rw [if_neg] <;> first | rfl | omega) | (rw [if_pos] <;> first | rfl | omega)))); (try simp only [Rg4.nrm])) | (refine Rg4.w4_skip (Rg4.uw rfl rfl rfl) ?_; (try simp only [Rg4.nrm])) | (refine Rg4.w4_skip (Rg4.un rfl rfl rfl) ?_; (try simp only [Rg4.nrm])))
                (refine Rg4.w4_any (Rg4.want_none rfl) rfl ?_; apply Exists.intro; refine ⟨fun w' => ?_, ?_⟩; (focus (first | (go_simp; done) | (go_simp; first | rfl | (rw [if_neg] <;> first | rfl | omega) | (rw [if_pos] <;> first | rfl | omega)))); (try simp only [Rg4.nrm]))
                refine Rg4.w4_nil (fun w' hw' hcl' _ => ?_); replace st := st.ext hw'; clear hw' hcl'; (try clear hc); have hc := st.facts; (try simp only [nfl, nft, Nat.reduceAdd] at hc)
                have HB : Hid (pickMin credLt (cnd credLt credR []) (l.take (j + 1)) = some x) := Lib.hid (by rw [HX.out]; simp [cnd, HR.out.1.1, HP.out, okC_t, HLT.out])
                go_wp2_with ((((with_reducible refine wl_store ?_ (fun K hK => ?_)); rfl; refine owp_store rfl st ?_; apply Exists.intro; apply Exists.intro; refine ⟨?_, ?_, ?_⟩; (focus (go_simp; try rfl)); (focus (go_simp; try rfl)); (with_reducible refine ⟨2, _, _, _, _, get2, rfl, rfl, ?_, ?_, ?_, ?_⟩); (kernel_rfl); (simp [Value.cells]); (rfl); (clear st; intro w st))); (try simp only [nsl, Value.cells, unB] at st); (try clear hc); have hc := st.facts; (try simp only [nfl, nft, Nat.reduceAdd] at hc))
                have st' := st.keep [0, 1, 2] (by decide) (by simp)
                go_roundg (n - (j + 1))
                case measure => omega
                case rel => exact ⟨j + 1, true, x, by omega, by omega, by first | rfl | trivial | go_num, rfl, Lib.hid (by rw [HB.out]; rfl), by simpa [pick] using st'⟩
              | false =>
                have HLT := Lib.hid hlt
                have hqb := credCmp_dec x best
                rw [hlt] at hqb
                obtain ⟨qb, hq⟩ : ∃ q, credCmp x best = q := ⟨_, rfl⟩
                rw [hq] at hqb
                have HQB := Lib.hid hq
                have HBR : Hid (credR best = true) := Lib.hid (cnd_P (pickMin_cand _ _ best (HP.out.trans (okC_t best))))
                clear hlt hq
                refine Rg4.wp_region4 (Rel := Ext) #[0, 1, 3, 7, 15, 31, 63, 127, 127, 383, 895, 2047, 4095, 127, 16383, 32767, 65535, 131071, 262143, 524287, 1048575, 2097151, 4194303, 4194303, 16777215, 33554431, 67108863, 134217727]
                  [(1, .val (.bool true)), (14, .val (.int .i64 0)), (24, .val (.int .i64 qb))] [] [0, 12, 13, 22, 23] (fun _ => True) [0, 1, 2, 3, 4, 5, 6, 7, 8, 9, 10, 11, 12, 13, 14, 15, 16, 17, 18, 19, 20, 21, 22, 23, 24, 25, 26, 27] (by kernel_rfl) (by kernel_rfl) (by kernel_rfl) (by kernel_rfl) Ext.refl (fun _ _ _ => Ext.trans) (show Rg4.PB _ by repeat (first | with_reducible exact Rg4.pb_body | with_reducible exact Rg4.pb_bodyD rfl | with_reducible refine Rg4.pb_then ?_ | with_reducible refine Rg4.pb_inBlock ?_ | with_reducible refine Rg4.pb_noGoto ?_)) (trivial) ?_
                replace st := st.drew
                change Rg4.wp4 _ _ _ _ _ _ _ _ _ (World.drew _) _ _
                generalize World.drew _ = w at st ⊢
                (try clear hc); have hc := st.facts; (try simp only [nfl, nft, Nat.reduceAdd] at hc)
                (refine Rg4.w4_read (Rg4.want_none rfl) rfl rfl ?_; apply Exists.intro; refine ⟨fun w' hw' hcl' => ?_, ?_⟩; focus (have st' := st.ext hw'; have hc' := st'.facts; (try simp only [nfl, nft, Nat.reduceAdd] at hc'); (focus (first | (go_simp; done) | (go_simp; first | rfl | (rw [if_neg] <;> first | rfl | omega) | (rw [if_pos] <;> first | rfl | omega))))); (try simp only [Rg4.nrm]))
                refine Rg4.w4_some (Rg4.want_none rfl) rfl (fun w' hw' hcl' _ => ?_) ?_
                · refine Rg.relAt_call (by go_simp; exact ⟨rfl, rfl⟩) ?_
                  refine (HR.out.2 _).mono ?_
                  rintro en w'' ⟨rfl, hx⟩
                  exact ⟨_, by rw [HR.out.1.1], hx, trivial, rfl⟩
                rintro v ⟨_, _, _, rfl⟩
                (try simp only [Rg4.nrm])
                (refine Rg4.w4_any (Rg4.want_none rfl) rfl ?_; apply Exists.intro; refine ⟨fun w' => ?_, ?_⟩; (focus (first | (go_simp; done) | (go_simp; first | rfl | (rw [if_neg] <;> first | rfl | omega) | (rw [if_pos] <;> first | rfl | omega)))); (try simp only [Rg4.nrm]))
                iterate 9 (first | (refine Rg4.w4_any (Rg4.wt rfl rfl rfl) rfl ?_; apply Exists.intro; refine ⟨fun w' => ?_, ?_⟩; (focus (first | (go_simp; done) | (go_simp; first | rfl | (rw [if_neg] <;> first | rfl | omega) | (rw [if_pos] <;> first | rfl | omega)))); (try simp only [Rg4.nrm])) | (refine Rg4.w4_skip (Rg4.uw rfl rfl rfl) ?_; (try simp only [Rg4.nrm])) | (refine Rg4.w4_skip (Rg4.un rfl rfl rfl) ?_; (try simp only [Rg4.nrm])))
                iterate 2 (first | (refine Rg4.w4_read (Rg4.wt rfl rfl rfl) rfl rfl ?_; apply Exists.intro; refine ⟨fun w' hw' hcl' => ?_, ?_⟩; focus (have st' := st.ext hw'; have hc' := st'.facts; (try simp only [nfl, nft, Nat.reduceAdd] at hc'); (focus (first | (go_simp; done) | (go_simp; first | rfl | (rw [if_neg] <;> first | rfl | omega) | (rw [if_pos] <;> first | rfl | omega))))); (try simp only [Rg4.nrm])) | (refine Rg4.w4_skip (Rg4.uw rfl rfl rfl) ?_; (try simp only [Rg4.nrm])) | (refine Rg4.w4_skip (Rg4.un rfl rfl rfl) ?_; (try simp only [Rg4.nrm])))
                first | refine Rg4.w4_skip (Rg4.uw rfl rfl rfl) ?_ | refine Rg4.w4_skip (Rg4.un rfl rfl rfl) ?_
                (try simp only [Rg4.nrm])
                iterate 2 (first | (refine Rg4.w4_any (Rg4.wt rfl rfl rfl) rfl ?_; apply Exists.intro; refine ⟨fun w' => ?_, ?_⟩; (focus (first | (go_simp; done) | (go_simp; first | rfl | (rw [if_neg] <;> first | rfl | omega) | (rw [if_pos] <;> first | rfl | omega)))); (try simp only [Rg4.nrm])) | (refine Rg4.w4_skip (Rg4.uw rfl rfl rfl) ?_; (try simp only [Rg4.nrm])) | (refine Rg4.w4_skip (Rg4.un rfl rfl rfl) ?_; (try simp only [Rg4.nrm])))
                iterate 2 (refine Rg4.w4_any (Rg4.want_none rfl) rfl ?_; apply Exists.intro; refine ⟨fun w' => ?_, ?_⟩; (focus (first | (go_simp; done) | (go_simp; first | rfl | (rw [if_neg] <;> first | rfl | omega) | (rw [if_pos] <;> first | rfl | omega)))); (try simp only [Rg4.nrm]))
                iterate 3 (first | (refine Rg4.w4_any (Rg4.wt rfl rfl rfl) rfl ?_; apply Exists.intro; refine ⟨fun w' => ?_, ?_⟩; (focus (first | (go_simp; done) | (go_simp; first | rfl | (rw [if_neg] <;> first | rfl | omega) | (rw [if_pos] <;> first | rfl | omega)))); (try simp only [Rg4.nrm])) | (refine Rg4.w4_skip (Rg4.uw rfl rfl rfl) ?_; (try simp only [Rg4.nrm])) | (refine Rg4.w4_skip (Rg4.un rfl rfl rfl) ?_; (try simp only [Rg4.nrm])))
                iterate 2 (first | (refine Rg4.w4_read (Rg4.wt rfl rfl rfl) rfl rfl ?_; apply Exists.intro; refine ⟨fun w' hw' hcl' => ?_, ?_⟩; focus (have st' := st.ext hw'; have hc' := st'.facts; (try simp only [nfl, nft, Nat.reduceAdd] at hc'); (focus (first | (go_simp; done) | (go_simp; first | rfl | (rw [if_neg] <;> first | rfl | omega) | (rw [if_pos] <;> first | rfl | omega))))); (try simp only [Rg4.nrm])) | (refine Rg4.w4_skip (Rg4.uw rfl rfl rfl) ?_; (try simp only [Rg4.nrm])) | (refine Rg4.w4_skip (Rg4.un rfl rfl rfl) ?_; (try simp only [Rg4.nrm])))
                refine Rg4.w4_some (Rg4.want_of 21 35 false rfl rfl rfl) rfl (fun w' hw' hcl' _ => ?_) ?_
                · refine Rg.relAt_call (by go_simp; exact ⟨rfl, rfl⟩) ?_
                  refine (HLB.out _ HBR.out).mono ?_
                  rintro en w'' ⟨rfl, hx⟩
                  exact ⟨_, by rw [HQB.out], hx, trivial, rfl⟩
                rintro v ⟨_, _, _, rfl⟩
                (try simp only [Rg4.nrm])
                iterate 2 (first | (refine Rg4.w4_any (Rg4.wt rfl rfl rfl) rfl ?_; apply Exists.intro; refine ⟨fun w' => ?_, ?_⟩; (focus (first | (go_simp; done) | (go_simp; first | rfl | (rw [if_neg] <;> first | rfl | omega) | (rw [if_pos] <;> first | rfl | omega)))); (try simp only [Rg4.nrm])) | (refine Rg4.w4_skip (Rg4.uw rfl rfl rfl) ?_; (try simp only [Rg4.nrm])) | (refine Rg4.w4_skip (Rg4.un rfl rfl rfl) ?_; (try simp only [Rg4.nrm])))
                (refine Rg4.w4_any (Rg4.want_none rfl) rfl ?_; apply Exists.intro; refine ⟨fun w' => ?_, ?_⟩; (focus (first | (go_simp; done) | (go_simp; first | rfl | (rw [if_neg] <;> first | rfl | omega) | (rw [if_pos] <;> first | rfl | omega)))); (try simp only [Rg4.nrm]))
                refine Rg4.w4_nil (fun w' hw' hcl' _ => ?_); replace st := st.ext hw'; clear hw' hcl'; (try clear hc); have hc := st.facts; (try simp only [nfl, nft, Nat.reduceAdd] at hc)
                have HB : Hid (pickMin credLt (cnd credLt credR []) (l.take (j + 1)) = pickMin credLt (cnd credLt credR []) (l.take j)) := Lib.hid (by rw [HX.out]; simp [cnd, HR.out.1.1, HP.out, okC_t, HLT.out])
                go_wp2_with fail
                have st' := st.keep [0, 1, 2] (by decide) (by simp)
                go_roundg (n - (j + 1))
                case measure => omega
                case rel => exact ⟨j + 1, true, best, by omega, by omega, by first | rfl | trivial | go_num, rfl, Lib.hid (by rw [HB.out]; exact HP.out), by simpa [pick] using st'⟩
          · rw [List.concat_eq_append] at ho
            have hmq : m = pre.length + 1 := by have := HG.out.2.2; rw [ho] at this; simpa using this
            have hlast : out.getLast? = some z := by rw [ho]; simp
            have hoz : out[pre.length]? = some z := by rw [ho]; simp
            have hrz := cred_get hoz
            have hzr : credR z = true := (HG.out.1.2.1 z (List.mem_of_getLast? hlast)).2
            have hlz := fun W => refCredCompare_any z x W (credR_len hzr) HR.out.1.2
            clear ho hoz
            generalize pre.length = q at *
            have hw : IntKind.i64.wrap ((m : Int) - 1) = (q : Int) := by rw [IntWalk.i64_in _ ⟨by omega, by omega⟩]; omega
            have hb0 : ((m : Int) == 0) = false := by simp; omega
            have hqm : q < m := by omega
            obtain ⟨g, cap, hv, hcap, _⟩ := st.rowAt (i := 1) get1 (by omega)
            injection hv with hv1 hv2 hv3
            subst hv1 hv3
            clear hmq
            unfold S at hrz
            unfold cV S at hlz
            have HRZ := Lib.hid hrz
            have HLZ := Lib.hid hlz
            have HLA := Lib.hid hlast
            clear hrz hlz hlast hcap
            cases hzx : credLt z x with
            | false =>
              have HZ := Lib.hid hzx
              have hqz := credCmp_dec z x
              rw [hzx] at hqz
              obtain ⟨qz, hq⟩ : ∃ q, credCmp z x = q := ⟨_, rfl⟩
              rw [hq] at hqz
              have HQZ := Lib.hid hq
              clear hzx hq
              refine Rg4.wp_region4 (Rel := Ext) #[0, 1, 3, 7, 15, 31, 63, 127, 127, 383, 895, 2047, 4095, 127, 16383, 32767, 65535, 131071, 262143, 524287, 1048575, 2097151, 4194303, 4194303, 16777215, 33554431, 67108863, 134217727]
                [(1, .val (.bool true)), (14, .val (.int .i64 qz)), (24, .val (.int .i64 0))] [] [0, 12, 13, 22, 23] (fun _ => True) [0, 1, 2, 3, 4, 5, 6, 7, 8, 9, 10, 11, 12, 13, 14, 15, 16, 17, 18, 19, 20, 21, 22, 23, 24, 25, 26, 27] (by kernel_rfl) (by kernel_rfl) (by kernel_rfl) (by kernel_rfl) Ext.refl (fun _ _ _ => Ext.trans) (show Rg4.PB _ by repeat (first | with_reducible exact Rg4.pb_body | with_reducible exact Rg4.pb_bodyD rfl | with_reducible refine Rg4.pb_then ?_ | with_reducible refine Rg4.pb_inBlock ?_ | with_reducible refine Rg4.pb_noGoto ?_)) (trivial) ?_
              replace st := st.drew
              change Rg4.wp4 _ _ _ _ _ _ _ _ _ (World.drew _) _ _
              generalize World.drew _ = w at st ⊢
              (try clear hc); have hc := st.facts; (try simp only [nfl, nft, Nat.reduceAdd] at hc)
              (refine Rg4.w4_read (Rg4.want_none rfl) rfl rfl ?_; apply Exists.intro; refine ⟨fun w' hw' hcl' => ?_, ?_⟩; focus (have st' := st.ext hw'; have hc' := st'.facts; (try simp only [nfl, nft, Nat.reduceAdd] at hc'); have r0 := st'.rowC (i := 1) get1 _ _ HRZ.out.1; have r1 := st'.rowC (i := 1) get1 _ _ HRZ.out.2.1; have r2 := st'.rowC (i := 1) get1 _ _ HRZ.out.2.2.1; have r3 := st'.rowC (i := 1) get1 _ _ HRZ.out.2.2.2.1; have r4 := st'.rowC (i := 1) get1 _ _ HRZ.out.2.2.2.2.1; have r5 := st'.rowC (i := 1) get1 _ _ HRZ.out.2.2.2.2.2.1; have r6 := st'.rowC (i := 1) get1 _ _ HRZ.out.2.2.2.2.2.2.1; have r7 := st'.rowC (i := 1) get1 _ _ HRZ.out.2.2.2.2.2.2.2.1; have r8 := st'.rowC (i := 1) get1 _ _ HRZ.out.2.2.2.2.2.2.2.2; (focus (first | (go_simp; done) | (go_simp; first | rfl | (rw [if_neg] <;> first | rfl | omega) | (rw [if_pos] <;> first | rfl | omega))))); (try simp only [Rg4.nrm]))
              refine Rg4.w4_some (Rg4.want_none rfl) rfl (fun w' hw' hcl' _ => ?_) ?_
              · refine Rg.relAt_call (by go_simp; exact ⟨rfl, rfl⟩) ?_
                refine (HR.out.2 _).mono ?_
                rintro en w'' ⟨rfl, hx⟩
                exact ⟨_, by rw [HR.out.1.1], hx, trivial, rfl⟩
              rintro v ⟨_, _, _, rfl⟩
              (try simp only [Rg4.nrm])
              (refine Rg4.w4_any (Rg4.want_none rfl) rfl ?_; apply Exists.intro; refine ⟨fun w' => ?_, ?_⟩; (focus (first | (go_simp; done) | (go_simp; first | rfl | (rw [if_neg] <;> first | rfl | omega) | (rw [if_pos] <;> first | rfl | omega)))); (try simp only [Rg4.nrm]))
              iterate 9 (first | (refine Rg4.w4_any (Rg4.wt rfl rfl rfl) rfl ?_; apply Exists.intro; refine ⟨fun w' => ?_, ?_⟩; (focus (first | (go_simp; done) | (go_simp; first | rfl | (rw [if_neg] <;> first | rfl | omega) | (rw [if_pos] <;> first | rfl | omega)))); (try simp only [Rg4.nrm])) | (refine Rg4.w4_skip (Rg4.uw rfl rfl rfl) ?_; (try simp only [Rg4.nrm])) | (refine Rg4.w4_skip (Rg4.un rfl rfl rfl) ?_; (try simp only [Rg4.nrm])))
              iterate 2 (first | (refine Rg4.w4_read (Rg4.wt rfl rfl rfl) rfl rfl ?_; apply Exists.intro; refine ⟨fun w' hw' hcl' => ?_, ?_⟩; focus (have st' := st.ext hw'; have hc' := st'.facts; (try simp only [nfl, nft, Nat.reduceAdd] at hc'); have r0 := st'.rowC (i := 1) get1 _ _ HRZ.out.1; have r1 := st'.rowC (i := 1) get1 _ _ HRZ.out.2.1; have r2 := st'.rowC (i := 1) get1 _ _ HRZ.out.2.2.1; have r3 := st'.rowC (i := 1) get1 _ _ HRZ.out.2.2.2.1; have r4 := st'.rowC (i := 1) get1 _ _ HRZ.out.2.2.2.2.1; have r5 := st'.rowC (i := 1) get1 _ _ HRZ.out.2.2.2.2.2.1; have r6 := st'.rowC (i := 1) get1 _ _ HRZ.out.2.2.2.2.2.2.1; have r7 := st'.rowC (i := 1) get1 _ _ HRZ.out.2.2.2.2.2.2.2.1; have r8 := st'.rowC (i := 1) get1 _ _ HRZ.out.2.2.2.2.2.2.2.2; (focus (first | (go_simp; done) | (go_simp; first | rfl | (rw [if_neg] <;> first | rfl | omega) | (rw [if_pos] <;> first | rfl | omega))))); (try simp only [Rg4.nrm])) | (refine Rg4.w4_skip (Rg4.uw rfl rfl rfl) ?_; (try simp only [Rg4.nrm])) | (refine Rg4.w4_skip (Rg4.un rfl rfl rfl) ?_; (try simp only [Rg4.nrm])))
              refine Rg4.w4_some (Rg4.want_of 6 20 false rfl rfl rfl) rfl (fun w' hw' hcl' _ => ?_) ?_
              · refine Rg.relAt_call (by go_simp; exact ⟨rfl, rfl⟩) ?_
                refine (HLZ.out _).mono ?_
                rintro en w'' ⟨rfl, hx⟩
                exact ⟨_, by rw [HQZ.out], hx, trivial, rfl⟩
              rintro v ⟨_, _, _, rfl⟩
              (try simp only [Rg4.nrm])
              iterate 2 (first | (refine Rg4.w4_any (Rg4.wt rfl rfl rfl) rfl ?_; apply Exists.intro; refine ⟨fun w' => ?_, ?_⟩; (focus (first | (go_simp; done) | (go_simp; first | rfl | (rw [if_neg] <;> first | rfl | omega) | (rw [if_pos] <;> first | rfl | omega)))); (try simp only [Rg4.nrm])) | (refine Rg4.w4_skip (Rg4.uw rfl rfl rfl) ?_; (try simp only [Rg4.nrm])) | (refine Rg4.w4_skip (Rg4.un rfl rfl rfl) ?_; (try simp only [Rg4.nrm])))
              iterate 2 (refine Rg4.w4_any (Rg4.want_none rfl) rfl ?_; apply Exists.intro; refine ⟨fun w' => ?_, ?_⟩; (focus (first | (go_simp; done) | (go_simp; first | rfl | (rw [if_neg] <;> first | rfl | omega) | (rw [if_pos] <;> first | rfl | omega)))); (try simp only [Rg4.nrm]))
              iterate 3 (first | (refine Rg4.w4_any (Rg4.wt rfl rfl rfl) rfl ?_; apply Exists.intro; refine ⟨fun w' => ?_, ?_⟩; (focus (first | (go_simp; done) | (go_simp; first | rfl | (rw [if_neg] <;> first | rfl | omega) | (rw [if_pos] <;> first | rfl | omega)))); (try simp only [Rg4.nrm])) | (refine Rg4.w4_skip (Rg4.uw rfl rfl rfl) ?_; (try simp only [Rg4.nrm])) | (refine Rg4.w4_skip (Rg4.un rfl rfl rfl) ?_; (try simp only [Rg4.nrm])))
              iterate 2 (first | (refine Rg4.w4_read (Rg4.wt rfl rfl rfl) rfl rfl ?_; apply Exists.intro; refine ⟨fun w' hw' hcl' => ?_, ?_⟩; focus (have st' := st.ext hw'; have hc' := st'.facts; (try simp only [nfl, nft, Nat.reduceAdd] at hc'); have r0 := st'.rowC (i := 1) get1 _ _ HRZ.out.1; have r1 := st'.rowC (i := 1) get1 _ _ HRZ.out.2.1; have r2 := st'.rowC (i := 1) get1 _ _ HRZ.out.2.2.1; have r3 := st'.rowC (i := 1) get1 _ _ HRZ.out.2.2.2.1; have r4 := st'.rowC (i := 1) get1 _ _ HRZ.out.2.2.2.2.1; have r5 := st'.rowC (i := 1) get1 _ _ HRZ.out.2.2.2.2.2.1; have r6 := st'.rowC (i := 1) get1 _ _ HRZ.out.2.2.2.2.2.2.1; have r7 := st'.rowC (i := 1) get1 _ _ HRZ.out.2.2.2.2.2.2.2.1; have r8 := st'.rowC (i := 1) get1 _ _ HRZ.out.2.2.2.2.2.2.2.2; (focus (first | (go_simp; done) | (go_simp; first | rfl | (rw [if_neg] <;> first | rfl | omega) | (rw [if_pos] <;> first | rfl | omega))))); (try simp only [Rg4.nrm])) | (refine Rg4.w4_skip (Rg4.uw rfl rfl rfl) ?_; (try simp only [Rg4.nrm])) | (refine Rg4.w4_skip (Rg4.un rfl rfl rfl) ?_; (try simp only [Rg4.nrm])))
              first | refine Rg4.w4_skip (Rg4.uw rfl rfl rfl) ?_ | refine Rg4.w4_skip (Rg4.un rfl rfl rfl) ?_
              (try simp only [Rg4.nrm])
              iterate 2 (first | (refine Rg4.w4_any (Rg4.wt rfl rfl rfl) rfl ?_; apply Exists.intro; refine ⟨fun w' => ?_, ?_⟩; (focus (first | (go_simp; done) | (go_simp; first | rfl | (rw [if_neg] <;> first | rfl | omega) | (rw [if_pos] <;> first | rfl | omega)))); (try simp only [Rg4.nrm])) | (refine Rg4.w4_skip (Rg4.uw rfl rfl rfl) ?_; (try simp only [Rg4.nrm])) | (refine Rg4.w4_skip (Rg4.un rfl rfl rfl) ?_; (try simp only [Rg4.nrm])))
              (refine Rg4.w4_any (Rg4.want_none rfl) rfl ?_; apply Exists.intro; refine ⟨fun w' => ?_, ?_⟩; (focus (first | (go_simp; done) | (go_simp; first | rfl | (rw [if_neg] <;> first | rfl | omega) | (rw [if_pos] <;> first | rfl | omega)))); (try simp only [Rg4.nrm]))
              refine Rg4.w4_nil (fun w' hw' hcl' _ => ?_); replace st := st.ext hw'; clear hw' hcl'; (try clear hc); have hc := st.facts; (try simp only [nfl, nft, Nat.reduceAdd] at hc)
              have HB : Hid (pickMin credLt (cnd credLt credR out) (l.take (j + 1)) = pickMin credLt (cnd credLt credR out) (l.take j)) := Lib.hid (by rw [HX.out]; simp [cnd, HLA.out, HZ.out])
              go_wp2_with fail
              have st' := st.keep [0, 1, 2] (by decide) (by simp)
              go_roundg (n - (j + 1))
              case measure => omega
              case rel => exact ⟨j + 1, ok, best, by omega, by omega, by first | rfl | trivial | go_num, rfl, Lib.hid (by rw [HB.out]; exact HP.out), by simpa [pick] using st'⟩
            | true =>
              have HZ := Lib.hid hzx
              have hqz := credCmp_dec z x
              rw [hzx] at hqz
              obtain ⟨qz, hq⟩ : ∃ q, credCmp z x = q := ⟨_, rfl⟩
              rw [hq] at hqz
              have HQZ := Lib.hid hq
              clear hzx hq
              cases ok with
              | false =>
                refine Rg4.wp_region4 (Rel := Ext) #[0, 1, 3, 7, 15, 31, 63, 127, 127, 383, 895, 2047, 4095, 127, 16383, 32767, 65535, 131071, 262143, 524287, 1048575, 2097151, 4194303, 4194303, 16777215, 33554431, 67108863, 134217727]
                  [(1, .val (.bool true)), (14, .val (.int .i64 qz)), (24, .val (.int .i64 0))] [] [0, 12, 13, 22, 23] (fun _ => True) [0, 1, 2, 3, 4, 5, 6, 7, 8, 9, 10, 11, 12, 13, 14, 15, 16, 17, 18, 19, 20, 21, 22, 23, 24, 25, 26, 27] (by kernel_rfl) (by kernel_rfl) (by kernel_rfl) (by kernel_rfl) Ext.refl (fun _ _ _ => Ext.trans) (show Rg4.PB _ by repeat (first | with_reducible exact Rg4.pb_body | with_reducible exact Rg4.pb_bodyD rfl | with_reducible refine Rg4.pb_then ?_ | with_reducible refine Rg4.pb_inBlock ?_ | with_reducible refine Rg4.pb_noGoto ?_)) (trivial) ?_
                replace st := st.drew
                change Rg4.wp4 _ _ _ _ _ _ _ _ _ (World.drew _) _ _
                generalize World.drew _ = w at st ⊢
                (try clear hc); have hc := st.facts; (try simp only [nfl, nft, Nat.reduceAdd] at hc)
                (refine Rg4.w4_read (Rg4.want_none rfl) rfl rfl ?_; apply Exists.intro; refine ⟨fun w' hw' hcl' => ?_, ?_⟩; focus (have st' := st.ext hw'; have hc' := st'.facts; (try simp only [nfl, nft, Nat.reduceAdd] at hc'); have r0 := st'.rowC (i := 1) get1 _ _ HRZ.out.1; have r1 := st'.rowC (i := 1) get1 _ _ HRZ.out.2.1; have r2 := st'.rowC (i := 1) get1 _ _ HRZ.out.2.2.1; have r3 := st'.rowC (i := 1) get1 _ _ HRZ.out.2.2.2.1; have r4 := st'.rowC (i := 1) get1 _ _ HRZ.out.2.2.2.2.1; have r5 := st'.rowC (i := 1) get1 _ _ HRZ.out.2.2.2.2.2.1; have r6 := st'.rowC (i := 1) get1 _ _ HRZ.out.2.2.2.2.2.2.1; have r7 := st'.rowC (i := 1) get1 _ _ HRZ.out.2.2.2.2.2.2.2.1; have r8 := st'.rowC (i := 1) get1 _ _ HRZ.out.2.2.2.2.2.2.2.2; (focus (first | (go_simp; done) | (go_simp; first | rfl | (rw [if_neg] <;> first | rfl | omega) | (rw [if_pos] <;> first | rfl | omega))))); (try simp only [Rg4.nrm]))
                refine Rg4.w4_some (Rg4.want_none rfl) rfl (fun w' hw' hcl' _ => ?_) ?_
                · refine Rg.relAt_call (by go_simp; exact ⟨rfl, rfl⟩) ?_
                  refine (HR.out.2 _).mono ?_
                  rintro en w'' ⟨rfl, hx⟩
                  exact ⟨_, by rw [HR.out.1.1], hx, trivial, rfl⟩
                rintro v ⟨_, _, _, rfl⟩
                (try simp only [Rg4.nrm])
                (refine Rg4.w4_any (Rg4.want_none rfl) rfl ?_; apply Exists.intro; refine ⟨fun w' => ?_, ?_⟩; (focus (first | (go_simp; done) | (go_simp; first | rfl | (rw [if_neg] <;> first | rfl | omega) | (rw [if_pos] <;> first | rfl | omega)))); (try simp only [Rg4.nrm]))
                iterate 9 (first | (refine Rg4.w4_any (Rg4.wt rfl rfl rfl) rfl ?_; apply Exists.intro; refine ⟨fun w' => ?_, ?_⟩; (focus (first | (go_simp; done) | (go_simp; first | rfl | (rw [if_neg] <;> first | rfl | omega) | (rw [if_pos] <;> first | rfl | omega)))); (try simp only [Rg4.nrm])) | (refine Rg4.w4_skip (Rg4.uw rfl rfl rfl) ?_; (try simp only [Rg4.nrm])) | (refine Rg4.w4_skip (Rg4.un rfl rfl rfl) ?_; (try simp only [Rg4.nrm])))
                iterate 2 (first | (refine Rg4.w4_read (Rg4.wt rfl rfl rfl) rfl rfl ?_; apply Exists.intro; refine ⟨fun w' hw' hcl' => ?_, ?_⟩; focus (have st' := st.ext hw'; have hc' := st'.facts; (try simp only [nfl, nft, Nat.reduceAdd] at hc'); have r0 := st'.rowC (i := 1) get1 _ _ HRZ.out.1; have r1 := st'.rowC (i := 1) get1 _ _ HRZ.out.2.1; have r2 := st'.rowC (i := 1) get1 _ _ HRZ.out.2.2.1; have r3 := st'.rowC (i := 1) get1 _ _ HRZ.out.2.2.2.1; have r4 := st'.rowC (i := 1) get1 _ _ HRZ.out.2.2.2.2.1; have r5 := st'.rowC (i := 1) get1 _ _ HRZ.out.2.2.2.2.2.1; have r6 := st'.rowC (i := 1) get1 _ _ HRZ.out.2.2.2.2.2.2.1; have r7 := st'.rowC (i := 1) get1 _ _ HRZ.out.2.2.2.2.2.2.2.1; have r8 := st'.rowC (i := 1) get1 _ _ HRZ.out.2.2.2.2.2.2.2.2; (focus (first | (go_simp; done) | (go_simp; first | rfl | (rw [if_neg] <;> first | rfl | omega) | (rw [if_pos] <;> first | rfl | omega))))); (try simp only [Rg4.nrm])) | (refine Rg4.w4_skip (Rg4.uw rfl rfl rfl) ?_; (try simp only [Rg4.nrm])) | (refine Rg4.w4_skip (Rg4.un rfl rfl rfl) ?_; (try simp only [Rg4.nrm])))
                refine Rg4.w4_some (Rg4.want_of 6 20 false rfl rfl rfl) rfl (fun w' hw' hcl' _ => ?_) ?_
                · refine Rg.relAt_call (by go_simp; exact ⟨rfl, rfl⟩) ?_
                  refine (HLZ.out _).mono ?_
                  rintro en w'' ⟨rfl, hx⟩
                  exact ⟨_, by rw [HQZ.out], hx, trivial, rfl⟩
                rintro v ⟨_, _, _, rfl⟩
                (try simp only [Rg4.nrm])
                iterate 2 (first | (refine Rg4.w4_any (Rg4.wt rfl rfl rfl) rfl ?_; apply Exists.intro; refine ⟨fun w' => ?_, ?_⟩; (focus (first | (go_simp; done) | (go_simp; first | rfl | (rw [if_neg] <;> first | rfl | omega) | (rw [if_pos] <;> first | rfl | omega)))); (try simp only [Rg4.nrm])) | (refine Rg4.w4_skip (Rg4.uw rfl rfl rfl) ?_; (try simp only [Rg4.nrm])) | (refine Rg4.w4_skip (Rg4.un rfl rfl rfl) ?_; (try simp only [Rg4.nrm])))
                iterate 2 (refine Rg4.w4_any (Rg4.want_none rfl) rfl ?_; apply Exists.intro; refine ⟨fun w' => ?_, ?_⟩; (focus (first | (go_simp; done) | (go_simp; first | rfl | (rw [if_neg] <;> first | rfl | omega) | (rw [if_pos] <;> first | rfl | omega)))); (try simp only [Rg4.nrm]))
                iterate 3 (first | (refine Rg4.w4_any (Rg4.wt rfl rfl rfl) rfl ?_; apply Exists.intro; refine ⟨fun w' => ?_, ?_⟩; (focus (first | (go_simp; done) | (go_simp; first | rfl | (rw [if_neg] <;> first | rfl | omega) | (rw [if_pos] <;> first | rfl | omega)))); (try simp only [Rg4.nrm])) | (refine Rg4.w4_skip (Rg4.uw rfl rfl rfl) ?_; (try simp only [Rg4.nrm])) | (refine Rg4.w4_skip (Rg4.un rfl rfl rfl) ?_; (try simp only [Rg4.nrm])))
                iterate 2 (first | (refine Rg4.w4_read (Rg4.wt rfl rfl rfl) rfl rfl ?_; apply Exists.intro; refine ⟨fun w' hw' hcl' => ?_, ?_⟩; focus (have st' := st.ext hw'; have hc' := st'.facts; (try simp only [nfl, nft, Nat.reduceAdd] at hc'); have r0 := st'.rowC (i := 1) get1 _ _ HRZ.out.1; have r1 := st'.rowC (i := 1) get1 _ _ HRZ.out.2.1; have r2 := st'.rowC (i := 1) get1 _ _ HRZ.out.2.2.1; have r3 := st'.rowC (i := 1) get1 _ _ HRZ.out.2.2.2.1; have r4 := st'.rowC (i := 1) get1 _ _ HRZ.out.2.2.2.2.1; have r5 := st'.rowC (i := 1) get1 _ _ HRZ.out.2.2.2.2.2.1; have r6 := st'.rowC (i := 1) get1 _ _ HRZ.out.2.2.2.2.2.2.1; have r7 := st'.rowC (i := 1) get1 _ _ HRZ.out.2.2.2.2.2.2.2.1; have r8 := st'.rowC (i := 1) get1 _ _ HRZ.out.2.2.2.2.2.2.2.2; (focus (first | (go_simp; done) | (go_simp; first | rfl | (rw [if_neg] <;> first | rfl | omega) | (rw [if_pos] <;> first | rfl | omega))))); (try simp only [Rg4.nrm])) | (refine Rg4.w4_skip (Rg4.uw rfl rfl rfl) ?_; (try simp only [Rg4.nrm])) | (refine Rg4.w4_skip (Rg4.un rfl rfl rfl) ?_; (try simp only [Rg4.nrm])))
                first | refine Rg4.w4_skip (Rg4.uw rfl rfl rfl) ?_ | refine Rg4.w4_skip (Rg4.un rfl rfl rfl) ?_
                (try simp only [Rg4.nrm])
                iterate 2 (first | (refine Rg4.w4_any (Rg4.wt rfl rfl rfl) rfl ?_; apply Exists.intro; refine ⟨fun w' => ?_, ?_⟩; (focus (first | (go_simp; done) | (go_simp; first | rfl | (rw [if_neg] <;> first | rfl | omega) | (rw [if_pos] <;> first | rfl | omega)))); (try simp only [Rg4.nrm])) | (refine Rg4.w4_skip (Rg4.uw rfl rfl rfl) ?_; (try simp only [Rg4.nrm])) | (refine Rg4.w4_skip (Rg4.un rfl rfl rfl) ?_; (try simp only [Rg4.nrm])))
                (refine Rg4.w4_any (Rg4.want_none rfl) rfl ?_; apply Exists.intro; refine ⟨fun w' => ?_, ?_⟩; (focus (first | (go_simp; done) | (go_simp; first | rfl | (rw [if_neg] <;> first | rfl | omega) | (rw [if_pos] <;> first | rfl | omega)))); (try simp only [Rg4.nrm]))
                refine Rg4.w4_nil (fun w' hw' hcl' _ => ?_); replace st := st.ext hw'; clear hw' hcl'; (try clear hc); have hc := st.facts; (try simp only [nfl, nft, Nat.reduceAdd] at hc)
                have HB : Hid (pickMin credLt (cnd credLt credR out) (l.take (j + 1)) = some x) := Lib.hid (by rw [HX.out]; simp [cnd, HLA.out, HZ.out, HR.out.1.1, HP.out, okC_f])
                go_wp2_with ((((with_reducible refine wl_store ?_ (fun K hK => ?_)); rfl; refine owp_store rfl st ?_; apply Exists.intro; apply Exists.intro; refine ⟨?_, ?_, ?_⟩; (focus (go_simp; try rfl)); (focus (go_simp; try rfl)); (with_reducible refine ⟨2, _, _, _, _, get2, rfl, rfl, ?_, ?_, ?_, ?_⟩); (kernel_rfl); (simp [Value.cells]); (rfl); (clear st; intro w st))); (try simp only [nsl, Value.cells, unB] at st); (try clear hc); have hc := st.facts; (try simp only [nfl, nft, Nat.reduceAdd] at hc))
                have st' := st.keep [0, 1, 2] (by decide) (by simp)
                go_roundg (n - (j + 1))
                case measure => omega
                case rel => exact ⟨j + 1, true, x, by omega, by omega, by first | rfl | trivial | go_num, rfl, Lib.hid (by rw [HB.out]; rfl), by simpa [pick] using st'⟩
              | true =>
                cases hlt : credLt x best with
                | true =>
                  have HLT := Lib.hid hlt
                  have hqb := credCmp_dec x best
                  rw [hlt] at hqb
                  obtain ⟨qb, hq⟩ : ∃ q, credCmp x best = q := ⟨_, rfl⟩
                  rw [hq] at hqb
                  have HQB := Lib.hid hq
                  have HBR : Hid (credR best = true) := Lib.hid (cnd_P (pickMin_cand _ _ best (HP.out.trans (okC_t best))))
                  clear hlt hq
                  refine Rg4.wp_region4 (Rel := Ext) #[0, 1, 3, 7, 15, 31, 63, 127, 127, 383, 895, 2047, 4095, 127, 16383, 32767, 65535, 131071, 262143, 524287, 1048575, 2097151, 4194303, 4194303, 16777215, 33554431, 67108863, 134217727]
                    [(1, .val (.bool true)), (14, .val (.int .i64 qz)), (24, .val (.int .i64 qb))] [] [0, 12, 13, 22, 23] (fun _ => True) [0, 1, 2, 3, 4, 5, 6, 7, 8, 9, 10, 11, 12, 13, 14, 15, 16, 17, 18, 19, 20, 21, 22, 23, 24, 25, 26, 27] (by kernel_rfl) (by kernel_rfl) (by kernel_rfl) (by kernel_rfl) Ext.refl (fun _ _ _ => Ext.trans) (show Rg4.PB _ by repeat (first | with_reducible exact Rg4.pb_body | with_reducible exact Rg4.pb_bodyD rfl | with_reducible refine Rg4.pb_then ?_ | with_reducible refine Rg4.pb_inBlock ?_ | with_reducible refine Rg4.pb_noGoto ?_)) (trivial) ?_
                  replace st := st.drew
                  change Rg4.wp4 _ _ _ _ _ _ _ _ _ (World.drew _) _ _
                  generalize World.drew _ = w at st ⊢
                  (try clear hc); have hc := st.facts; (try simp only [nfl, nft, Nat.reduceAdd] at hc)
                  (refine Rg4.w4_read (Rg4.want_none rfl) rfl rfl ?_; apply Exists.intro; refine ⟨fun w' hw' hcl' => ?_, ?_⟩; focus (have st' := st.ext hw'; have hc' := st'.facts; (try simp only [nfl, nft, Nat.reduceAdd] at hc'); have r0 := st'.rowC (i := 1) get1 _ _ HRZ.out.1; have r1 := st'.rowC (i := 1) get1 _ _ HRZ.out.2.1; have r2 := st'.rowC (i := 1) get1 _ _ HRZ.out.2.2.1; have r3 := st'.rowC (i := 1) get1 _ _ HRZ.out.2.2.2.1; have r4 := st'.rowC (i := 1) get1 _ _ HRZ.out.2.2.2.2.1; have r5 := st'.rowC (i := 1) get1 _ _ HRZ.out.2.2.2.2.2.1; have r6 := st'.rowC (i := 1) get1 _ _ HRZ.out.2.2.2.2.2.2.1; have r7 := st'.rowC (i := 1) get1 _ _ HRZ.out.2.2.2.2.2.2.2.1; have r8 := st'.rowC (i := 1) get1 _ _ HRZ.out.2.2.2.2.2.2.2.2; (focus (first | (go_simp; done) | (go_simp; first | rfl | (rw [if_neg] <;> first | rfl | omega) | (rw [if_pos] <;> first | rfl | omega))))); (try simp only [Rg4.nrm]))
                  refine Rg4.w4_some (Rg4.want_none rfl) rfl (fun w' hw' hcl' _ => ?_) ?_
                  · refine Rg.relAt_call (by go_simp; exact ⟨rfl, rfl⟩) ?_
                    refine (HR.out.2 _).mono ?_
                    rintro en w'' ⟨rfl, hx⟩
                    exact ⟨_, by rw [HR.out.1.1], hx, trivial, rfl⟩
                  rintro v ⟨_, _, _, rfl⟩
                  (try simp only [Rg4.nrm])
                  (refine Rg4.w4_any (Rg4.want_none rfl) rfl ?_; apply Exists.intro; refine ⟨fun w' => ?_, ?_⟩; (focus (first | (go_simp; done) | (go_simp; first | rfl | (rw [if_neg] <;> first | rfl | omega) | (rw [if_pos] <;> first | rfl | omega)))); (try simp only [Rg4.nrm]))
                  iterate 9 (first | (refine Rg4.w4_any (Rg4.wt rfl rfl rfl) rfl ?_; apply Exists.intro; refine ⟨fun w' => ?_, ?_⟩; (focus (first | (go_simp; done) | (go_simp; first | rfl | (rw [if_neg] <;> first | rfl | omega) | (rw [if_pos] <;> first | rfl | omega)))); (try simp only [Rg4.nrm])) | (refine Rg4.w4_skip (Rg4.uw rfl rfl rfl) ?_; (try simp only [Rg4.nrm])) | (refine Rg4.w4_skip (Rg4.un rfl rfl rfl) ?_; (try simp only [Rg4.nrm])))
                  iterate 2 (first | (refine Rg4.w4_read (Rg4.wt rfl rfl rfl) rfl rfl ?_; apply Exists.intro; refine ⟨fun w' hw' hcl' => ?_, ?_⟩; focus (have st' := st.ext hw'; have hc' := st'.facts; (try simp only [nfl, nft, Nat.reduceAdd] at hc'); have r0 := st'.rowC (i := 1) get1 _ _ HRZ.out.1; have r1 := st'.rowC (i := 1) get1 _ _ HRZ.out.2.1; have r2 := st'.rowC (i := 1) get1 _ _ HRZ.out.2.2.1; have r3 := st'.rowC (i := 1) get1 _ _ HRZ.out.2.2.2.1; have r4 := st'.rowC (i := 1) get1 _ _ HRZ.out.2.2.2.2.1; have r5 := st'.rowC (i := 1) get1 _ _ HRZ.out.2.2.2.2.2.1; have r6 := st'.rowC (i := 1) get1 _ _ HRZ.out.2.2.2.2.2.2.1; have r7 := st'.rowC (i := 1) get1 _ _ HRZ.out.2.2.2.2.2.2.2.1; have r8 := st'.rowC (i := 1) get1 _ _ HRZ.out.2.2.2.2.2.2.2.2; (focus (first | (go_simp; done) | (go_simp; first | rfl | (rw [if_neg] <;> first | rfl | omega) | (rw [if_pos] <;> first | rfl | omega))))); (try simp only [Rg4.nrm])) | (refine Rg4.w4_skip (Rg4.uw rfl rfl rfl) ?_; (try simp only [Rg4.nrm])) | (refine Rg4.w4_skip (Rg4.un rfl rfl rfl) ?_; (try simp only [Rg4.nrm])))
                  refine Rg4.w4_some (Rg4.want_of 6 20 false rfl rfl rfl) rfl (fun w' hw' hcl' _ => ?_) ?_
                  · refine Rg.relAt_call (by go_simp; exact ⟨rfl, rfl⟩) ?_
                    refine (HLZ.out _).mono ?_
                    rintro en w'' ⟨rfl, hx⟩
                    exact ⟨_, by rw [HQZ.out], hx, trivial, rfl⟩
                  rintro v ⟨_, _, _, rfl⟩
                  (try simp only [Rg4.nrm])
                  iterate 2 (first | (refine Rg4.w4_any (Rg4.wt rfl rfl rfl) rfl ?_; apply Exists.intro; refine ⟨fun w' => ?_, ?_⟩; (focus (first | (go_simp; done) | (go_simp; first | rfl | (rw [if_neg] <;> first | rfl | omega) | (rw [if_pos] <;> first | rfl | omega)))); (try simp only [Rg4.nrm])) | (refine Rg4.w4_skip (Rg4.uw rfl rfl rfl) ?_; (try simp only [Rg4.nrm])) | (refine Rg4.w4_skip (Rg4.un rfl rfl rfl) ?_; (try simp only [Rg4.nrm])))
                  iterate 2 (refine Rg4.w4_any (Rg4.want_none rfl) rfl ?_; apply Exists.intro; refine ⟨fun w' => ?_, ?_⟩; (focus (first | (go_simp; done) | (go_simp; first | rfl | (rw [if_neg] <;> first | rfl | omega) | (rw [if_pos] <;> first | rfl | omega)))); (try simp only [Rg4.nrm]))
                  iterate 3 (first | (refine Rg4.w4_any (Rg4.wt rfl rfl rfl) rfl ?_; apply Exists.intro; refine ⟨fun w' => ?_, ?_⟩; (focus (first | (go_simp; done) | (go_simp; first | rfl | (rw [if_neg] <;> first | rfl | omega) | (rw [if_pos] <;> first | rfl | omega)))); (try simp only [Rg4.nrm])) | (refine Rg4.w4_skip (Rg4.uw rfl rfl rfl) ?_; (try simp only [Rg4.nrm])) | (refine Rg4.w4_skip (Rg4.un rfl rfl rfl) ?_; (try simp only [Rg4.nrm])))
                  iterate 2 (first | (refine Rg4.w4_read (Rg4.wt rfl rfl rfl) rfl rfl ?_; apply Exists.intro; refine ⟨fun w' hw' hcl' => ?_, ?_⟩; focus (have st' := st.ext hw'; have hc' := st'.facts; (try simp only [nfl, nft, Nat.reduceAdd] at hc'); have r0 := st'.rowC (i := 1) get1 _ _ HRZ.out.1; have r1 := st'.rowC (i := 1) get1 _ _ HRZ.out.2.1; have r2 := st'.rowC (i := 1) get1 _ _ HRZ.out.2.2.1; have r3 := st'.rowC (i := 1) get1 _ _ HRZ.out.2.2.2.1; have r4 := st'.rowC (i := 1) get1 _ _ HRZ.out.2.2.2.2.1; have r5 := st'.rowC (i := 1) get1 _ _ HRZ.out.2.2.2.2.2.1; have r6 := st'.rowC (i := 1) get1 _ _ HRZ.out.2.2.2.2.2.2.1; have r7 := st'.rowC (i := 1) get1 _ _ HRZ.out.2.2.2.2.2.2.2.1; have r8 := st'.rowC (i := 1) get1 _ _ HRZ.out.2.2.2.2.2.2.2.2; (focus (first | (go_simp; done) | (go_simp; first | rfl | (rw [if_neg] <;> first | rfl | omega) | (rw [if_pos] <;> first | rfl | omega))))); (try simp only [Rg4.nrm])) | (refine Rg4.w4_skip (Rg4.uw rfl rfl rfl) ?_; (try simp only [Rg4.nrm])) | (refine Rg4.w4_skip (Rg4.un rfl rfl rfl) ?_; (try simp only [Rg4.nrm])))
                  refine Rg4.w4_some (Rg4.want_of 21 35 false rfl rfl rfl) rfl (fun w' hw' hcl' _ => ?_) ?_
                  · refine Rg.relAt_call (by go_simp; exact ⟨rfl, rfl⟩) ?_
                    refine (HLB.out _ HBR.out).mono ?_
                    rintro en w'' ⟨rfl, hx⟩
                    exact ⟨_, by rw [HQB.out], hx, trivial, rfl⟩
                  rintro v ⟨_, _, _, rfl⟩
                  (try simp only [Rg4.nrm])
                  iterate 2 (first | (refine Rg4.w4_any (Rg4.wt rfl rfl rfl) rfl ?_; apply Exists.intro; refine ⟨fun w' => ?_, ?_⟩; (focus (first | (go_simp; done) | (go_simp; first | rfl | (rw [if_neg] <;> first | rfl | omega) | (rw [if_pos] <;> first | rfl | omega)))); (try simp only [Rg4.nrm])) | (refine Rg4.w4_skip (Rg4.uw rfl rfl rfl) ?_; (try simp only [Rg4.nrm])) | (refine Rg4.w4_skip (Rg4.un rfl rfl rfl) ?_; (try simp only [Rg4.nrm])))
                  (refine Rg4.w4_any (Rg4.want_none rfl) rfl ?_; apply Exists.intro; refine ⟨fun w' => ?_, ?_⟩; (focus (first | (go_simp; done) | (go_simp; first | rfl | (rw [if_neg] <;> first | rfl | omega) | (rw [if_pos] <;> first | rfl | omega)))); (try simp only [Rg4.nrm]))
                  refine Rg4.w4_nil (fun w' hw' hcl' _ => ?_); replace st := st.ext hw'; clear hw' hcl'; (try clear hc); have hc := st.facts; (try simp only [nfl, nft, Nat.reduceAdd] at hc)
                  have HB : Hid (pickMin credLt (cnd credLt credR out) (l.take (j + 1)) = some x) := Lib.hid (by rw [HX.out]; simp [cnd, HLA.out, HZ.out, HR.out.1.1, HP.out, okC_t, HLT.out])
                  go_wp2_with ((((with_reducible refine wl_store ?_ (fun K hK => ?_)); rfl; refine owp_store rfl st ?_; apply Exists.intro; apply Exists.intro; refine ⟨?_, ?_, ?_⟩; (focus (go_simp; try rfl)); (focus (go_simp; try rfl)); (with_reducible refine ⟨2, _, _, _, _, get2, rfl, rfl, ?_, ?_, ?_, ?_⟩); (kernel_rfl); (simp [Value.cells]); (rfl); (clear st; intro w st))); (try simp only [nsl, Value.cells, unB] at st); (try clear hc); have hc := st.facts; (try simp only [nfl, nft, Nat.reduceAdd] at hc))
                  have st' := st.keep [0, 1, 2] (by decide) (by simp)
                  go_roundg (n - (j + 1))
                  case measure => omega
                  case rel => exact ⟨j + 1, true, x, by omega, by omega, by first | rfl | trivial | go_num, rfl, Lib.hid (by rw [HB.out]; rfl), by simpa [pick] using st'⟩
                | false =>
                  have HLT := Lib.hid hlt
                  have hqb := credCmp_dec x best
                  rw [hlt] at hqb
                  obtain ⟨qb, hq⟩ : ∃ q, credCmp x best = q := ⟨_, rfl⟩
                  rw [hq] at hqb
                  have HQB := Lib.hid hq
                  have HBR : Hid (credR best = true) := Lib.hid (cnd_P (pickMin_cand _ _ best (HP.out.trans (okC_t best))))
                  clear hlt hq
                  refine Rg4.wp_region4 (Rel := Ext) #[0, 1, 3, 7, 15, 31, 63, 127, 127, 383, 895, 2047, 4095, 127, 16383, 32767, 65535, 131071, 262143, 524287, 1048575, 2097151, 4194303, 4194303, 16777215, 33554431, 67108863, 134217727]
                    [(1, .val (.bool true)), (14, .val (.int .i64 qz)), (24, .val (.int .i64 qb))] [] [0, 12, 13, 22, 23] (fun _ => True) [0, 1, 2, 3, 4, 5, 6, 7, 8, 9, 10, 11, 12, 13, 14, 15, 16, 17, 18, 19, 20, 21, 22, 23, 24, 25, 26, 27] (by kernel_rfl) (by kernel_rfl) (by kernel_rfl) (by kernel_rfl) Ext.refl (fun _ _ _ => Ext.trans) (show Rg4.PB _ by repeat (first | with_reducible exact Rg4.pb_body | with_reducible exact Rg4.pb_bodyD rfl | with_reducible refine Rg4.pb_then ?_ | with_reducible refine Rg4.pb_inBlock ?_ | with_reducible refine Rg4.pb_noGoto ?_)) (trivial) ?_
                  replace st := st.drew
                  change Rg4.wp4 _ _ _ _ _ _ _ _ _ (World.drew _) _ _
                  generalize World.drew _ = w at st ⊢
                  (try clear hc); have hc := st.facts; (try simp only [nfl, nft, Nat.reduceAdd] at hc)
                  (refine Rg4.w4_read (Rg4.want_none rfl) rfl rfl ?_; apply Exists.intro; refine ⟨fun w' hw' hcl' => ?_, ?_⟩; focus (have st' := st.ext hw'; have hc' := st'.facts; (try simp only [nfl, nft, Nat.reduceAdd] at hc'); have r0 := st'.rowC (i := 1) get1 _ _ HRZ.out.1; have r1 := st'.rowC (i := 1) get1 _ _ HRZ.out.2.1; have r2 := st'.rowC (i := 1) get1 _ _ HRZ.out.2.2.1; have r3 := st'.rowC (i := 1) get1 _ _ HRZ.out.2.2.2.1; have r4 := st'.rowC (i := 1) get1 _ _ HRZ.out.2.2.2.2.1; have r5 := st'.rowC (i := 1) get1 _ _ HRZ.out.2.2.2.2.2.1; have r6 := st'.rowC (i := 1) get1 _ _ HRZ.out.2.2.2.2.2.2.1; have r7 := st'.rowC (i := 1) get1 _ _ HRZ.out.2.2.2.2.2.2.2.1; have r8 := st'.rowC (i := 1) get1 _ _ HRZ.out.2.2.2.2.2.2.2.2; (focus (first | (go_simp; done) | (go_simp; first | rfl | (rw [if_neg] <;> first | rfl | omega) | (rw [if_pos] <;> first | rfl | omega))))); (try simp only [Rg4.nrm]))
                  refine Rg4.w4_some (Rg4.want_none rfl) rfl (fun w' hw' hcl' _ => ?_) ?_
                  · refine Rg.relAt_call (by go_simp; exact ⟨rfl, rfl⟩) ?_
                    refine (HR.out.2 _).mono ?_
                    rintro en w'' ⟨rfl, hx⟩
                    exact ⟨_, by rw [HR.out.1.1], hx, trivial, rfl⟩
                  rintro v ⟨_, _, _, rfl⟩
                  (try simp only [Rg4.nrm])
                  (refine Rg4.w4_any (Rg4.want_none rfl) rfl ?_; apply Exists.intro; refine ⟨fun w' => ?_, ?_⟩; (focus (first | (go_simp; done) | (go_simp; first | rfl | (rw [if_neg] <;> first | rfl | omega) | (rw [if_pos] <;> first | rfl | omega)))); (try simp only [Rg4.nrm]))
                  iterate 9 (first | (refine Rg4.w4_any (Rg4.wt rfl rfl rfl) rfl ?_; apply Exists.intro; refine ⟨fun w' => ?_, ?_⟩; (focus (first | (go_simp; done) | (go_simp; first | rfl | (rw [if_neg] <;> first | rfl | omega) | (rw [if_pos] <;> first | rfl | omega)))); (try simp only [Rg4.nrm])) | (refine Rg4.w4_skip (Rg4.uw rfl rfl rfl) ?_; (try simp only [Rg4.nrm])) | (refine Rg4.w4_skip (Rg4.un rfl rfl rfl) ?_; (try simp only [Rg4.nrm])))
                  iterate 2 (first | (refine Rg4.w4_read (Rg4.wt rfl rfl rfl) rfl rfl ?_; apply Exists.intro; refine ⟨fun w' hw' hcl' => ?_, ?_⟩; focus (have st' := st.ext hw'; have hc' := st'.facts; (try simp only [nfl, nft, Nat.reduceAdd] at hc'); have r0 := st'.rowC (i := 1) get1 _ _ HRZ.out.1; have r1 := st'.rowC (i := 1) get1 _ _ HRZ.out.2.1; have r2 := st'.rowC (i := 1) get1 _ _ HRZ.out.2.2.1; have r3 := st'.rowC (i := 1) get1 _ _ HRZ.out.2.2.2.1; have r4 := st'.rowC (i := 1) get1 _ _ HRZ.out.2.2.2.2.1; have r5 := st'.rowC (i := 1) get1 _ _ HRZ.out.2.2.2.2.2.1; have r6 := st'.rowC (i := 1) get1 _ _ HRZ.out.2.2.2.2.2.2.1; have r7 := st'.rowC (i := 1) get1 _ _ HRZ.out.2.2.2.2.2.2.2.1; have r8 := st'.rowC (i := 1) get1 _ _ HRZ.out.2.2.2.2.2.2.2.2; (focus (first | (go_simp; done) | (go_simp; first | rfl | (rw [if_neg] <;> first | rfl | omega) | (rw [if_pos] <;> first | rfl | omega))))); (try simp only [Rg4.nrm])) | (refine Rg4.w4_skip (Rg4.uw rfl rfl rfl) ?_; (try simp only [Rg4.nrm])) | (refine Rg4.w4_skip (Rg4.un rfl rfl rfl) ?_; (try simp only [Rg4.nrm])))
                  refine Rg4.w4_some (Rg4.want_of 6 20 false rfl rfl rfl) rfl (fun w' hw' hcl' _ => ?_) ?_
                  · refine Rg.relAt_call (by go_simp; exact ⟨rfl, rfl⟩) ?_
                    refine (HLZ.out _).mono ?_
                    rintro en w'' ⟨rfl, hx⟩
                    exact ⟨_, by rw [HQZ.out], hx, trivial, rfl⟩
                  rintro v ⟨_, _, _, rfl⟩
                  (try simp only [Rg4.nrm])
                  iterate 2 (first | (refine Rg4.w4_any (Rg4.wt rfl rfl rfl) rfl ?_; apply Exists.intro; refine ⟨fun w' => ?_, ?_⟩; (focus (first | (go_simp; done) | (go_simp; first | rfl | (rw [if_neg] <;> first | rfl | omega) | (rw [if_pos] <;> first | rfl | omega)))); (try simp only [Rg4.nrm])) | (refine Rg4.w4_skip (Rg4.uw rfl rfl rfl) ?_; (try simp only [Rg4.nrm])) | (refine Rg4.w4_skip (Rg4.un rfl rfl rfl) ?_; (try simp only [Rg4.nrm])))
                  iterate 2 (refine Rg4.w4_any (Rg4.want_none rfl) rfl ?_; apply Exists.intro; refine ⟨fun w' => ?_, ?_⟩; (focus (first | (go_simp; done) | (go_simp; first | rfl | (rw [if_neg] <;> first | rfl | omega) | (rw [if_pos] <;> first | rfl | omega)))); (try simp only [Rg4.nrm]))
                  iterate 3 (first | (refine Rg4.w4_any (Rg4.wt rfl rfl rfl) rfl ?_; apply Exists.intro; refine ⟨fun w' => ?_, ?_⟩; (focus (first | (go_simp; done) | (go_simp; first | rfl | (rw [if_neg] <;> first | rfl | omega) | (rw [if_pos] <;> first | rfl | omega)))); (try simp only [Rg4.nrm])) | (refine Rg4.w4_skip (Rg4.uw rfl rfl rfl) ?_; (try simp only [Rg4.nrm])) | (refine Rg4.w4_skip (Rg4.un rfl rfl rfl) ?_; (try simp only [Rg4.nrm])))
                  iterate 2 (first | (refine Rg4.w4_read (Rg4.wt rfl rfl rfl) rfl rfl ?_; apply Exists.intro; refine ⟨fun w' hw' hcl' => ?_, ?_⟩; focus (have st' := st.ext hw'; have hc' := st'.facts; (try simp only [nfl, nft, Nat.reduceAdd] at hc'); have r0 := st'.rowC (i := 1) get1 _ _ HRZ.out.1; have r1 := st'.rowC (i := 1) get1 _ _ HRZ.out.2.1; have r2 := st'.rowC (i := 1) get1 _ _ HRZ.out.2.2.1; have r3 := st'.rowC (i := 1) get1 _ _ HRZ.out.2.2.2.1; have r4 := st'.rowC (i := 1) get1 _ _ HRZ.out.2.2.2.2.1; have r5 := st'.rowC (i := 1) get1 _ _ HRZ.out.2.2.2.2.2.1; have r6 := st'.rowC (i := 1) get1 _ _ HRZ.out.2.2.2.2.2.2.1; have r7 := st'.rowC (i := 1) get1 _ _ HRZ.out.2.2.2.2.2.2.2.1; have r8 := st'.rowC (i := 1) get1 _ _ HRZ.out.2.2.2.2.2.2.2.2; (focus (first | (go_simp; done) | (go_simp; first | rfl | (rw [if_neg] <;> first | rfl | omega) | (rw [if_pos] <;> first | rfl | omega))))); (try simp only [Rg4.nrm])) | (refine Rg4.w4_skip (Rg4.uw rfl rfl rfl) ?_; (try simp only [Rg4.nrm])) | (refine Rg4.w4_skip (Rg4.un rfl rfl rfl) ?_; (try simp only [Rg4.nrm])))
                  refine Rg4.w4_some (Rg4.want_of 21 35 false rfl rfl rfl) rfl (fun w' hw' hcl' _ => ?_) ?_
                  · refine Rg.relAt_call (by go_simp; exact ⟨rfl, rfl⟩) ?_
                    refine (HLB.out _ HBR.out).mono ?_
                    rintro en w'' ⟨rfl, hx⟩
                    exact ⟨_, by rw [HQB.out], hx, trivial, rfl⟩
                  rintro v ⟨_, _, _, rfl⟩
                  (try simp only [Rg4.nrm])
                  iterate 2 (first | (refine Rg4.w4_any (Rg4.wt rfl rfl rfl) rfl ?_; apply Exists.intro; refine ⟨fun w' => ?_, ?_⟩; (focus (first | (go_simp; done) | (go_simp; first | rfl | (rw [if_neg] <;> first | rfl | omega) | (rw [if_pos] <;> first | rfl | omega)))); (try simp only [Rg4.nrm])) | (refine Rg4.w4_skip (Rg4.uw rfl rfl rfl) ?_; (try simp only [Rg4.nrm])) | (refine Rg4.w4_skip (Rg4.un rfl rfl rfl) ?_; (try simp only [Rg4.nrm])))
                  (refine Rg4.w4_any (Rg4.want_none rfl) rfl ?_; apply Exists.intro; refine ⟨fun w' => ?_, ?_⟩; (focus (first | (go_simp; done) | (go_simp; first | rfl | (rw [if_neg] <;> first | rfl | omega) | (rw [if_pos] <;> first | rfl | omega)))); (try simp only [Rg4.nrm]))
                  refine Rg4.w4_nil (fun w' hw' hcl' _ => ?_); replace st := st.ext hw'; clear hw' hcl'; (try clear hc); have hc := st.facts; (try simp only [nfl, nft, Nat.reduceAdd] at hc)
                  have HB : Hid (pickMin credLt (cnd credLt credR out) (l.take (j + 1)) = pickMin credLt (cnd credLt credR out) (l.take j)) := Lib.hid (by rw [HX.out]; simp [cnd, HLA.out, HZ.out, HR.out.1.1, HP.out, okC_t, HLT.out])
                  go_wp2_with fail
                  have st' := st.keep [0, 1, 2] (by decide) (by simp)
                  go_roundg (n - (j + 1))
                  case measure => omega
                  case rel => exact ⟨j + 1, true, best, by omega, by omega, by first | rfl | trivial | go_num, rfl, Lib.hid (by rw [HB.out]; exact HP.out), by simpa [pick] using st'⟩
      · obtain rfl : j = n := by omega
        have htk : l.take j = l := List.take_of_length_le (by have := HNL.out.1; omega)
        have hp := HP.out
        rw [htk] at hp
        clear htk HP
        cases ok with
        | false =>
          have HF := Lib.hid (HG.out.1.done (credOrd) hp)
          clear hp
          go_wp2_with fail
          go_ret
          have hm := HG.out.2.2
          subst hm
          exact ⟨out, va, vc, rfl, HF.out, st.toFresh get1⟩
        | true =>
          have hstep := HG.out.1.step (credOrd) hp
          have hlen := hstep.len (credOrd).irr
          have hleft := left_step (credOrd) hp
          have HF := Lib.hid (And.intro hstep hleft)
          have hol : m + 1 ≤ 2000000 := by have := HNL.out.1; have := HG.out.2.2; simp at hlen; omega
          clear hp hstep hlen hleft
          go_wp2_with (first
              | ((with_reducible refine wl_append ?_ (fun K hK => ?_)); (rfl); (obtain ⟨inf, hinf, hz0, hz1, hz2⟩ := credInfo); (refine owp_append rfl st 1 get1 Try.underlying23 hinf hz0 hz1 hz2 rfl (by decide) rfl rfl ((st.blk (i := 3) get3).flat rfl) (by first | exact cellsL_all _ | simp [Value.oneCell']) (by simp only [maxLen]; omega) (by omega) ?_); (clear hinf hz0 hz1 hz2 inf); (clear st; intro v' w st); (obtain ⟨va', vc', rfl⟩ := own_slice (st.row (i := 1) get1)); (try simp only [nsl, Value.cells, unB] at st); (try simp only [Nat.zero_add] at st); (try clear hc); have hc := st.facts; (try simp only [nfl, nft, Nat.reduceAdd] at hc))
              | ((((with_reducible refine wl_buildSlice ?_ (fun K hK => ?_)); rfl; refine owp_buildSlice (o := ⟨some 49, _, _, _, _, _⟩) rfl st ?_; apply Exists.intro; apply Exists.intro; apply Exists.intro; apply Exists.intro; refine ⟨?_, ?_⟩; (focus (go_simp; (first | done | exact ⟨⟨rfl, rfl⟩, rfl⟩ | rfl))); (clear st; intro b49 w hb st; clear hb))); (try simp only [nsl, Value.cells, unB] at st); (try clear hc); have hc := st.facts; (try simp only [nfl, nft, Nat.reduceAdd] at hc)))
          have st' := st.keep [0, 1] (by decide) (by simp)
          go_roundg (left credLt credR l (out ++ [best]))
          case measure => have := HG.out.2.1; have := HF.out.2; omega
          case rel => exact ⟨out ++ [best], m + 1, va', vc', rfl, hol, Lib.hid ⟨HF.out.1, Nat.le_refl _, by simp [HG.out.2.2]⟩, by rw [cellsL_append, cellsL_one', cred_cells]; simpa [pick] using st'⟩
theorem refCredSet_c (a : Option Addr) (n c : Nat) (l : List CredT) (W : World) (h : Fl W a n l) (hn : n ≤ 2000000) (hs : ∀ x ∈ l, CredL 100000 x) :
    Calls Try.prog 15 #[.slice a n c] W fun e w' => ∃ va vc, e = .returned (.slice va (credSet l).length vc) ∧ FreshI W w' (rowI 45 9 (.slice va (credSet l).length vc) (credSet l).length (cellsL (credSet l))) := by
  refine (refCredSet_any a n c l W h hn hs).mono ?_
  rintro e w' ⟨out, va, vc, rfl, h1, h2⟩
  have := h1.uniq (credOrd) (credSet_set l)
  subst this
  exact ⟨va, vc, rfl, h2⟩
end Go.Proofs.Ytinfkenbjoddlaa

namespace Go.Proofs.Ytinfkenbjoddlaa
set_option linter.unusedSimpArgs false
set_option linter.unusedVariables false
open Go Go.RowKit
theorem svR_k {n k : Int} (h : svR n k = true) : ∃ m q : Nat, n = 8 * m ∧ k = q ∧ (1 ≤ m ∧ m ≤ 512) ∧ (1 ≤ q ∧ q ≤ 8) := by
  obtain ⟨_, h2, m, h3, h4, h5⟩ := svR_n h
  exact ⟨m, k.toNat, h3, by omega, ⟨h4, h5⟩, by omega⟩
set_option maxRecDepth 100000 in
set_option maxHeartbeats 16000000 in
theorem sieveHolds_all (i k0 : Int) (a0 : Option Addr) (n0 c0 : Nat) (la : List CredT) (a1 : Option Addr) (n1 c1 : Nat) (lb : List CredT) (W : World) (hi : -9223372036854775808 ≤ i) (h0 : Fl W a0 n0 la) (h1 : Fl W a1 n1 lb) (hs : weightC la + weightC lb ≤ 30000000) :
    Calls Try.prog 4 #[.agg #[.int .i64 i, .int .i64 k0], .slice a0 n0 c0, .slice a1 n1 c1] W fun e w' => e = .returned (.bool true) ∧ Ext W w' := by
  have HF0 := Lib.hid h0
  have HF1 := Lib.hid h1
  obtain ⟨wa, hwa⟩ : ∃ w, weightC la = w := ⟨_, rfl⟩
  obtain ⟨wb, hwb⟩ : ∃ w, weightC lb = w := ⟨_, rfl⟩
  rw [hwa, hwb] at hs
  have HG1 := Lib.hid (fun W' (h : Fl W' a0 n0 la) => hwa ▸ credGreat_any a0 n0 c0 la W' h (by omega))
  have HG2 := Lib.hid (fun W' (h : Fl W' a1 n1 lb) => hwb ▸ credGreat_any a1 n1 c1 lb W' h (by omega))
  have HWA := Lib.hid hwa
  have HWB := Lib.hid hwb
  clear hwa hwb h0 h1
  have hwr : IntKind.i64.wrap ((wa : Int) + (wb : Int)) = ((wa + wb : Nat) : Int) := by rw [IntWalk.i64_in _ ⟨by omega, by omega⟩]; omega
  have st := Own.startOld W
  (try simp only [nsl, Value.cells, unB] at st)
  (try clear hc); have hc := st.facts; (try simp only [nfl, nft, Nat.reduceAdd] at hc)
  go_enter Try.func4, Try.ntmps4
  go_wp2_with ((first
        | ((with_reducible refine wl_box ?_ (fun K hK => ?_)); rfl; refine owp_box (o := ⟨some 3, _, _, _, _, _⟩) rfl st ?_; apply Exists.intro; refine ⟨?_, ?_⟩; (focus (go_simp; try rfl)); (clear st; intro b3 w hb st; clear hb))
        | ((with_reducible refine wl_alloc ?_ (fun K hK => ?_)); rfl; refine owp_alloc (o := ⟨some 13, _, _, _, _, _⟩) rfl st ?_; apply Exists.intro; apply Exists.intro; refine ⟨?_, ?_⟩; (focus (first | (go_simp; done) | (go_simp; rfl))); (clear st; intro b13 w hb st; clear hb))
        | ((with_reducible refine wl_store ?_ (fun K hK => ?_)); rfl; refine owp_store rfl st ?_; apply Exists.intro; apply Exists.intro; refine ⟨?_, ?_, ?_⟩; (focus (go_simp; try rfl)); (focus (go_simp; try rfl)); (first | (with_reducible refine ⟨0, _, _, _, _, get0, rfl, rfl, ?_, ?_, ?_, ?_⟩) | (with_reducible refine ⟨1, _, _, _, _, get1, rfl, rfl, ?_, ?_, ?_, ?_⟩) | (with_reducible refine ⟨2, _, _, _, _, get2, rfl, rfl, ?_, ?_, ?_, ?_⟩) | (with_reducible refine ⟨3, _, _, _, _, get3, rfl, rfl, ?_, ?_, ?_, ?_⟩) | (with_reducible refine ⟨4, _, _, _, _, get4, rfl, rfl, ?_, ?_, ?_, ?_⟩) | (with_reducible refine ⟨5, _, _, _, _, get5, rfl, rfl, ?_, ?_, ?_, ?_⟩) | (with_reducible refine ⟨6, _, _, _, _, get6, rfl, rfl, ?_, ?_, ?_, ?_⟩) | (with_reducible refine ⟨7, _, _, _, _, get7, rfl, rfl, ?_, ?_, ?_, ?_⟩) | (with_reducible refine ⟨8, _, _, _, _, get8, rfl, rfl, ?_, ?_, ?_, ?_⟩) | (with_reducible refine ⟨9, _, _, _, _, get9, rfl, rfl, ?_, ?_, ?_, ?_⟩)); (kernel_rfl); (simp [Value.cells]); (rfl); (clear st; intro w st))
        | ((with_reducible refine wl_alloc ?_ (fun K hK => ?_)); rfl; refine owp_alloc (o := ⟨some 15, _, _, _, _, _⟩) rfl st ?_; apply Exists.intro; apply Exists.intro; refine ⟨?_, ?_⟩; (focus (first | (go_simp; done) | (go_simp; rfl))); (clear st; intro b15 w hb st; clear hb))); (try simp only [nsl, Value.cells, unB] at st); (try clear hc); have hc := st.facts; (try simp only [nfl, nft, Nat.reduceAdd] at hc))
  refine (svFirst_any _).mono ?_
  rintro en w ⟨rfl, hx⟩
  replace st := st.ext hx
  clear hx
  (try clear hc); have hc := st.facts; (try simp only [nfl, nft, Nat.reduceAdd] at hc)
  go_wp2_with ((first
        | ((with_reducible refine wl_box ?_ (fun K hK => ?_)); rfl; refine owp_box (o := ⟨some 3, _, _, _, _, _⟩) rfl st ?_; apply Exists.intro; refine ⟨?_, ?_⟩; (focus (go_simp; try rfl)); (clear st; intro b3 w hb st; clear hb))
        | ((with_reducible refine wl_alloc ?_ (fun K hK => ?_)); rfl; refine owp_alloc (o := ⟨some 13, _, _, _, _, _⟩) rfl st ?_; apply Exists.intro; apply Exists.intro; refine ⟨?_, ?_⟩; (focus (first | (go_simp; done) | (go_simp; rfl))); (clear st; intro b13 w hb st; clear hb))
        | ((with_reducible refine wl_store ?_ (fun K hK => ?_)); rfl; refine owp_store rfl st ?_; apply Exists.intro; apply Exists.intro; refine ⟨?_, ?_, ?_⟩; (focus (go_simp; try rfl)); (focus (go_simp; try rfl)); (first | (with_reducible refine ⟨0, _, _, _, _, get0, rfl, rfl, ?_, ?_, ?_, ?_⟩) | (with_reducible refine ⟨1, _, _, _, _, get1, rfl, rfl, ?_, ?_, ?_, ?_⟩) | (with_reducible refine ⟨2, _, _, _, _, get2, rfl, rfl, ?_, ?_, ?_, ?_⟩) | (with_reducible refine ⟨3, _, _, _, _, get3, rfl, rfl, ?_, ?_, ?_, ?_⟩) | (with_reducible refine ⟨4, _, _, _, _, get4, rfl, rfl, ?_, ?_, ?_, ?_⟩) | (with_reducible refine ⟨5, _, _, _, _, get5, rfl, rfl, ?_, ?_, ?_, ?_⟩) | (with_reducible refine ⟨6, _, _, _, _, get6, rfl, rfl, ?_, ?_, ?_, ?_⟩) | (with_reducible refine ⟨7, _, _, _, _, get7, rfl, rfl, ?_, ?_, ?_, ?_⟩) | (with_reducible refine ⟨8, _, _, _, _, get8, rfl, rfl, ?_, ?_, ?_, ?_⟩) | (with_reducible refine ⟨9, _, _, _, _, get9, rfl, rfl, ?_, ?_, ?_, ?_⟩)); (kernel_rfl); (simp [Value.cells]); (rfl); (clear st; intro w st))
        | ((with_reducible refine wl_alloc ?_ (fun K hK => ?_)); rfl; refine owp_alloc (o := ⟨some 15, _, _, _, _, _⟩) rfl st ?_; apply Exists.intro; apply Exists.intro; refine ⟨?_, ?_⟩; (focus (first | (go_simp; done) | (go_simp; rfl))); (clear st; intro b15 w hb st; clear hb))); (try simp only [nsl, Value.cells, unB] at st); (try clear hc); have hc := st.facts; (try simp only [nfl, nft, Nat.reduceAdd] at hc))
  refine (HG1.out _ (st.oldFl (i := 0) get0 HF0.out)).mono ?_
  rintro en w ⟨rfl, hx⟩
  replace st := st.ext hx
  clear hx
  (try clear hc); have hc := st.facts; (try simp only [nfl, nft, Nat.reduceAdd] at hc)
  go_wp2_with ((first
        | ((with_reducible refine wl_box ?_ (fun K hK => ?_)); rfl; refine owp_box (o := ⟨some 3, _, _, _, _, _⟩) rfl st ?_; apply Exists.intro; refine ⟨?_, ?_⟩; (focus (go_simp; try rfl)); (clear st; intro b3 w hb st; clear hb))
        | ((with_reducible refine wl_alloc ?_ (fun K hK => ?_)); rfl; refine owp_alloc (o := ⟨some 13, _, _, _, _, _⟩) rfl st ?_; apply Exists.intro; apply Exists.intro; refine ⟨?_, ?_⟩; (focus (first | (go_simp; done) | (go_simp; rfl))); (clear st; intro b13 w hb st; clear hb))
        | ((with_reducible refine wl_store ?_ (fun K hK => ?_)); rfl; refine owp_store rfl st ?_; apply Exists.intro; apply Exists.intro; refine ⟨?_, ?_, ?_⟩; (focus (go_simp; try rfl)); (focus (go_simp; try rfl)); (first | (with_reducible refine ⟨0, _, _, _, _, get0, rfl, rfl, ?_, ?_, ?_, ?_⟩) | (with_reducible refine ⟨1, _, _, _, _, get1, rfl, rfl, ?_, ?_, ?_, ?_⟩) | (with_reducible refine ⟨2, _, _, _, _, get2, rfl, rfl, ?_, ?_, ?_, ?_⟩) | (with_reducible refine ⟨3, _, _, _, _, get3, rfl, rfl, ?_, ?_, ?_, ?_⟩) | (with_reducible refine ⟨4, _, _, _, _, get4, rfl, rfl, ?_, ?_, ?_, ?_⟩) | (with_reducible refine ⟨5, _, _, _, _, get5, rfl, rfl, ?_, ?_, ?_, ?_⟩) | (with_reducible refine ⟨6, _, _, _, _, get6, rfl, rfl, ?_, ?_, ?_, ?_⟩) | (with_reducible refine ⟨7, _, _, _, _, get7, rfl, rfl, ?_, ?_, ?_, ?_⟩) | (with_reducible refine ⟨8, _, _, _, _, get8, rfl, rfl, ?_, ?_, ?_, ?_⟩) | (with_reducible refine ⟨9, _, _, _, _, get9, rfl, rfl, ?_, ?_, ?_, ?_⟩)); (kernel_rfl); (simp [Value.cells]); (rfl); (clear st; intro w st))
        | ((with_reducible refine wl_alloc ?_ (fun K hK => ?_)); rfl; refine owp_alloc (o := ⟨some 15, _, _, _, _, _⟩) rfl st ?_; apply Exists.intro; apply Exists.intro; refine ⟨?_, ?_⟩; (focus (first | (go_simp; done) | (go_simp; rfl))); (clear st; intro b15 w hb st; clear hb))); (try simp only [nsl, Value.cells, unB] at st); (try clear hc); have hc := st.facts; (try simp only [nfl, nft, Nat.reduceAdd] at hc))
  refine (HG2.out _ (st.oldFl (i := 0) get0 HF1.out)).mono ?_
  rintro en w ⟨rfl, hx⟩
  replace st := st.ext hx
  clear hx
  (try clear hc); have hc := st.facts; (try simp only [nfl, nft, Nat.reduceAdd] at hc)
  clear HG1 HG2
  by_cases h1 : 3000 < wa + wb
  · skip
    go_wp2_with ((first
          | ((with_reducible refine wl_box ?_ (fun K hK => ?_)); rfl; refine owp_box (o := ⟨some 3, _, _, _, _, _⟩) rfl st ?_; apply Exists.intro; refine ⟨?_, ?_⟩; (focus (go_simp; try rfl)); (clear st; intro b3 w hb st; clear hb))
          | ((with_reducible refine wl_alloc ?_ (fun K hK => ?_)); rfl; refine owp_alloc (o := ⟨some 13, _, _, _, _, _⟩) rfl st ?_; apply Exists.intro; apply Exists.intro; refine ⟨?_, ?_⟩; (focus (first | (go_simp; done) | (go_simp; rfl))); (clear st; intro b13 w hb st; clear hb))
          | ((with_reducible refine wl_store ?_ (fun K hK => ?_)); rfl; refine owp_store rfl st ?_; apply Exists.intro; apply Exists.intro; refine ⟨?_, ?_, ?_⟩; (focus (go_simp; try rfl)); (focus (go_simp; try rfl)); (first | (with_reducible refine ⟨0, _, _, _, _, get0, rfl, rfl, ?_, ?_, ?_, ?_⟩) | (with_reducible refine ⟨1, _, _, _, _, get1, rfl, rfl, ?_, ?_, ?_, ?_⟩) | (with_reducible refine ⟨2, _, _, _, _, get2, rfl, rfl, ?_, ?_, ?_, ?_⟩) | (with_reducible refine ⟨3, _, _, _, _, get3, rfl, rfl, ?_, ?_, ?_, ?_⟩) | (with_reducible refine ⟨4, _, _, _, _, get4, rfl, rfl, ?_, ?_, ?_, ?_⟩) | (with_reducible refine ⟨5, _, _, _, _, get5, rfl, rfl, ?_, ?_, ?_, ?_⟩) | (with_reducible refine ⟨6, _, _, _, _, get6, rfl, rfl, ?_, ?_, ?_, ?_⟩) | (with_reducible refine ⟨7, _, _, _, _, get7, rfl, rfl, ?_, ?_, ?_, ?_⟩) | (with_reducible refine ⟨8, _, _, _, _, get8, rfl, rfl, ?_, ?_, ?_, ?_⟩) | (with_reducible refine ⟨9, _, _, _, _, get9, rfl, rfl, ?_, ?_, ?_, ?_⟩)); (kernel_rfl); (simp [Value.cells]); (rfl); (clear st; intro w st))
          | ((with_reducible refine wl_alloc ?_ (fun K hK => ?_)); rfl; refine owp_alloc (o := ⟨some 15, _, _, _, _, _⟩) rfl st ?_; apply Exists.intro; apply Exists.intro; refine ⟨?_, ?_⟩; (focus (first | (go_simp; done) | (go_simp; rfl))); (clear st; intro b15 w hb st; clear hb))); (try simp only [nsl, Value.cells, unB] at st); (try clear hc); have hc := st.facts; (try simp only [nfl, nft, Nat.reduceAdd] at hc))
    go_ret
    exact ⟨rfl, st.ext0⟩
  go_wp2_with ((first
        | ((with_reducible refine wl_box ?_ (fun K hK => ?_)); rfl; refine owp_box (o := ⟨some 3, _, _, _, _, _⟩) rfl st ?_; apply Exists.intro; refine ⟨?_, ?_⟩; (focus (go_simp; try rfl)); (clear st; intro b3 w hb st; clear hb))
        | ((with_reducible refine wl_alloc ?_ (fun K hK => ?_)); rfl; refine owp_alloc (o := ⟨some 13, _, _, _, _, _⟩) rfl st ?_; apply Exists.intro; apply Exists.intro; refine ⟨?_, ?_⟩; (focus (first | (go_simp; done) | (go_simp; rfl))); (clear st; intro b13 w hb st; clear hb))
        | ((with_reducible refine wl_store ?_ (fun K hK => ?_)); rfl; refine owp_store rfl st ?_; apply Exists.intro; apply Exists.intro; refine ⟨?_, ?_, ?_⟩; (focus (go_simp; try rfl)); (focus (go_simp; try rfl)); (first | (with_reducible refine ⟨0, _, _, _, _, get0, rfl, rfl, ?_, ?_, ?_, ?_⟩) | (with_reducible refine ⟨1, _, _, _, _, get1, rfl, rfl, ?_, ?_, ?_, ?_⟩) | (with_reducible refine ⟨2, _, _, _, _, get2, rfl, rfl, ?_, ?_, ?_, ?_⟩) | (with_reducible refine ⟨3, _, _, _, _, get3, rfl, rfl, ?_, ?_, ?_, ?_⟩) | (with_reducible refine ⟨4, _, _, _, _, get4, rfl, rfl, ?_, ?_, ?_, ?_⟩) | (with_reducible refine ⟨5, _, _, _, _, get5, rfl, rfl, ?_, ?_, ?_, ?_⟩) | (with_reducible refine ⟨6, _, _, _, _, get6, rfl, rfl, ?_, ?_, ?_, ?_⟩) | (with_reducible refine ⟨7, _, _, _, _, get7, rfl, rfl, ?_, ?_, ?_, ?_⟩) | (with_reducible refine ⟨8, _, _, _, _, get8, rfl, rfl, ?_, ?_, ?_, ?_⟩) | (with_reducible refine ⟨9, _, _, _, _, get9, rfl, rfl, ?_, ?_, ?_, ?_⟩)); (kernel_rfl); (simp [Value.cells]); (rfl); (clear st; intro w st))
        | ((with_reducible refine wl_alloc ?_ (fun K hK => ?_)); rfl; refine owp_alloc (o := ⟨some 15, _, _, _, _, _⟩) rfl st ?_; apply Exists.intro; apply Exists.intro; refine ⟨?_, ?_⟩; (focus (first | (go_simp; done) | (go_simp; rfl))); (clear st; intro b15 w hb st; clear hb))); (try simp only [nsl, Value.cells, unB] at st); (try clear hc); have hc := st.facts; (try simp only [nfl, nft, Nat.reduceAdd] at hc))
  cases hsv : svR i k0 with
  | false =>
    have HN := Lib.hid (fun W => sieveNew_no i k0 W hi hsv)
    clear hsv
    refine (HN.out _).mono ?_
    rintro en w ⟨rfl, hx⟩
    replace st := st.ext hx
    clear hx
    (try clear hc); have hc := st.facts; (try simp only [nfl, nft, Nat.reduceAdd] at hc)
    go_wp2_with ((first
          | ((with_reducible refine wl_box ?_ (fun K hK => ?_)); rfl; refine owp_box (o := ⟨some 3, _, _, _, _, _⟩) rfl st ?_; apply Exists.intro; refine ⟨?_, ?_⟩; (focus (go_simp; try rfl)); (clear st; intro b3 w hb st; clear hb))
          | ((with_reducible refine wl_alloc ?_ (fun K hK => ?_)); rfl; refine owp_alloc (o := ⟨some 13, _, _, _, _, _⟩) rfl st ?_; apply Exists.intro; apply Exists.intro; refine ⟨?_, ?_⟩; (focus (first | (go_simp; done) | (go_simp; rfl))); (clear st; intro b13 w hb st; clear hb))
          | ((with_reducible refine wl_store ?_ (fun K hK => ?_)); rfl; refine owp_store rfl st ?_; apply Exists.intro; apply Exists.intro; refine ⟨?_, ?_, ?_⟩; (focus (go_simp; try rfl)); (focus (go_simp; try rfl)); (first | (with_reducible refine ⟨0, _, _, _, _, get0, rfl, rfl, ?_, ?_, ?_, ?_⟩) | (with_reducible refine ⟨1, _, _, _, _, get1, rfl, rfl, ?_, ?_, ?_, ?_⟩) | (with_reducible refine ⟨2, _, _, _, _, get2, rfl, rfl, ?_, ?_, ?_, ?_⟩) | (with_reducible refine ⟨3, _, _, _, _, get3, rfl, rfl, ?_, ?_, ?_, ?_⟩) | (with_reducible refine ⟨4, _, _, _, _, get4, rfl, rfl, ?_, ?_, ?_, ?_⟩) | (with_reducible refine ⟨5, _, _, _, _, get5, rfl, rfl, ?_, ?_, ?_, ?_⟩) | (with_reducible refine ⟨6, _, _, _, _, get6, rfl, rfl, ?_, ?_, ?_, ?_⟩) | (with_reducible refine ⟨7, _, _, _, _, get7, rfl, rfl, ?_, ?_, ?_, ?_⟩) | (with_reducible refine ⟨8, _, _, _, _, get8, rfl, rfl, ?_, ?_, ?_, ?_⟩) | (with_reducible refine ⟨9, _, _, _, _, get9, rfl, rfl, ?_, ?_, ?_, ?_⟩)); (kernel_rfl); (simp [Value.cells]); (rfl); (clear st; intro w st))
          | ((with_reducible refine wl_alloc ?_ (fun K hK => ?_)); rfl; refine owp_alloc (o := ⟨some 15, _, _, _, _, _⟩) rfl st ?_; apply Exists.intro; apply Exists.intro; refine ⟨?_, ?_⟩; (focus (first | (go_simp; done) | (go_simp; rfl))); (clear st; intro b15 w hb st; clear hb))); (try simp only [nsl, Value.cells, unB] at st); (try clear hc); have hc := st.facts; (try simp only [nfl, nft, Nat.reduceAdd] at hc))
    refine (HN.out _).mono ?_
    rintro en w ⟨rfl, hx⟩
    replace st := st.ext hx
    clear hx
    (try clear hc); have hc := st.facts; (try simp only [nfl, nft, Nat.reduceAdd] at hc)
    go_wp2_with ((first
          | ((with_reducible refine wl_box ?_ (fun K hK => ?_)); rfl; refine owp_box (o := ⟨some 3, _, _, _, _, _⟩) rfl st ?_; apply Exists.intro; refine ⟨?_, ?_⟩; (focus (go_simp; try rfl)); (clear st; intro b3 w hb st; clear hb))
          | ((with_reducible refine wl_alloc ?_ (fun K hK => ?_)); rfl; refine owp_alloc (o := ⟨some 13, _, _, _, _, _⟩) rfl st ?_; apply Exists.intro; apply Exists.intro; refine ⟨?_, ?_⟩; (focus (first | (go_simp; done) | (go_simp; rfl))); (clear st; intro b13 w hb st; clear hb))
          | ((with_reducible refine wl_store ?_ (fun K hK => ?_)); rfl; refine owp_store rfl st ?_; apply Exists.intro; apply Exists.intro; refine ⟨?_, ?_, ?_⟩; (focus (go_simp; try rfl)); (focus (go_simp; try rfl)); (first | (with_reducible refine ⟨0, _, _, _, _, get0, rfl, rfl, ?_, ?_, ?_, ?_⟩) | (with_reducible refine ⟨1, _, _, _, _, get1, rfl, rfl, ?_, ?_, ?_, ?_⟩) | (with_reducible refine ⟨2, _, _, _, _, get2, rfl, rfl, ?_, ?_, ?_, ?_⟩) | (with_reducible refine ⟨3, _, _, _, _, get3, rfl, rfl, ?_, ?_, ?_, ?_⟩) | (with_reducible refine ⟨4, _, _, _, _, get4, rfl, rfl, ?_, ?_, ?_, ?_⟩) | (with_reducible refine ⟨5, _, _, _, _, get5, rfl, rfl, ?_, ?_, ?_, ?_⟩) | (with_reducible refine ⟨6, _, _, _, _, get6, rfl, rfl, ?_, ?_, ?_, ?_⟩) | (with_reducible refine ⟨7, _, _, _, _, get7, rfl, rfl, ?_, ?_, ?_, ?_⟩) | (with_reducible refine ⟨8, _, _, _, _, get8, rfl, rfl, ?_, ?_, ?_, ?_⟩) | (with_reducible refine ⟨9, _, _, _, _, get9, rfl, rfl, ?_, ?_, ?_, ?_⟩)); (kernel_rfl); (simp [Value.cells]); (rfl); (clear st; intro w st))
          | ((with_reducible refine wl_alloc ?_ (fun K hK => ?_)); rfl; refine owp_alloc (o := ⟨some 15, _, _, _, _, _⟩) rfl st ?_; apply Exists.intro; apply Exists.intro; refine ⟨?_, ?_⟩; (focus (first | (go_simp; done) | (go_simp; rfl))); (clear st; intro b15 w hb st; clear hb))); (try simp only [nsl, Value.cells, unB] at st); (try clear hc); have hc := st.facts; (try simp only [nfl, nft, Nat.reduceAdd] at hc))
    go_ret
    exact ⟨rfl, st.ext0⟩
  | true =>
    obtain ⟨m, k, rfl, rfl, hm, hk1⟩ := svR_k hsv
    have hk : k ≤ 8 := hk1.2
    have HN := Lib.hid (fun W => sieveNew_f _ _ m W hsv rfl)
    have HCA : Hid (∀ x ∈ la, CLenS x) := Lib.hid fun x hx => wtC_S (by have := weightC_mem la x hx; have := HWA.out; omega)
    have HCB : Hid (∀ x ∈ lb, CLenS x) := Lib.hid fun x hx => wtC_S (by have := weightC_mem lb x hx; have := HWB.out; omega)
    have HNA : Hid (n0 = la.length) := Lib.hid HF0.out.1
    have HNB : Hid (n1 = lb.length) := Lib.hid HF1.out.1
    have hna : n0 ≤ 1000000 := by have := weightC_len la; have := HWA.out; have := HNA.out; omega
    have hnb : n1 ≤ 1000000 := by have := weightC_len lb; have := HWB.out; have := HNB.out; omega
    have HA1 := Lib.hid (fun (fr al : Nat → Prop) (W : World) (p g : Nat) (st : Own fr al W [blkI p [.slice (some ⟨g, 0, none⟩) m m, .int .i64 (k : Int)], blkI g ((List.replicate m (0 : UInt8)).map B), flI a0 n0 la] W) => svAdd_c (c := c0) st (by simp) hm hk hna (fun x hx => (HCA.out x hx).L))
    have HA2 := Lib.hid (fun (fr al : Nat → Prop) (W : World) (p g : Nat) (st : Own fr al W [blkI p [.slice (some ⟨g, 0, none⟩) m m, .int .i64 (k : Int)], blkI g ((List.replicate m (0 : UInt8)).map B), flI a1 n1 lb] W) => svAdd_c (c := c1) st (by simp) hm hk hnb (fun x hx => (HCB.out x hx).L))
    obtain ⟨ga, hga⟩ : ∃ g, addCs (8 * m) k (List.replicate m 0) la = g := ⟨_, rfl⟩
    obtain ⟨gb, hgb⟩ : ∃ g, addCs (8 * m) k (List.replicate m 0) lb = g := ⟨_, rfl⟩
    rw [hga] at HA1
    rw [hgb] at HA2
    have HGA : Hid (ga.length = m) := Lib.hid (by rw [← hga, addCs_len]; simp)
    have HGB : Hid (gb.length = m) := Lib.hid (by rw [← hgb, addCs_len]; simp)
    have HLL : Hid (gb.length = ga.length) := Lib.hid (by rw [HGA.out, HGB.out])
    have HMA : Hid (∀ x ∈ la, credR x = true → mayB (8 * m) k ga x = true) := Lib.hid fun x hx hr => by rw [← hga]; exact mayB_addCs (by omega) x hr la _ (by simp) hx
    have HMB : Hid (∀ x ∈ lb, credR x = true → mayB (8 * m) k gb x = true) := Lib.hid fun x hx hr => by rw [← hgb]; exact mayB_addCs (by omega) x hr lb _ (by simp) hx
    have HJN := Lib.hid (fun (fr al : Nat → Prop) (W : World) (p q c1 c2 : Nat) (a1 a2 : Option Addr) (st : Own fr al W [blkI p [.slice a1 m c1, .int .i64 (k : Int)], byI a1 m ga, blkI q [.slice a2 m c2, .int .i64 (k : Int)], byI a2 m gb] W) (hc : m ≤ c1 ∧ c1 ≤ maxLen) => svJoin_c st hc hm)
    have hset := setN_or ga gb HLL.out
    have hsl := setN_le (orL ga gb)
    rw [orL_len _ _ HLL.out, HGA.out] at hsl
    obtain ⟨gj, hgj⟩ : ∃ g, orL ga gb = g := ⟨_, rfl⟩
    have HGJ : Hid (gj.length = m) := Lib.hid (by rw [← hgj, orL_len _ _ HLL.out, HGA.out])
    have HJA : Hid (∀ x ∈ la, credR x = true → mayB (8 * m) k gj x = true) := Lib.hid fun x hx hr => by rw [← hgj]; exact mayB_orl HLL.out (HMA.out x hx hr)
    have HJB : Hid (∀ x ∈ lb, credR x = true → mayB (8 * m) k gj x = true) := Lib.hid fun x hx hr => by rw [← hgj]; exact mayB_orr HLL.out (HMB.out x hx hr)
    rw [hgj] at HJN hset hsl
    have HS1 := Lib.hid (fun (fr al : Nat → Prop) (W : World) (p sc : Nat) (sa : Option Addr) (st : Own fr al W [blkI p [.slice sa m sc, .int .i64 (k : Int)], byI sa m ga] W) => svSet_c st HGA.out hm.2)
    have HS2 := Lib.hid (fun (fr al : Nat → Prop) (W : World) (p sc : Nat) (sa : Option Addr) (st : Own fr al W [blkI p [.slice sa m sc, .int .i64 (k : Int)], byI sa m gb] W) => svSet_c st HGB.out hm.2)
    have HS3 := Lib.hid (fun (fr al : Nat → Prop) (W : World) (p sc : Nat) (sa : Option Addr) (st : Own fr al W [blkI p [.slice sa m sc, .int .i64 (k : Int)], byI sa m gj] W) => svSet_c st HGJ.out hm.2)
    have HPK := Lib.hid (fun (fr al : Nat → Prop) (W : World) (p sc : Nat) (sa b : Option Addr) (st : Own fr al W [blkI p [.slice sa m sc, .int .i64 (k : Int)], byI sa m gj, flI b n0 la] W) => svPick_c (c := c0) st (by omega) (fun x hx => (HCA.out x hx).L) HGJ.out hm hk)
    rw [may_filter HJA.out] at HPK
    have HRS := Lib.hid (fun W (h : Fl W a0 n0 la) => refCredSet_c a0 n0 c0 la W h (by omega) (fun x hx => (HCA.out x hx).L))
    have hcs : (credSet la).length ≤ 1000000 := by have := credSet_len la; have := HNA.out; omega
    obtain ⟨cs, hcse⟩ : ∃ c, credSet la = c := ⟨_, rfl⟩
    rw [hcse] at HPK HRS hcs
    obtain ⟨cn, hcn⟩ : ∃ c, cs.length = c := ⟨_, rfl⟩
    rw [hcn] at HRS hcs
    have HCN := Lib.hid hcn
    obtain ⟨sa, hsa⟩ : ∃ s, setN ga = s := ⟨_, rfl⟩
    obtain ⟨sb, hsb⟩ : ∃ s, setN gb = s := ⟨_, rfl⟩
    obtain ⟨sj, hsj⟩ : ∃ s, setN gj = s := ⟨_, rfl⟩
    rw [hsa] at HS1 hset
    rw [hsb] at HS2 hset
    rw [hsj] at HS3 hset hsl
    obtain ⟨hs1, hs2, hs3⟩ := hset
    have HMM : m ≤ m ∧ m ≤ maxLen := ⟨Nat.le_refl _, by simp [maxLen]; omega⟩
    clear hga hgb hgj hcse hcn hsa hsb hsj hsv HWA HWB
    have HM1 := Lib.hid hm
    refine (HN.out _).mono ?_
    rintro en w ⟨p1, g1, rfl, h2⟩
    replace st := st.join h2
    clear h2
    simp only [List.cons_append, List.nil_append] at st
    (try simp only [nsl, Value.cells, unB] at st)
    (try clear hc); have hc := st.facts; (try simp only [nfl, nft, Nat.reduceAdd] at hc)
    go_wp2_with ((first
          | ((with_reducible refine wl_box ?_ (fun K hK => ?_)); rfl; refine owp_box (o := ⟨some 3, _, _, _, _, _⟩) rfl st ?_; apply Exists.intro; refine ⟨?_, ?_⟩; (focus (go_simp; try rfl)); (clear st; intro b3 w hb st; clear hb))
          | ((with_reducible refine wl_alloc ?_ (fun K hK => ?_)); rfl; refine owp_alloc (o := ⟨some 13, _, _, _, _, _⟩) rfl st ?_; apply Exists.intro; apply Exists.intro; refine ⟨?_, ?_⟩; (focus (first | (go_simp; done) | (go_simp; rfl))); (clear st; intro b13 w hb st; clear hb))
          | ((with_reducible refine wl_store ?_ (fun K hK => ?_)); rfl; refine owp_store rfl st ?_; apply Exists.intro; apply Exists.intro; refine ⟨?_, ?_, ?_⟩; (focus (go_simp; try rfl)); (focus (go_simp; try rfl)); (first | (with_reducible refine ⟨0, _, _, _, _, get0, rfl, rfl, ?_, ?_, ?_, ?_⟩) | (with_reducible refine ⟨1, _, _, _, _, get1, rfl, rfl, ?_, ?_, ?_, ?_⟩) | (with_reducible refine ⟨2, _, _, _, _, get2, rfl, rfl, ?_, ?_, ?_, ?_⟩) | (with_reducible refine ⟨3, _, _, _, _, get3, rfl, rfl, ?_, ?_, ?_, ?_⟩) | (with_reducible refine ⟨4, _, _, _, _, get4, rfl, rfl, ?_, ?_, ?_, ?_⟩) | (with_reducible refine ⟨5, _, _, _, _, get5, rfl, rfl, ?_, ?_, ?_, ?_⟩) | (with_reducible refine ⟨6, _, _, _, _, get6, rfl, rfl, ?_, ?_, ?_, ?_⟩) | (with_reducible refine ⟨7, _, _, _, _, get7, rfl, rfl, ?_, ?_, ?_, ?_⟩) | (with_reducible refine ⟨8, _, _, _, _, get8, rfl, rfl, ?_, ?_, ?_, ?_⟩) | (with_reducible refine ⟨9, _, _, _, _, get9, rfl, rfl, ?_, ?_, ?_, ?_⟩)); (kernel_rfl); (simp [Value.cells]); (rfl); (clear st; intro w st))
          | ((with_reducible refine wl_alloc ?_ (fun K hK => ?_)); rfl; refine owp_alloc (o := ⟨some 15, _, _, _, _, _⟩) rfl st ?_; apply Exists.intro; apply Exists.intro; refine ⟨?_, ?_⟩; (focus (first | (go_simp; done) | (go_simp; rfl))); (clear st; intro b15 w hb st; clear hb))); (try simp only [nsl, Value.cells, unB] at st); (try clear hc); have hc := st.facts; (try simp only [nfl, nft, Nat.reduceAdd] at hc))
    refine (HN.out _).mono ?_
    rintro en w ⟨p2, g2, rfl, h2⟩
    replace st := st.join h2
    clear h2 HN
    simp only [List.cons_append, List.nil_append] at st
    replace st := (st.addOldFl (i := 0) get0 HF0.out).addOldFl (i := 0) get0 HF1.out
    simp only [List.cons_append, List.nil_append] at st
    (try simp only [nsl, Value.cells, unB] at st)
    (try clear hc); have hc := st.facts; (try simp only [nfl, nft, Nat.reduceAdd] at hc)
    go_wp2_with ((first
          | ((with_reducible refine wl_box ?_ (fun K hK => ?_)); rfl; refine owp_box (o := ⟨some 3, _, _, _, _, _⟩) rfl st ?_; apply Exists.intro; refine ⟨?_, ?_⟩; (focus (go_simp; try rfl)); (clear st; intro b3 w hb st; clear hb))
          | ((with_reducible refine wl_alloc ?_ (fun K hK => ?_)); rfl; refine owp_alloc (o := ⟨some 13, _, _, _, _, _⟩) rfl st ?_; apply Exists.intro; apply Exists.intro; refine ⟨?_, ?_⟩; (focus (first | (go_simp; done) | (go_simp; rfl))); (clear st; intro b13 w hb st; clear hb))
          | ((with_reducible refine wl_store ?_ (fun K hK => ?_)); rfl; refine owp_store rfl st ?_; apply Exists.intro; apply Exists.intro; refine ⟨?_, ?_, ?_⟩; (focus (go_simp; try rfl)); (focus (go_simp; try rfl)); (first | (with_reducible refine ⟨0, _, _, _, _, get0, rfl, rfl, ?_, ?_, ?_, ?_⟩) | (with_reducible refine ⟨1, _, _, _, _, get1, rfl, rfl, ?_, ?_, ?_, ?_⟩) | (with_reducible refine ⟨2, _, _, _, _, get2, rfl, rfl, ?_, ?_, ?_, ?_⟩) | (with_reducible refine ⟨3, _, _, _, _, get3, rfl, rfl, ?_, ?_, ?_, ?_⟩) | (with_reducible refine ⟨4, _, _, _, _, get4, rfl, rfl, ?_, ?_, ?_, ?_⟩) | (with_reducible refine ⟨5, _, _, _, _, get5, rfl, rfl, ?_, ?_, ?_, ?_⟩) | (with_reducible refine ⟨6, _, _, _, _, get6, rfl, rfl, ?_, ?_, ?_, ?_⟩) | (with_reducible refine ⟨7, _, _, _, _, get7, rfl, rfl, ?_, ?_, ?_, ?_⟩) | (with_reducible refine ⟨8, _, _, _, _, get8, rfl, rfl, ?_, ?_, ?_, ?_⟩) | (with_reducible refine ⟨9, _, _, _, _, get9, rfl, rfl, ?_, ?_, ?_, ?_⟩)); (kernel_rfl); (simp [Value.cells]); (rfl); (clear st; intro w st))
          | ((with_reducible refine wl_alloc ?_ (fun K hK => ?_)); rfl; refine owp_alloc (o := ⟨some 15, _, _, _, _, _⟩) rfl st ?_; apply Exists.intro; apply Exists.intro; refine ⟨?_, ?_⟩; (focus (first | (go_simp; done) | (go_simp; rfl))); (clear st; intro b15 w hb st; clear hb))); (try simp only [nsl, Value.cells, unB] at st); (try clear hc); have hc := st.facts; (try simp only [nfl, nft, Nat.reduceAdd] at hc))
    obtain ⟨fr', al', st', back⟩ := st.sub [3, 2, 6] (by decide) (by simp)
    (try simp only [nsl, Value.cells, unB] at st')
    refine (HA1.out _ _ _ _ _ st').mono ?_
    clear st'
    rintro en w ⟨rfl, st'⟩
    replace st := back _ _ (by simp) st'
    clear back st'
    (try simp only [nsl, Value.cells, unB] at st)
    (try clear hc); have hc := st.facts; (try simp only [nfl, nft, Nat.reduceAdd] at hc)
    go_wp2_with ((first
          | ((with_reducible refine wl_box ?_ (fun K hK => ?_)); rfl; refine owp_box (o := ⟨some 3, _, _, _, _, _⟩) rfl st ?_; apply Exists.intro; refine ⟨?_, ?_⟩; (focus (go_simp; try rfl)); (clear st; intro b3 w hb st; clear hb))
          | ((with_reducible refine wl_alloc ?_ (fun K hK => ?_)); rfl; refine owp_alloc (o := ⟨some 13, _, _, _, _, _⟩) rfl st ?_; apply Exists.intro; apply Exists.intro; refine ⟨?_, ?_⟩; (focus (first | (go_simp; done) | (go_simp; rfl))); (clear st; intro b13 w hb st; clear hb))
          | ((with_reducible refine wl_store ?_ (fun K hK => ?_)); rfl; refine owp_store rfl st ?_; apply Exists.intro; apply Exists.intro; refine ⟨?_, ?_, ?_⟩; (focus (go_simp; try rfl)); (focus (go_simp; try rfl)); (first | (with_reducible refine ⟨0, _, _, _, _, get0, rfl, rfl, ?_, ?_, ?_, ?_⟩) | (with_reducible refine ⟨1, _, _, _, _, get1, rfl, rfl, ?_, ?_, ?_, ?_⟩) | (with_reducible refine ⟨2, _, _, _, _, get2, rfl, rfl, ?_, ?_, ?_, ?_⟩) | (with_reducible refine ⟨3, _, _, _, _, get3, rfl, rfl, ?_, ?_, ?_, ?_⟩) | (with_reducible refine ⟨4, _, _, _, _, get4, rfl, rfl, ?_, ?_, ?_, ?_⟩) | (with_reducible refine ⟨5, _, _, _, _, get5, rfl, rfl, ?_, ?_, ?_, ?_⟩) | (with_reducible refine ⟨6, _, _, _, _, get6, rfl, rfl, ?_, ?_, ?_, ?_⟩) | (with_reducible refine ⟨7, _, _, _, _, get7, rfl, rfl, ?_, ?_, ?_, ?_⟩) | (with_reducible refine ⟨8, _, _, _, _, get8, rfl, rfl, ?_, ?_, ?_, ?_⟩) | (with_reducible refine ⟨9, _, _, _, _, get9, rfl, rfl, ?_, ?_, ?_, ?_⟩)); (kernel_rfl); (simp [Value.cells]); (rfl); (clear st; intro w st))
          | ((with_reducible refine wl_alloc ?_ (fun K hK => ?_)); rfl; refine owp_alloc (o := ⟨some 15, _, _, _, _, _⟩) rfl st ?_; apply Exists.intro; apply Exists.intro; refine ⟨?_, ?_⟩; (focus (first | (go_simp; done) | (go_simp; rfl))); (clear st; intro b15 w hb st; clear hb))); (try simp only [nsl, Value.cells, unB] at st); (try clear hc); have hc := st.facts; (try simp only [nfl, nft, Nat.reduceAdd] at hc))
    obtain ⟨fr', al', st', back⟩ := st.sub [5, 4, 7] (by decide) (by simp)
    (try simp only [nsl, Value.cells, unB] at st')
    refine (HA2.out _ _ _ _ _ st').mono ?_
    clear st'
    rintro en w ⟨rfl, st'⟩
    replace st := back _ _ (by simp) st'
    clear back st'
    (try simp only [nsl, Value.cells, unB] at st)
    (try clear hc); have hc := st.facts; (try simp only [nfl, nft, Nat.reduceAdd] at hc)
    replace st := (st.blkToBy3 (i := 2) (n := m) get2 HGA.out).blkToBy3 (i := 4) (n := m) get4 HGB.out
    simp only [List.set] at st
    (try simp only [nsl, Value.cells, unB] at st)
    (try clear hc); have hc := st.facts; (try simp only [nfl, nft, Nat.reduceAdd] at hc)
    go_wp2_with ((first
          | ((with_reducible refine wl_box ?_ (fun K hK => ?_)); rfl; refine owp_box (o := ⟨some 3, _, _, _, _, _⟩) rfl st ?_; apply Exists.intro; refine ⟨?_, ?_⟩; (focus (go_simp; try rfl)); (clear st; intro b3 w hb st; clear hb))
          | ((with_reducible refine wl_alloc ?_ (fun K hK => ?_)); rfl; refine owp_alloc (o := ⟨some 13, _, _, _, _, _⟩) rfl st ?_; apply Exists.intro; apply Exists.intro; refine ⟨?_, ?_⟩; (focus (first | (go_simp; done) | (go_simp; rfl))); (clear st; intro b13 w hb st; clear hb))
          | ((with_reducible refine wl_store ?_ (fun K hK => ?_)); rfl; refine owp_store rfl st ?_; apply Exists.intro; apply Exists.intro; refine ⟨?_, ?_, ?_⟩; (focus (go_simp; try rfl)); (focus (go_simp; try rfl)); (first | (with_reducible refine ⟨0, _, _, _, _, get0, rfl, rfl, ?_, ?_, ?_, ?_⟩) | (with_reducible refine ⟨1, _, _, _, _, get1, rfl, rfl, ?_, ?_, ?_, ?_⟩) | (with_reducible refine ⟨2, _, _, _, _, get2, rfl, rfl, ?_, ?_, ?_, ?_⟩) | (with_reducible refine ⟨3, _, _, _, _, get3, rfl, rfl, ?_, ?_, ?_, ?_⟩) | (with_reducible refine ⟨4, _, _, _, _, get4, rfl, rfl, ?_, ?_, ?_, ?_⟩) | (with_reducible refine ⟨5, _, _, _, _, get5, rfl, rfl, ?_, ?_, ?_, ?_⟩) | (with_reducible refine ⟨6, _, _, _, _, get6, rfl, rfl, ?_, ?_, ?_, ?_⟩) | (with_reducible refine ⟨7, _, _, _, _, get7, rfl, rfl, ?_, ?_, ?_, ?_⟩) | (with_reducible refine ⟨8, _, _, _, _, get8, rfl, rfl, ?_, ?_, ?_, ?_⟩) | (with_reducible refine ⟨9, _, _, _, _, get9, rfl, rfl, ?_, ?_, ?_, ?_⟩)); (kernel_rfl); (simp [Value.cells]); (rfl); (clear st; intro w st))
          | ((with_reducible refine wl_alloc ?_ (fun K hK => ?_)); rfl; refine owp_alloc (o := ⟨some 15, _, _, _, _, _⟩) rfl st ?_; apply Exists.intro; apply Exists.intro; refine ⟨?_, ?_⟩; (focus (first | (go_simp; done) | (go_simp; rfl))); (clear st; intro b15 w hb st; clear hb))); (try simp only [nsl, Value.cells, unB] at st); (try clear hc); have hc := st.facts; (try simp only [nfl, nft, Nat.reduceAdd] at hc))
    obtain ⟨fr', al', st', back⟩ := st.sub [3, 2, 5, 4] (by decide) (by simp)
    (try simp only [nsl, Value.cells, unB] at st')
    refine (HJN.out _ _ _ _ _ _ _ _ _ st' HMM).mono ?_
    clear st'
    rintro en w ⟨r3, a3, c3, rfl, hc3, st'⟩
    replace st := back _ _ (by simp) st'
    clear back st'
    (try simp only [nsl, Value.cells, unB] at st)
    (try clear hc); have hc := st.facts; (try simp only [nfl, nft, Nat.reduceAdd] at hc)
    have st9 := st.keep [2, 3, 4, 5, 6, 7, 8, 9] (by decide) (by simp)
    simp only [pick, List.map_cons, List.map_nil, List.getElem?_cons_zero, List.getElem?_cons_succ, Option.getD_some] at st9
    clear st HA1 HA2 HJN
    have st := st9
    clear st9 hc3
    (try simp only [nsl, Value.cells, unB] at st)
    (try clear hc); have hc := st.facts; (try simp only [nfl, nft, Nat.reduceAdd] at hc)
    go_wp2_with ((first
          | ((with_reducible refine wl_box ?_ (fun K hK => ?_)); rfl; refine owp_box (o := ⟨some 3, _, _, _, _, _⟩) rfl st ?_; apply Exists.intro; refine ⟨?_, ?_⟩; (focus (go_simp; try rfl)); (clear st; intro b3 w hb st; clear hb))
          | ((with_reducible refine wl_alloc ?_ (fun K hK => ?_)); rfl; refine owp_alloc (o := ⟨some 13, _, _, _, _, _⟩) rfl st ?_; apply Exists.intro; apply Exists.intro; refine ⟨?_, ?_⟩; (focus (first | (go_simp; done) | (go_simp; rfl))); (clear st; intro b13 w hb st; clear hb))
          | ((with_reducible refine wl_store ?_ (fun K hK => ?_)); rfl; refine owp_store rfl st ?_; apply Exists.intro; apply Exists.intro; refine ⟨?_, ?_, ?_⟩; (focus (go_simp; try rfl)); (focus (go_simp; try rfl)); (first | (with_reducible refine ⟨0, _, _, _, _, get0, rfl, rfl, ?_, ?_, ?_, ?_⟩) | (with_reducible refine ⟨1, _, _, _, _, get1, rfl, rfl, ?_, ?_, ?_, ?_⟩) | (with_reducible refine ⟨2, _, _, _, _, get2, rfl, rfl, ?_, ?_, ?_, ?_⟩) | (with_reducible refine ⟨3, _, _, _, _, get3, rfl, rfl, ?_, ?_, ?_, ?_⟩) | (with_reducible refine ⟨4, _, _, _, _, get4, rfl, rfl, ?_, ?_, ?_, ?_⟩) | (with_reducible refine ⟨5, _, _, _, _, get5, rfl, rfl, ?_, ?_, ?_, ?_⟩) | (with_reducible refine ⟨6, _, _, _, _, get6, rfl, rfl, ?_, ?_, ?_, ?_⟩) | (with_reducible refine ⟨7, _, _, _, _, get7, rfl, rfl, ?_, ?_, ?_, ?_⟩) | (with_reducible refine ⟨8, _, _, _, _, get8, rfl, rfl, ?_, ?_, ?_, ?_⟩) | (with_reducible refine ⟨9, _, _, _, _, get9, rfl, rfl, ?_, ?_, ?_, ?_⟩)); (kernel_rfl); (simp [Value.cells]); (rfl); (clear st; intro w st))
          | ((with_reducible refine wl_alloc ?_ (fun K hK => ?_)); rfl; refine owp_alloc (o := ⟨some 15, _, _, _, _, _⟩) rfl st ?_; apply Exists.intro; apply Exists.intro; refine ⟨?_, ?_⟩; (focus (first | (go_simp; done) | (go_simp; rfl))); (clear st; intro b15 w hb st; clear hb))); (try simp only [nsl, Value.cells, unB] at st); (try clear hc); have hc := st.facts; (try simp only [nfl, nft, Nat.reduceAdd] at hc))
    go_loopg [67] n0 (fun q i wr => ∃ (j : Nat), j ≤ n0 ∧ q = n0 - j ∧ i = .int .i64 (j : Int) ∧ Own (fun _ => False) (fun _ => True) W [byI (some ⟨g1, 0, none⟩) m ga, blkI p1 [.slice (some ⟨g1, 0, none⟩) m m, .int .i64 (k : Int)], byI (some ⟨g2, 0, none⟩) m gb, blkI p2 [.slice (some ⟨g2, 0, none⟩) m m, .int .i64 (k : Int)], flI a0 n0 la, flI a1 n1 lb, blkI r3 [.slice a3 m c3, .int .i64 (k : Int)], byI a3 m gj] wr)
    case atStart => exact ⟨0, by omega, by omega, rfl, st⟩
    case round =>
      obtain ⟨j, hj, rfl, rfl, st'⟩ := hrel
      clear st hc
      have st := st'
      clear st'
      by_cases hjn : j < n0
      · obtain ⟨b, off, ha, hcell⟩ := (st.flAt (i := 4) get4).cred (by omega)
        have hjl : j < la.length := by have := HNA.out; omega
        have hcc := hcell j la[j] (List.getElem?_eq_getElem hjl)
        obtain ⟨r0, r1, r2, r3', r4, r5, r6, r7, r8⟩ := hcc
        have hxm : la[j] ∈ la := List.getElem_mem hjl
        have hxl := HCA.out _ hxm
        have hm1 := HMA.out _ hxm
        have hm2 := HJA.out _ hxm
        obtain ⟨x, hx⟩ : ∃ x, la[j] = x := ⟨_, rfl⟩
        rw [hx] at hxl hm1 hm2 r0 r1 r2 r3' r4 r5 r6 r7 r8
        clear hcell hx hjl hxm
        subst ha
        have HR := Lib.hid (fun W => refCredRight_any x W (CLenS.big hxl))
        have HT1 := Lib.hid (fun hr (fr al : Nat → Prop) (W : World) (p sc : Nat) (sa : Option Addr) (st : Own fr al W [blkI p [.slice sa m sc, .int .i64 (k : Int)], byI sa m ga] W) => hm1 hr ▸ svMayB_c x st hxl.L HGA.out hm hk)
        have HT2 := Lib.hid (fun hr (fr al : Nat → Prop) (W : World) (p sc : Nat) (sa : Option Addr) (st : Own fr al W [blkI p [.slice sa m sc, .int .i64 (k : Int)], byI sa m gj] W) => hm2 hr ▸ svMayB_c x st hxl.L HGJ.out hm hk)
        clear hm1 hm2 hxl
        unfold S at r1 r2 r3' r4 r5 r6 r7 r8
        have HXV : Hid (cV x = .agg #[.int .i64 x.k, .string ⟨x.h.1.toArray⟩, .string ⟨x.h.2.toArray⟩, .string ⟨x.w.toArray⟩, .string ⟨x.b.1.toArray⟩, .string ⟨x.b.2.toArray⟩, .string ⟨x.c.1.toArray⟩, .string ⟨x.c.2.toArray⟩, .string ⟨x.e.toArray⟩]) := Lib.hid rfl
        rw [HXV.out] at HR HT1 HT2
        (try simp only [nsl, Value.cells, unB] at st)
        (try clear hc); have hc := st.facts; (try simp only [nfl, nft, Nat.reduceAdd] at hc)
        go_wp2_with ((first
              | ((with_reducible refine wl_box ?_ (fun K hK => ?_)); rfl; refine owp_box (o := ⟨some 3, _, _, _, _, _⟩) rfl st ?_; apply Exists.intro; refine ⟨?_, ?_⟩; (focus (go_simp; try rfl)); (clear st; intro b3 w hb st; clear hb))
              | ((with_reducible refine wl_alloc ?_ (fun K hK => ?_)); rfl; refine owp_alloc (o := ⟨some 13, _, _, _, _, _⟩) rfl st ?_; apply Exists.intro; apply Exists.intro; refine ⟨?_, ?_⟩; (focus (first | (go_simp; done) | (go_simp; rfl))); (clear st; intro b13 w hb st; clear hb))
              | ((with_reducible refine wl_store ?_ (fun K hK => ?_)); rfl; refine owp_store rfl st ?_; apply Exists.intro; apply Exists.intro; refine ⟨?_, ?_, ?_⟩; (focus (go_simp; try rfl)); (focus (go_simp; try rfl)); (first | (with_reducible refine ⟨0, _, _, _, _, get0, rfl, rfl, ?_, ?_, ?_, ?_⟩) | (with_reducible refine ⟨1, _, _, _, _, get1, rfl, rfl, ?_, ?_, ?_, ?_⟩) | (with_reducible refine ⟨2, _, _, _, _, get2, rfl, rfl, ?_, ?_, ?_, ?_⟩) | (with_reducible refine ⟨3, _, _, _, _, get3, rfl, rfl, ?_, ?_, ?_, ?_⟩) | (with_reducible refine ⟨4, _, _, _, _, get4, rfl, rfl, ?_, ?_, ?_, ?_⟩) | (with_reducible refine ⟨5, _, _, _, _, get5, rfl, rfl, ?_, ?_, ?_, ?_⟩) | (with_reducible refine ⟨6, _, _, _, _, get6, rfl, rfl, ?_, ?_, ?_, ?_⟩) | (with_reducible refine ⟨7, _, _, _, _, get7, rfl, rfl, ?_, ?_, ?_, ?_⟩) | (with_reducible refine ⟨8, _, _, _, _, get8, rfl, rfl, ?_, ?_, ?_, ?_⟩) | (with_reducible refine ⟨9, _, _, _, _, get9, rfl, rfl, ?_, ?_, ?_, ?_⟩)); (kernel_rfl); (simp [Value.cells]); (rfl); (clear st; intro w st))
              | ((with_reducible refine wl_alloc ?_ (fun K hK => ?_)); rfl; refine owp_alloc (o := ⟨some 15, _, _, _, _, _⟩) rfl st ?_; apply Exists.intro; apply Exists.intro; refine ⟨?_, ?_⟩; (focus (first | (go_simp; done) | (go_simp; rfl))); (clear st; intro b15 w hb st; clear hb))); (try simp only [nsl, Value.cells, unB] at st); (try clear hc); have hc := st.facts; (try simp only [nfl, nft, Nat.reduceAdd] at hc))
        clear r0 r1 r2 r3' r4 r5 r6 r7 r8
        refine (HR.out _).mono ?_
        rintro en w ⟨rfl, hx⟩
        replace st := st.ext hx
        clear hx
        (try clear hc); have hc := st.facts; (try simp only [nfl, nft, Nat.reduceAdd] at hc)
        cases hr : credR x with
        | false =>
          clear hr
          go_wp2_with ((first
                | ((with_reducible refine wl_box ?_ (fun K hK => ?_)); rfl; refine owp_box (o := ⟨some 3, _, _, _, _, _⟩) rfl st ?_; apply Exists.intro; refine ⟨?_, ?_⟩; (focus (go_simp; try rfl)); (clear st; intro b3 w hb st; clear hb))
                | ((with_reducible refine wl_alloc ?_ (fun K hK => ?_)); rfl; refine owp_alloc (o := ⟨some 13, _, _, _, _, _⟩) rfl st ?_; apply Exists.intro; apply Exists.intro; refine ⟨?_, ?_⟩; (focus (first | (go_simp; done) | (go_simp; rfl))); (clear st; intro b13 w hb st; clear hb))
                | ((with_reducible refine wl_store ?_ (fun K hK => ?_)); rfl; refine owp_store rfl st ?_; apply Exists.intro; apply Exists.intro; refine ⟨?_, ?_, ?_⟩; (focus (go_simp; try rfl)); (focus (go_simp; try rfl)); (first | (with_reducible refine ⟨0, _, _, _, _, get0, rfl, rfl, ?_, ?_, ?_, ?_⟩) | (with_reducible refine ⟨1, _, _, _, _, get1, rfl, rfl, ?_, ?_, ?_, ?_⟩) | (with_reducible refine ⟨2, _, _, _, _, get2, rfl, rfl, ?_, ?_, ?_, ?_⟩) | (with_reducible refine ⟨3, _, _, _, _, get3, rfl, rfl, ?_, ?_, ?_, ?_⟩) | (with_reducible refine ⟨4, _, _, _, _, get4, rfl, rfl, ?_, ?_, ?_, ?_⟩) | (with_reducible refine ⟨5, _, _, _, _, get5, rfl, rfl, ?_, ?_, ?_, ?_⟩) | (with_reducible refine ⟨6, _, _, _, _, get6, rfl, rfl, ?_, ?_, ?_, ?_⟩) | (with_reducible refine ⟨7, _, _, _, _, get7, rfl, rfl, ?_, ?_, ?_, ?_⟩) | (with_reducible refine ⟨8, _, _, _, _, get8, rfl, rfl, ?_, ?_, ?_, ?_⟩) | (with_reducible refine ⟨9, _, _, _, _, get9, rfl, rfl, ?_, ?_, ?_, ?_⟩)); (kernel_rfl); (simp [Value.cells]); (rfl); (clear st; intro w st))
                | ((with_reducible refine wl_alloc ?_ (fun K hK => ?_)); rfl; refine owp_alloc (o := ⟨some 15, _, _, _, _, _⟩) rfl st ?_; apply Exists.intro; apply Exists.intro; refine ⟨?_, ?_⟩; (focus (first | (go_simp; done) | (go_simp; rfl))); (clear st; intro b15 w hb st; clear hb))); (try simp only [nsl, Value.cells, unB] at st); (try clear hc); have hc := st.facts; (try simp only [nfl, nft, Nat.reduceAdd] at hc))
          have st' := st.keep [0, 1, 2, 3, 4, 5, 6, 7] (by decide) (by simp)
          go_roundg (n0 - (j + 1))
          case measure => omega
          case rel => exact ⟨j + 1, by omega, by omega, by go_num, by simpa [pick] using st'⟩
        | true =>
          go_wp2_with ((first
                | ((with_reducible refine wl_box ?_ (fun K hK => ?_)); rfl; refine owp_box (o := ⟨some 3, _, _, _, _, _⟩) rfl st ?_; apply Exists.intro; refine ⟨?_, ?_⟩; (focus (go_simp; try rfl)); (clear st; intro b3 w hb st; clear hb))
                | ((with_reducible refine wl_alloc ?_ (fun K hK => ?_)); rfl; refine owp_alloc (o := ⟨some 13, _, _, _, _, _⟩) rfl st ?_; apply Exists.intro; apply Exists.intro; refine ⟨?_, ?_⟩; (focus (first | (go_simp; done) | (go_simp; rfl))); (clear st; intro b13 w hb st; clear hb))
                | ((with_reducible refine wl_store ?_ (fun K hK => ?_)); rfl; refine owp_store rfl st ?_; apply Exists.intro; apply Exists.intro; refine ⟨?_, ?_, ?_⟩; (focus (go_simp; try rfl)); (focus (go_simp; try rfl)); (first | (with_reducible refine ⟨0, _, _, _, _, get0, rfl, rfl, ?_, ?_, ?_, ?_⟩) | (with_reducible refine ⟨1, _, _, _, _, get1, rfl, rfl, ?_, ?_, ?_, ?_⟩) | (with_reducible refine ⟨2, _, _, _, _, get2, rfl, rfl, ?_, ?_, ?_, ?_⟩) | (with_reducible refine ⟨3, _, _, _, _, get3, rfl, rfl, ?_, ?_, ?_, ?_⟩) | (with_reducible refine ⟨4, _, _, _, _, get4, rfl, rfl, ?_, ?_, ?_, ?_⟩) | (with_reducible refine ⟨5, _, _, _, _, get5, rfl, rfl, ?_, ?_, ?_, ?_⟩) | (with_reducible refine ⟨6, _, _, _, _, get6, rfl, rfl, ?_, ?_, ?_, ?_⟩) | (with_reducible refine ⟨7, _, _, _, _, get7, rfl, rfl, ?_, ?_, ?_, ?_⟩) | (with_reducible refine ⟨8, _, _, _, _, get8, rfl, rfl, ?_, ?_, ?_, ?_⟩) | (with_reducible refine ⟨9, _, _, _, _, get9, rfl, rfl, ?_, ?_, ?_, ?_⟩)); (kernel_rfl); (simp [Value.cells]); (rfl); (clear st; intro w st))
                | ((with_reducible refine wl_alloc ?_ (fun K hK => ?_)); rfl; refine owp_alloc (o := ⟨some 15, _, _, _, _, _⟩) rfl st ?_; apply Exists.intro; apply Exists.intro; refine ⟨?_, ?_⟩; (focus (first | (go_simp; done) | (go_simp; rfl))); (clear st; intro b15 w hb st; clear hb))); (try simp only [nsl, Value.cells, unB] at st); (try clear hc); have hc := st.facts; (try simp only [nfl, nft, Nat.reduceAdd] at hc))
          obtain ⟨fr', al', st', back⟩ := st.sub [1, 0] (by decide) (by simp)
          (try simp only [nsl, Value.cells, unB] at st')
          refine (HT1.out hr _ _ _ _ _ _ st').mono ?_
          clear st'
          rintro en w ⟨rfl, st'⟩
          replace st := back _ _ (by simp) st'
          clear back st'
          (try simp only [nsl, Value.cells, unB] at st)
          (try clear hc); have hc := st.facts; (try simp only [nfl, nft, Nat.reduceAdd] at hc)
          go_wp2_with ((first
                | ((with_reducible refine wl_box ?_ (fun K hK => ?_)); rfl; refine owp_box (o := ⟨some 3, _, _, _, _, _⟩) rfl st ?_; apply Exists.intro; refine ⟨?_, ?_⟩; (focus (go_simp; try rfl)); (clear st; intro b3 w hb st; clear hb))
                | ((with_reducible refine wl_alloc ?_ (fun K hK => ?_)); rfl; refine owp_alloc (o := ⟨some 13, _, _, _, _, _⟩) rfl st ?_; apply Exists.intro; apply Exists.intro; refine ⟨?_, ?_⟩; (focus (first | (go_simp; done) | (go_simp; rfl))); (clear st; intro b13 w hb st; clear hb))
                | ((with_reducible refine wl_store ?_ (fun K hK => ?_)); rfl; refine owp_store rfl st ?_; apply Exists.intro; apply Exists.intro; refine ⟨?_, ?_, ?_⟩; (focus (go_simp; try rfl)); (focus (go_simp; try rfl)); (first | (with_reducible refine ⟨0, _, _, _, _, get0, rfl, rfl, ?_, ?_, ?_, ?_⟩) | (with_reducible refine ⟨1, _, _, _, _, get1, rfl, rfl, ?_, ?_, ?_, ?_⟩) | (with_reducible refine ⟨2, _, _, _, _, get2, rfl, rfl, ?_, ?_, ?_, ?_⟩) | (with_reducible refine ⟨3, _, _, _, _, get3, rfl, rfl, ?_, ?_, ?_, ?_⟩) | (with_reducible refine ⟨4, _, _, _, _, get4, rfl, rfl, ?_, ?_, ?_, ?_⟩) | (with_reducible refine ⟨5, _, _, _, _, get5, rfl, rfl, ?_, ?_, ?_, ?_⟩) | (with_reducible refine ⟨6, _, _, _, _, get6, rfl, rfl, ?_, ?_, ?_, ?_⟩) | (with_reducible refine ⟨7, _, _, _, _, get7, rfl, rfl, ?_, ?_, ?_, ?_⟩) | (with_reducible refine ⟨8, _, _, _, _, get8, rfl, rfl, ?_, ?_, ?_, ?_⟩) | (with_reducible refine ⟨9, _, _, _, _, get9, rfl, rfl, ?_, ?_, ?_, ?_⟩)); (kernel_rfl); (simp [Value.cells]); (rfl); (clear st; intro w st))
                | ((with_reducible refine wl_alloc ?_ (fun K hK => ?_)); rfl; refine owp_alloc (o := ⟨some 15, _, _, _, _, _⟩) rfl st ?_; apply Exists.intro; apply Exists.intro; refine ⟨?_, ?_⟩; (focus (first | (go_simp; done) | (go_simp; rfl))); (clear st; intro b15 w hb st; clear hb))); (try simp only [nsl, Value.cells, unB] at st); (try clear hc); have hc := st.facts; (try simp only [nfl, nft, Nat.reduceAdd] at hc))
          obtain ⟨fr', al', st', back⟩ := st.sub [6, 7] (by decide) (by simp)
          (try simp only [nsl, Value.cells, unB] at st')
          refine (HT2.out hr _ _ _ _ _ _ st').mono ?_
          clear st'
          rintro en w ⟨rfl, st'⟩
          replace st := back _ _ (by simp) st'
          clear back st'
          (try simp only [nsl, Value.cells, unB] at st)
          (try clear hc); have hc := st.facts; (try simp only [nfl, nft, Nat.reduceAdd] at hc)
          clear hr
          go_wp2_with ((first
                | ((with_reducible refine wl_box ?_ (fun K hK => ?_)); rfl; refine owp_box (o := ⟨some 3, _, _, _, _, _⟩) rfl st ?_; apply Exists.intro; refine ⟨?_, ?_⟩; (focus (go_simp; try rfl)); (clear st; intro b3 w hb st; clear hb))
                | ((with_reducible refine wl_alloc ?_ (fun K hK => ?_)); rfl; refine owp_alloc (o := ⟨some 13, _, _, _, _, _⟩) rfl st ?_; apply Exists.intro; apply Exists.intro; refine ⟨?_, ?_⟩; (focus (first | (go_simp; done) | (go_simp; rfl))); (clear st; intro b13 w hb st; clear hb))
                | ((with_reducible refine wl_store ?_ (fun K hK => ?_)); rfl; refine owp_store rfl st ?_; apply Exists.intro; apply Exists.intro; refine ⟨?_, ?_, ?_⟩; (focus (go_simp; try rfl)); (focus (go_simp; try rfl)); (first | (with_reducible refine ⟨0, _, _, _, _, get0, rfl, rfl, ?_, ?_, ?_, ?_⟩) | (with_reducible refine ⟨1, _, _, _, _, get1, rfl, rfl, ?_, ?_, ?_, ?_⟩) | (with_reducible refine ⟨2, _, _, _, _, get2, rfl, rfl, ?_, ?_, ?_, ?_⟩) | (with_reducible refine ⟨3, _, _, _, _, get3, rfl, rfl, ?_, ?_, ?_, ?_⟩) | (with_reducible refine ⟨4, _, _, _, _, get4, rfl, rfl, ?_, ?_, ?_, ?_⟩) | (with_reducible refine ⟨5, _, _, _, _, get5, rfl, rfl, ?_, ?_, ?_, ?_⟩) | (with_reducible refine ⟨6, _, _, _, _, get6, rfl, rfl, ?_, ?_, ?_, ?_⟩) | (with_reducible refine ⟨7, _, _, _, _, get7, rfl, rfl, ?_, ?_, ?_, ?_⟩) | (with_reducible refine ⟨8, _, _, _, _, get8, rfl, rfl, ?_, ?_, ?_, ?_⟩) | (with_reducible refine ⟨9, _, _, _, _, get9, rfl, rfl, ?_, ?_, ?_, ?_⟩)); (kernel_rfl); (simp [Value.cells]); (rfl); (clear st; intro w st))
                | ((with_reducible refine wl_alloc ?_ (fun K hK => ?_)); rfl; refine owp_alloc (o := ⟨some 15, _, _, _, _, _⟩) rfl st ?_; apply Exists.intro; apply Exists.intro; refine ⟨?_, ?_⟩; (focus (first | (go_simp; done) | (go_simp; rfl))); (clear st; intro b15 w hb st; clear hb))); (try simp only [nsl, Value.cells, unB] at st); (try clear hc); have hc := st.facts; (try simp only [nfl, nft, Nat.reduceAdd] at hc))
          have st' := st.keep [0, 1, 2, 3, 4, 5, 6, 7] (by decide) (by simp)
          go_roundg (n0 - (j + 1))
          case measure => omega
          case rel => exact ⟨j + 1, by omega, by omega, by go_num, by simpa [pick] using st'⟩
      · obtain rfl : n0 = j := by omega
        (try simp only [nsl, Value.cells, unB] at st)
        (try clear hc); have hc := st.facts; (try simp only [nfl, nft, Nat.reduceAdd] at hc)
        go_wp2_with ((first
              | ((with_reducible refine wl_box ?_ (fun K hK => ?_)); rfl; refine owp_box (o := ⟨some 3, _, _, _, _, _⟩) rfl st ?_; apply Exists.intro; refine ⟨?_, ?_⟩; (focus (go_simp; try rfl)); (clear st; intro b3 w hb st; clear hb))
              | ((with_reducible refine wl_alloc ?_ (fun K hK => ?_)); rfl; refine owp_alloc (o := ⟨some 13, _, _, _, _, _⟩) rfl st ?_; apply Exists.intro; apply Exists.intro; refine ⟨?_, ?_⟩; (focus (first | (go_simp; done) | (go_simp; rfl))); (clear st; intro b13 w hb st; clear hb))
              | ((with_reducible refine wl_store ?_ (fun K hK => ?_)); rfl; refine owp_store rfl st ?_; apply Exists.intro; apply Exists.intro; refine ⟨?_, ?_, ?_⟩; (focus (go_simp; try rfl)); (focus (go_simp; try rfl)); (first | (with_reducible refine ⟨0, _, _, _, _, get0, rfl, rfl, ?_, ?_, ?_, ?_⟩) | (with_reducible refine ⟨1, _, _, _, _, get1, rfl, rfl, ?_, ?_, ?_, ?_⟩) | (with_reducible refine ⟨2, _, _, _, _, get2, rfl, rfl, ?_, ?_, ?_, ?_⟩) | (with_reducible refine ⟨3, _, _, _, _, get3, rfl, rfl, ?_, ?_, ?_, ?_⟩) | (with_reducible refine ⟨4, _, _, _, _, get4, rfl, rfl, ?_, ?_, ?_, ?_⟩) | (with_reducible refine ⟨5, _, _, _, _, get5, rfl, rfl, ?_, ?_, ?_, ?_⟩) | (with_reducible refine ⟨6, _, _, _, _, get6, rfl, rfl, ?_, ?_, ?_, ?_⟩) | (with_reducible refine ⟨7, _, _, _, _, get7, rfl, rfl, ?_, ?_, ?_, ?_⟩) | (with_reducible refine ⟨8, _, _, _, _, get8, rfl, rfl, ?_, ?_, ?_, ?_⟩) | (with_reducible refine ⟨9, _, _, _, _, get9, rfl, rfl, ?_, ?_, ?_, ?_⟩)); (kernel_rfl); (simp [Value.cells]); (rfl); (clear st; intro w st))
              | ((with_reducible refine wl_alloc ?_ (fun K hK => ?_)); rfl; refine owp_alloc (o := ⟨some 15, _, _, _, _, _⟩) rfl st ?_; apply Exists.intro; apply Exists.intro; refine ⟨?_, ?_⟩; (focus (first | (go_simp; done) | (go_simp; rfl))); (clear st; intro b15 w hb st; clear hb))); (try simp only [nsl, Value.cells, unB] at st); (try clear hc); have hc := st.facts; (try simp only [nfl, nft, Nat.reduceAdd] at hc))
        go_loopg [88] n1 (fun q i wr => ∃ (j : Nat), j ≤ n1 ∧ q = n1 - j ∧ i = .int .i64 (j : Int) ∧ Own (fun _ => False) (fun _ => True) W [byI (some ⟨g1, 0, none⟩) m ga, blkI p1 [.slice (some ⟨g1, 0, none⟩) m m, .int .i64 (k : Int)], byI (some ⟨g2, 0, none⟩) m gb, blkI p2 [.slice (some ⟨g2, 0, none⟩) m m, .int .i64 (k : Int)], flI a0 n0 la, flI a1 n1 lb, blkI r3 [.slice a3 m c3, .int .i64 (k : Int)], byI a3 m gj] wr)
        case atStart => exact ⟨0, by omega, by omega, rfl, st⟩
        case round =>
          obtain ⟨j, hj, rfl, rfl, st'⟩ := hrel
          clear st hc
          have st := st'
          clear st'
          by_cases hjn : j < n1
          · obtain ⟨b, off, ha, hcell⟩ := (st.flAt (i := 5) get5).cred (by omega)
            have hjl : j < lb.length := by have := HNB.out; omega
            have hcc := hcell j lb[j] (List.getElem?_eq_getElem hjl)
            obtain ⟨r0, r1, r2, r3', r4, r5, r6, r7, r8⟩ := hcc
            have hxm : lb[j] ∈ lb := List.getElem_mem hjl
            have hxl := HCB.out _ hxm
            have hm1 := HMB.out _ hxm
            have hm2 := HJB.out _ hxm
            obtain ⟨x, hx⟩ : ∃ x, lb[j] = x := ⟨_, rfl⟩
            rw [hx] at hxl hm1 hm2 r0 r1 r2 r3' r4 r5 r6 r7 r8
            clear hcell hx hjl hxm
            subst ha
            have HR := Lib.hid (fun W => refCredRight_any x W (CLenS.big hxl))
            have HT1 := Lib.hid (fun hr (fr al : Nat → Prop) (W : World) (p sc : Nat) (sa : Option Addr) (st : Own fr al W [blkI p [.slice sa m sc, .int .i64 (k : Int)], byI sa m gb] W) => hm1 hr ▸ svMayB_c x st hxl.L HGB.out hm hk)
            have HT2 := Lib.hid (fun hr (fr al : Nat → Prop) (W : World) (p sc : Nat) (sa : Option Addr) (st : Own fr al W [blkI p [.slice sa m sc, .int .i64 (k : Int)], byI sa m gj] W) => hm2 hr ▸ svMayB_c x st hxl.L HGJ.out hm hk)
            clear hm1 hm2 hxl
            unfold S at r1 r2 r3' r4 r5 r6 r7 r8
            have HXV : Hid (cV x = .agg #[.int .i64 x.k, .string ⟨x.h.1.toArray⟩, .string ⟨x.h.2.toArray⟩, .string ⟨x.w.toArray⟩, .string ⟨x.b.1.toArray⟩, .string ⟨x.b.2.toArray⟩, .string ⟨x.c.1.toArray⟩, .string ⟨x.c.2.toArray⟩, .string ⟨x.e.toArray⟩]) := Lib.hid rfl
            rw [HXV.out] at HR HT1 HT2
            (try simp only [nsl, Value.cells, unB] at st)
            (try clear hc); have hc := st.facts; (try simp only [nfl, nft, Nat.reduceAdd] at hc)
            go_wp2_with ((first
                  | ((with_reducible refine wl_box ?_ (fun K hK => ?_)); rfl; refine owp_box (o := ⟨some 3, _, _, _, _, _⟩) rfl st ?_; apply Exists.intro; refine ⟨?_, ?_⟩; (focus (go_simp; try rfl)); (clear st; intro b3 w hb st; clear hb))
                  | ((with_reducible refine wl_alloc ?_ (fun K hK => ?_)); rfl; refine owp_alloc (o := ⟨some 13, _, _, _, _, _⟩) rfl st ?_; apply Exists.intro; apply Exists.intro; refine ⟨?_, ?_⟩; (focus (first | (go_simp; done) | (go_simp; rfl))); (clear st; intro b13 w hb st; clear hb))
                  | ((with_reducible refine wl_store ?_ (fun K hK => ?_)); rfl; refine owp_store rfl st ?_; apply Exists.intro; apply Exists.intro; refine ⟨?_, ?_, ?_⟩; (focus (go_simp; try rfl)); (focus (go_simp; try rfl)); (first | (with_reducible refine ⟨0, _, _, _, _, get0, rfl, rfl, ?_, ?_, ?_, ?_⟩) | (with_reducible refine ⟨1, _, _, _, _, get1, rfl, rfl, ?_, ?_, ?_, ?_⟩) | (with_reducible refine ⟨2, _, _, _, _, get2, rfl, rfl, ?_, ?_, ?_, ?_⟩) | (with_reducible refine ⟨3, _, _, _, _, get3, rfl, rfl, ?_, ?_, ?_, ?_⟩) | (with_reducible refine ⟨4, _, _, _, _, get4, rfl, rfl, ?_, ?_, ?_, ?_⟩) | (with_reducible refine ⟨5, _, _, _, _, get5, rfl, rfl, ?_, ?_, ?_, ?_⟩) | (with_reducible refine ⟨6, _, _, _, _, get6, rfl, rfl, ?_, ?_, ?_, ?_⟩) | (with_reducible refine ⟨7, _, _, _, _, get7, rfl, rfl, ?_, ?_, ?_, ?_⟩) | (with_reducible refine ⟨8, _, _, _, _, get8, rfl, rfl, ?_, ?_, ?_, ?_⟩) | (with_reducible refine ⟨9, _, _, _, _, get9, rfl, rfl, ?_, ?_, ?_, ?_⟩)); (kernel_rfl); (simp [Value.cells]); (rfl); (clear st; intro w st))
                  | ((with_reducible refine wl_alloc ?_ (fun K hK => ?_)); rfl; refine owp_alloc (o := ⟨some 15, _, _, _, _, _⟩) rfl st ?_; apply Exists.intro; apply Exists.intro; refine ⟨?_, ?_⟩; (focus (first | (go_simp; done) | (go_simp; rfl))); (clear st; intro b15 w hb st; clear hb))); (try simp only [nsl, Value.cells, unB] at st); (try clear hc); have hc := st.facts; (try simp only [nfl, nft, Nat.reduceAdd] at hc))
            clear r0 r1 r2 r3' r4 r5 r6 r7 r8
            refine (HR.out _).mono ?_
            rintro en w ⟨rfl, hx⟩
            replace st := st.ext hx
            clear hx
            (try clear hc); have hc := st.facts; (try simp only [nfl, nft, Nat.reduceAdd] at hc)
            cases hr : credR x with
            | false =>
              clear hr
              go_wp2_with ((first
                    | ((with_reducible refine wl_box ?_ (fun K hK => ?_)); rfl; refine owp_box (o := ⟨some 3, _, _, _, _, _⟩) rfl st ?_; apply Exists.intro; refine ⟨?_, ?_⟩; (focus (go_simp; try rfl)); (clear st; intro b3 w hb st; clear hb))
                    | ((with_reducible refine wl_alloc ?_ (fun K hK => ?_)); rfl; refine owp_alloc (o := ⟨some 13, _, _, _, _, _⟩) rfl st ?_; apply Exists.intro; apply Exists.intro; refine ⟨?_, ?_⟩; (focus (first | (go_simp; done) | (go_simp; rfl))); (clear st; intro b13 w hb st; clear hb))
                    | ((with_reducible refine wl_store ?_ (fun K hK => ?_)); rfl; refine owp_store rfl st ?_; apply Exists.intro; apply Exists.intro; refine ⟨?_, ?_, ?_⟩; (focus (go_simp; try rfl)); (focus (go_simp; try rfl)); (first | (with_reducible refine ⟨0, _, _, _, _, get0, rfl, rfl, ?_, ?_, ?_, ?_⟩) | (with_reducible refine ⟨1, _, _, _, _, get1, rfl, rfl, ?_, ?_, ?_, ?_⟩) | (with_reducible refine ⟨2, _, _, _, _, get2, rfl, rfl, ?_, ?_, ?_, ?_⟩) | (with_reducible refine ⟨3, _, _, _, _, get3, rfl, rfl, ?_, ?_, ?_, ?_⟩) | (with_reducible refine ⟨4, _, _, _, _, get4, rfl, rfl, ?_, ?_, ?_, ?_⟩) | (with_reducible refine ⟨5, _, _, _, _, get5, rfl, rfl, ?_, ?_, ?_, ?_⟩) | (with_reducible refine ⟨6, _, _, _, _, get6, rfl, rfl, ?_, ?_, ?_, ?_⟩) | (with_reducible refine ⟨7, _, _, _, _, get7, rfl, rfl, ?_, ?_, ?_, ?_⟩) | (with_reducible refine ⟨8, _, _, _, _, get8, rfl, rfl, ?_, ?_, ?_, ?_⟩) | (with_reducible refine ⟨9, _, _, _, _, get9, rfl, rfl, ?_, ?_, ?_, ?_⟩)); (kernel_rfl); (simp [Value.cells]); (rfl); (clear st; intro w st))
                    | ((with_reducible refine wl_alloc ?_ (fun K hK => ?_)); rfl; refine owp_alloc (o := ⟨some 15, _, _, _, _, _⟩) rfl st ?_; apply Exists.intro; apply Exists.intro; refine ⟨?_, ?_⟩; (focus (first | (go_simp; done) | (go_simp; rfl))); (clear st; intro b15 w hb st; clear hb))); (try simp only [nsl, Value.cells, unB] at st); (try clear hc); have hc := st.facts; (try simp only [nfl, nft, Nat.reduceAdd] at hc))
              have st' := st.keep [0, 1, 2, 3, 4, 5, 6, 7] (by decide) (by simp)
              go_roundg (n1 - (j + 1))
              case measure => omega
              case rel => exact ⟨j + 1, by omega, by omega, by go_num, by simpa [pick] using st'⟩
            | true =>
              go_wp2_with ((first
                    | ((with_reducible refine wl_box ?_ (fun K hK => ?_)); rfl; refine owp_box (o := ⟨some 3, _, _, _, _, _⟩) rfl st ?_; apply Exists.intro; refine ⟨?_, ?_⟩; (focus (go_simp; try rfl)); (clear st; intro b3 w hb st; clear hb))
                    | ((with_reducible refine wl_alloc ?_ (fun K hK => ?_)); rfl; refine owp_alloc (o := ⟨some 13, _, _, _, _, _⟩) rfl st ?_; apply Exists.intro; apply Exists.intro; refine ⟨?_, ?_⟩; (focus (first | (go_simp; done) | (go_simp; rfl))); (clear st; intro b13 w hb st; clear hb))
                    | ((with_reducible refine wl_store ?_ (fun K hK => ?_)); rfl; refine owp_store rfl st ?_; apply Exists.intro; apply Exists.intro; refine ⟨?_, ?_, ?_⟩; (focus (go_simp; try rfl)); (focus (go_simp; try rfl)); (first | (with_reducible refine ⟨0, _, _, _, _, get0, rfl, rfl, ?_, ?_, ?_, ?_⟩) | (with_reducible refine ⟨1, _, _, _, _, get1, rfl, rfl, ?_, ?_, ?_, ?_⟩) | (with_reducible refine ⟨2, _, _, _, _, get2, rfl, rfl, ?_, ?_, ?_, ?_⟩) | (with_reducible refine ⟨3, _, _, _, _, get3, rfl, rfl, ?_, ?_, ?_, ?_⟩) | (with_reducible refine ⟨4, _, _, _, _, get4, rfl, rfl, ?_, ?_, ?_, ?_⟩) | (with_reducible refine ⟨5, _, _, _, _, get5, rfl, rfl, ?_, ?_, ?_, ?_⟩) | (with_reducible refine ⟨6, _, _, _, _, get6, rfl, rfl, ?_, ?_, ?_, ?_⟩) | (with_reducible refine ⟨7, _, _, _, _, get7, rfl, rfl, ?_, ?_, ?_, ?_⟩) | (with_reducible refine ⟨8, _, _, _, _, get8, rfl, rfl, ?_, ?_, ?_, ?_⟩) | (with_reducible refine ⟨9, _, _, _, _, get9, rfl, rfl, ?_, ?_, ?_, ?_⟩)); (kernel_rfl); (simp [Value.cells]); (rfl); (clear st; intro w st))
                    | ((with_reducible refine wl_alloc ?_ (fun K hK => ?_)); rfl; refine owp_alloc (o := ⟨some 15, _, _, _, _, _⟩) rfl st ?_; apply Exists.intro; apply Exists.intro; refine ⟨?_, ?_⟩; (focus (first | (go_simp; done) | (go_simp; rfl))); (clear st; intro b15 w hb st; clear hb))); (try simp only [nsl, Value.cells, unB] at st); (try clear hc); have hc := st.facts; (try simp only [nfl, nft, Nat.reduceAdd] at hc))
              obtain ⟨fr', al', st', back⟩ := st.sub [3, 2] (by decide) (by simp)
              (try simp only [nsl, Value.cells, unB] at st')
              refine (HT1.out hr _ _ _ _ _ _ st').mono ?_
              clear st'
              rintro en w ⟨rfl, st'⟩
              replace st := back _ _ (by simp) st'
              clear back st'
              (try simp only [nsl, Value.cells, unB] at st)
              (try clear hc); have hc := st.facts; (try simp only [nfl, nft, Nat.reduceAdd] at hc)
              go_wp2_with ((first
                    | ((with_reducible refine wl_box ?_ (fun K hK => ?_)); rfl; refine owp_box (o := ⟨some 3, _, _, _, _, _⟩) rfl st ?_; apply Exists.intro; refine ⟨?_, ?_⟩; (focus (go_simp; try rfl)); (clear st; intro b3 w hb st; clear hb))
                    | ((with_reducible refine wl_alloc ?_ (fun K hK => ?_)); rfl; refine owp_alloc (o := ⟨some 13, _, _, _, _, _⟩) rfl st ?_; apply Exists.intro; apply Exists.intro; refine ⟨?_, ?_⟩; (focus (first | (go_simp; done) | (go_simp; rfl))); (clear st; intro b13 w hb st; clear hb))
                    | ((with_reducible refine wl_store ?_ (fun K hK => ?_)); rfl; refine owp_store rfl st ?_; apply Exists.intro; apply Exists.intro; refine ⟨?_, ?_, ?_⟩; (focus (go_simp; try rfl)); (focus (go_simp; try rfl)); (first | (with_reducible refine ⟨0, _, _, _, _, get0, rfl, rfl, ?_, ?_, ?_, ?_⟩) | (with_reducible refine ⟨1, _, _, _, _, get1, rfl, rfl, ?_, ?_, ?_, ?_⟩) | (with_reducible refine ⟨2, _, _, _, _, get2, rfl, rfl, ?_, ?_, ?_, ?_⟩) | (with_reducible refine ⟨3, _, _, _, _, get3, rfl, rfl, ?_, ?_, ?_, ?_⟩) | (with_reducible refine ⟨4, _, _, _, _, get4, rfl, rfl, ?_, ?_, ?_, ?_⟩) | (with_reducible refine ⟨5, _, _, _, _, get5, rfl, rfl, ?_, ?_, ?_, ?_⟩) | (with_reducible refine ⟨6, _, _, _, _, get6, rfl, rfl, ?_, ?_, ?_, ?_⟩) | (with_reducible refine ⟨7, _, _, _, _, get7, rfl, rfl, ?_, ?_, ?_, ?_⟩) | (with_reducible refine ⟨8, _, _, _, _, get8, rfl, rfl, ?_, ?_, ?_, ?_⟩) | (with_reducible refine ⟨9, _, _, _, _, get9, rfl, rfl, ?_, ?_, ?_, ?_⟩)); (kernel_rfl); (simp [Value.cells]); (rfl); (clear st; intro w st))
                    | ((with_reducible refine wl_alloc ?_ (fun K hK => ?_)); rfl; refine owp_alloc (o := ⟨some 15, _, _, _, _, _⟩) rfl st ?_; apply Exists.intro; apply Exists.intro; refine ⟨?_, ?_⟩; (focus (first | (go_simp; done) | (go_simp; rfl))); (clear st; intro b15 w hb st; clear hb))); (try simp only [nsl, Value.cells, unB] at st); (try clear hc); have hc := st.facts; (try simp only [nfl, nft, Nat.reduceAdd] at hc))
              obtain ⟨fr', al', st', back⟩ := st.sub [6, 7] (by decide) (by simp)
              (try simp only [nsl, Value.cells, unB] at st')
              refine (HT2.out hr _ _ _ _ _ _ st').mono ?_
              clear st'
              rintro en w ⟨rfl, st'⟩
              replace st := back _ _ (by simp) st'
              clear back st'
              (try simp only [nsl, Value.cells, unB] at st)
              (try clear hc); have hc := st.facts; (try simp only [nfl, nft, Nat.reduceAdd] at hc)
              clear hr
              go_wp2_with ((first
                    | ((with_reducible refine wl_box ?_ (fun K hK => ?_)); rfl; refine owp_box (o := ⟨some 3, _, _, _, _, _⟩) rfl st ?_; apply Exists.intro; refine ⟨?_, ?_⟩; (focus (go_simp; try rfl)); (clear st; intro b3 w hb st; clear hb))
                    | ((with_reducible refine wl_alloc ?_ (fun K hK => ?_)); rfl; refine owp_alloc (o := ⟨some 13, _, _, _, _, _⟩) rfl st ?_; apply Exists.intro; apply Exists.intro; refine ⟨?_, ?_⟩; (focus (first | (go_simp; done) | (go_simp; rfl))); (clear st; intro b13 w hb st; clear hb))
                    | ((with_reducible refine wl_store ?_ (fun K hK => ?_)); rfl; refine owp_store rfl st ?_; apply Exists.intro; apply Exists.intro; refine ⟨?_, ?_, ?_⟩; (focus (go_simp; try rfl)); (focus (go_simp; try rfl)); (first | (with_reducible refine ⟨0, _, _, _, _, get0, rfl, rfl, ?_, ?_, ?_, ?_⟩) | (with_reducible refine ⟨1, _, _, _, _, get1, rfl, rfl, ?_, ?_, ?_, ?_⟩) | (with_reducible refine ⟨2, _, _, _, _, get2, rfl, rfl, ?_, ?_, ?_, ?_⟩) | (with_reducible refine ⟨3, _, _, _, _, get3, rfl, rfl, ?_, ?_, ?_, ?_⟩) | (with_reducible refine ⟨4, _, _, _, _, get4, rfl, rfl, ?_, ?_, ?_, ?_⟩) | (with_reducible refine ⟨5, _, _, _, _, get5, rfl, rfl, ?_, ?_, ?_, ?_⟩) | (with_reducible refine ⟨6, _, _, _, _, get6, rfl, rfl, ?_, ?_, ?_, ?_⟩) | (with_reducible refine ⟨7, _, _, _, _, get7, rfl, rfl, ?_, ?_, ?_, ?_⟩) | (with_reducible refine ⟨8, _, _, _, _, get8, rfl, rfl, ?_, ?_, ?_, ?_⟩) | (with_reducible refine ⟨9, _, _, _, _, get9, rfl, rfl, ?_, ?_, ?_, ?_⟩)); (kernel_rfl); (simp [Value.cells]); (rfl); (clear st; intro w st))
                    | ((with_reducible refine wl_alloc ?_ (fun K hK => ?_)); rfl; refine owp_alloc (o := ⟨some 15, _, _, _, _, _⟩) rfl st ?_; apply Exists.intro; apply Exists.intro; refine ⟨?_, ?_⟩; (focus (first | (go_simp; done) | (go_simp; rfl))); (clear st; intro b15 w hb st; clear hb))); (try simp only [nsl, Value.cells, unB] at st); (try clear hc); have hc := st.facts; (try simp only [nfl, nft, Nat.reduceAdd] at hc))
              have st' := st.keep [0, 1, 2, 3, 4, 5, 6, 7] (by decide) (by simp)
              go_roundg (n1 - (j + 1))
              case measure => omega
              case rel => exact ⟨j + 1, by omega, by omega, by go_num, by simpa [pick] using st'⟩
          · obtain rfl : n1 = j := by omega
            have hmx : max (sa : Int) (sb : Int) ≤ (sj : Int) := by omega
            have hws : IntKind.i64.wrap ((sa : Int) + (sb : Int)) = (sa : Int) + (sb : Int) := IntWalk.i64_in _ ⟨by omega, by omega⟩
            have hsu : (sj : Int) ≤ (sa : Int) + (sb : Int) := by omega
            (try simp only [nsl, Value.cells, unB] at st)
            (try clear hc); have hc := st.facts; (try simp only [nfl, nft, Nat.reduceAdd] at hc)
            go_wp2_with ((first
                  | ((with_reducible refine wl_box ?_ (fun K hK => ?_)); rfl; refine owp_box (o := ⟨some 3, _, _, _, _, _⟩) rfl st ?_; apply Exists.intro; refine ⟨?_, ?_⟩; (focus (go_simp; try rfl)); (clear st; intro b3 w hb st; clear hb))
                  | ((with_reducible refine wl_alloc ?_ (fun K hK => ?_)); rfl; refine owp_alloc (o := ⟨some 13, _, _, _, _, _⟩) rfl st ?_; apply Exists.intro; apply Exists.intro; refine ⟨?_, ?_⟩; (focus (first | (go_simp; done) | (go_simp; rfl))); (clear st; intro b13 w hb st; clear hb))
                  | ((with_reducible refine wl_store ?_ (fun K hK => ?_)); rfl; refine owp_store rfl st ?_; apply Exists.intro; apply Exists.intro; refine ⟨?_, ?_, ?_⟩; (focus (go_simp; try rfl)); (focus (go_simp; try rfl)); (first | (with_reducible refine ⟨0, _, _, _, _, get0, rfl, rfl, ?_, ?_, ?_, ?_⟩) | (with_reducible refine ⟨1, _, _, _, _, get1, rfl, rfl, ?_, ?_, ?_, ?_⟩) | (with_reducible refine ⟨2, _, _, _, _, get2, rfl, rfl, ?_, ?_, ?_, ?_⟩) | (with_reducible refine ⟨3, _, _, _, _, get3, rfl, rfl, ?_, ?_, ?_, ?_⟩) | (with_reducible refine ⟨4, _, _, _, _, get4, rfl, rfl, ?_, ?_, ?_, ?_⟩) | (with_reducible refine ⟨5, _, _, _, _, get5, rfl, rfl, ?_, ?_, ?_, ?_⟩) | (with_reducible refine ⟨6, _, _, _, _, get6, rfl, rfl, ?_, ?_, ?_, ?_⟩) | (with_reducible refine ⟨7, _, _, _, _, get7, rfl, rfl, ?_, ?_, ?_, ?_⟩) | (with_reducible refine ⟨8, _, _, _, _, get8, rfl, rfl, ?_, ?_, ?_, ?_⟩) | (with_reducible refine ⟨9, _, _, _, _, get9, rfl, rfl, ?_, ?_, ?_, ?_⟩)); (kernel_rfl); (simp [Value.cells]); (rfl); (clear st; intro w st))
                  | ((with_reducible refine wl_alloc ?_ (fun K hK => ?_)); rfl; refine owp_alloc (o := ⟨some 15, _, _, _, _, _⟩) rfl st ?_; apply Exists.intro; apply Exists.intro; refine ⟨?_, ?_⟩; (focus (first | (go_simp; done) | (go_simp; rfl))); (clear st; intro b15 w hb st; clear hb))); (try simp only [nsl, Value.cells, unB] at st); (try clear hc); have hc := st.facts; (try simp only [nfl, nft, Nat.reduceAdd] at hc))
            obtain ⟨fr', al', st', back⟩ := st.sub [6, 7] (by decide) (by simp)
            (try simp only [nsl, Value.cells, unB] at st')
            refine (HS3.out _ _ _ _ _ _ st').mono ?_
            clear st'
            rintro en w ⟨rfl, st'⟩
            replace st := back _ _ (by simp) st'
            clear back st'
            (try simp only [nsl, Value.cells, unB] at st)
            (try clear hc); have hc := st.facts; (try simp only [nfl, nft, Nat.reduceAdd] at hc)
            go_wp2_with ((first
                  | ((with_reducible refine wl_box ?_ (fun K hK => ?_)); rfl; refine owp_box (o := ⟨some 3, _, _, _, _, _⟩) rfl st ?_; apply Exists.intro; refine ⟨?_, ?_⟩; (focus (go_simp; try rfl)); (clear st; intro b3 w hb st; clear hb))
                  | ((with_reducible refine wl_alloc ?_ (fun K hK => ?_)); rfl; refine owp_alloc (o := ⟨some 13, _, _, _, _, _⟩) rfl st ?_; apply Exists.intro; apply Exists.intro; refine ⟨?_, ?_⟩; (focus (first | (go_simp; done) | (go_simp; rfl))); (clear st; intro b13 w hb st; clear hb))
                  | ((with_reducible refine wl_store ?_ (fun K hK => ?_)); rfl; refine owp_store rfl st ?_; apply Exists.intro; apply Exists.intro; refine ⟨?_, ?_, ?_⟩; (focus (go_simp; try rfl)); (focus (go_simp; try rfl)); (first | (with_reducible refine ⟨0, _, _, _, _, get0, rfl, rfl, ?_, ?_, ?_, ?_⟩) | (with_reducible refine ⟨1, _, _, _, _, get1, rfl, rfl, ?_, ?_, ?_, ?_⟩) | (with_reducible refine ⟨2, _, _, _, _, get2, rfl, rfl, ?_, ?_, ?_, ?_⟩) | (with_reducible refine ⟨3, _, _, _, _, get3, rfl, rfl, ?_, ?_, ?_, ?_⟩) | (with_reducible refine ⟨4, _, _, _, _, get4, rfl, rfl, ?_, ?_, ?_, ?_⟩) | (with_reducible refine ⟨5, _, _, _, _, get5, rfl, rfl, ?_, ?_, ?_, ?_⟩) | (with_reducible refine ⟨6, _, _, _, _, get6, rfl, rfl, ?_, ?_, ?_, ?_⟩) | (with_reducible refine ⟨7, _, _, _, _, get7, rfl, rfl, ?_, ?_, ?_, ?_⟩) | (with_reducible refine ⟨8, _, _, _, _, get8, rfl, rfl, ?_, ?_, ?_, ?_⟩) | (with_reducible refine ⟨9, _, _, _, _, get9, rfl, rfl, ?_, ?_, ?_, ?_⟩)); (kernel_rfl); (simp [Value.cells]); (rfl); (clear st; intro w st))
                  | ((with_reducible refine wl_alloc ?_ (fun K hK => ?_)); rfl; refine owp_alloc (o := ⟨some 15, _, _, _, _, _⟩) rfl st ?_; apply Exists.intro; apply Exists.intro; refine ⟨?_, ?_⟩; (focus (first | (go_simp; done) | (go_simp; rfl))); (clear st; intro b15 w hb st; clear hb))); (try simp only [nsl, Value.cells, unB] at st); (try clear hc); have hc := st.facts; (try simp only [nfl, nft, Nat.reduceAdd] at hc))
            obtain ⟨fr', al', st', back⟩ := st.sub [1, 0] (by decide) (by simp)
            (try simp only [nsl, Value.cells, unB] at st')
            refine (HS1.out _ _ _ _ _ _ st').mono ?_
            clear st'
            rintro en w ⟨rfl, st'⟩
            replace st := back _ _ (by simp) st'
            clear back st'
            (try simp only [nsl, Value.cells, unB] at st)
            (try clear hc); have hc := st.facts; (try simp only [nfl, nft, Nat.reduceAdd] at hc)
            go_wp2_with ((first
                  | ((with_reducible refine wl_box ?_ (fun K hK => ?_)); rfl; refine owp_box (o := ⟨some 3, _, _, _, _, _⟩) rfl st ?_; apply Exists.intro; refine ⟨?_, ?_⟩; (focus (go_simp; try rfl)); (clear st; intro b3 w hb st; clear hb))
                  | ((with_reducible refine wl_alloc ?_ (fun K hK => ?_)); rfl; refine owp_alloc (o := ⟨some 13, _, _, _, _, _⟩) rfl st ?_; apply Exists.intro; apply Exists.intro; refine ⟨?_, ?_⟩; (focus (first | (go_simp; done) | (go_simp; rfl))); (clear st; intro b13 w hb st; clear hb))
                  | ((with_reducible refine wl_store ?_ (fun K hK => ?_)); rfl; refine owp_store rfl st ?_; apply Exists.intro; apply Exists.intro; refine ⟨?_, ?_, ?_⟩; (focus (go_simp; try rfl)); (focus (go_simp; try rfl)); (first | (with_reducible refine ⟨0, _, _, _, _, get0, rfl, rfl, ?_, ?_, ?_, ?_⟩) | (with_reducible refine ⟨1, _, _, _, _, get1, rfl, rfl, ?_, ?_, ?_, ?_⟩) | (with_reducible refine ⟨2, _, _, _, _, get2, rfl, rfl, ?_, ?_, ?_, ?_⟩) | (with_reducible refine ⟨3, _, _, _, _, get3, rfl, rfl, ?_, ?_, ?_, ?_⟩) | (with_reducible refine ⟨4, _, _, _, _, get4, rfl, rfl, ?_, ?_, ?_, ?_⟩) | (with_reducible refine ⟨5, _, _, _, _, get5, rfl, rfl, ?_, ?_, ?_, ?_⟩) | (with_reducible refine ⟨6, _, _, _, _, get6, rfl, rfl, ?_, ?_, ?_, ?_⟩) | (with_reducible refine ⟨7, _, _, _, _, get7, rfl, rfl, ?_, ?_, ?_, ?_⟩) | (with_reducible refine ⟨8, _, _, _, _, get8, rfl, rfl, ?_, ?_, ?_, ?_⟩) | (with_reducible refine ⟨9, _, _, _, _, get9, rfl, rfl, ?_, ?_, ?_, ?_⟩)); (kernel_rfl); (simp [Value.cells]); (rfl); (clear st; intro w st))
                  | ((with_reducible refine wl_alloc ?_ (fun K hK => ?_)); rfl; refine owp_alloc (o := ⟨some 15, _, _, _, _, _⟩) rfl st ?_; apply Exists.intro; apply Exists.intro; refine ⟨?_, ?_⟩; (focus (first | (go_simp; done) | (go_simp; rfl))); (clear st; intro b15 w hb st; clear hb))); (try simp only [nsl, Value.cells, unB] at st); (try clear hc); have hc := st.facts; (try simp only [nfl, nft, Nat.reduceAdd] at hc))
            obtain ⟨fr', al', st', back⟩ := st.sub [3, 2] (by decide) (by simp)
            (try simp only [nsl, Value.cells, unB] at st')
            refine (HS2.out _ _ _ _ _ _ st').mono ?_
            clear st'
            rintro en w ⟨rfl, st'⟩
            replace st := back _ _ (by simp) st'
            clear back st'
            (try simp only [nsl, Value.cells, unB] at st)
            (try clear hc); have hc := st.facts; (try simp only [nfl, nft, Nat.reduceAdd] at hc)
            go_wp2_with ((first
                  | ((with_reducible refine wl_box ?_ (fun K hK => ?_)); rfl; refine owp_box (o := ⟨some 3, _, _, _, _, _⟩) rfl st ?_; apply Exists.intro; refine ⟨?_, ?_⟩; (focus (go_simp; try rfl)); (clear st; intro b3 w hb st; clear hb))
                  | ((with_reducible refine wl_alloc ?_ (fun K hK => ?_)); rfl; refine owp_alloc (o := ⟨some 13, _, _, _, _, _⟩) rfl st ?_; apply Exists.intro; apply Exists.intro; refine ⟨?_, ?_⟩; (focus (first | (go_simp; done) | (go_simp; rfl))); (clear st; intro b13 w hb st; clear hb))
                  | ((with_reducible refine wl_store ?_ (fun K hK => ?_)); rfl; refine owp_store rfl st ?_; apply Exists.intro; apply Exists.intro; refine ⟨?_, ?_, ?_⟩; (focus (go_simp; try rfl)); (focus (go_simp; try rfl)); (first | (with_reducible refine ⟨0, _, _, _, _, get0, rfl, rfl, ?_, ?_, ?_, ?_⟩) | (with_reducible refine ⟨1, _, _, _, _, get1, rfl, rfl, ?_, ?_, ?_, ?_⟩) | (with_reducible refine ⟨2, _, _, _, _, get2, rfl, rfl, ?_, ?_, ?_, ?_⟩) | (with_reducible refine ⟨3, _, _, _, _, get3, rfl, rfl, ?_, ?_, ?_, ?_⟩) | (with_reducible refine ⟨4, _, _, _, _, get4, rfl, rfl, ?_, ?_, ?_, ?_⟩) | (with_reducible refine ⟨5, _, _, _, _, get5, rfl, rfl, ?_, ?_, ?_, ?_⟩) | (with_reducible refine ⟨6, _, _, _, _, get6, rfl, rfl, ?_, ?_, ?_, ?_⟩) | (with_reducible refine ⟨7, _, _, _, _, get7, rfl, rfl, ?_, ?_, ?_, ?_⟩) | (with_reducible refine ⟨8, _, _, _, _, get8, rfl, rfl, ?_, ?_, ?_, ?_⟩) | (with_reducible refine ⟨9, _, _, _, _, get9, rfl, rfl, ?_, ?_, ?_, ?_⟩)); (kernel_rfl); (simp [Value.cells]); (rfl); (clear st; intro w st))
                  | ((with_reducible refine wl_alloc ?_ (fun K hK => ?_)); rfl; refine owp_alloc (o := ⟨some 15, _, _, _, _, _⟩) rfl st ?_; apply Exists.intro; apply Exists.intro; refine ⟨?_, ?_⟩; (focus (first | (go_simp; done) | (go_simp; rfl))); (clear st; intro b15 w hb st; clear hb))); (try simp only [nsl, Value.cells, unB] at st); (try clear hc); have hc := st.facts; (try simp only [nfl, nft, Nat.reduceAdd] at hc))
            obtain ⟨fr', al', st', back⟩ := st.sub [6, 7] (by decide) (by simp)
            (try simp only [nsl, Value.cells, unB] at st')
            refine (HS3.out _ _ _ _ _ _ st').mono ?_
            clear st'
            rintro en w ⟨rfl, st'⟩
            replace st := back _ _ (by simp) st'
            clear back st'
            (try simp only [nsl, Value.cells, unB] at st)
            (try clear hc); have hc := st.facts; (try simp only [nfl, nft, Nat.reduceAdd] at hc)
            go_wp2_with ((first
                  | ((with_reducible refine wl_box ?_ (fun K hK => ?_)); rfl; refine owp_box (o := ⟨some 3, _, _, _, _, _⟩) rfl st ?_; apply Exists.intro; refine ⟨?_, ?_⟩; (focus (go_simp; try rfl)); (clear st; intro b3 w hb st; clear hb))
                  | ((with_reducible refine wl_alloc ?_ (fun K hK => ?_)); rfl; refine owp_alloc (o := ⟨some 13, _, _, _, _, _⟩) rfl st ?_; apply Exists.intro; apply Exists.intro; refine ⟨?_, ?_⟩; (focus (first | (go_simp; done) | (go_simp; rfl))); (clear st; intro b13 w hb st; clear hb))
                  | ((with_reducible refine wl_store ?_ (fun K hK => ?_)); rfl; refine owp_store rfl st ?_; apply Exists.intro; apply Exists.intro; refine ⟨?_, ?_, ?_⟩; (focus (go_simp; try rfl)); (focus (go_simp; try rfl)); (first | (with_reducible refine ⟨0, _, _, _, _, get0, rfl, rfl, ?_, ?_, ?_, ?_⟩) | (with_reducible refine ⟨1, _, _, _, _, get1, rfl, rfl, ?_, ?_, ?_, ?_⟩) | (with_reducible refine ⟨2, _, _, _, _, get2, rfl, rfl, ?_, ?_, ?_, ?_⟩) | (with_reducible refine ⟨3, _, _, _, _, get3, rfl, rfl, ?_, ?_, ?_, ?_⟩) | (with_reducible refine ⟨4, _, _, _, _, get4, rfl, rfl, ?_, ?_, ?_, ?_⟩) | (with_reducible refine ⟨5, _, _, _, _, get5, rfl, rfl, ?_, ?_, ?_, ?_⟩) | (with_reducible refine ⟨6, _, _, _, _, get6, rfl, rfl, ?_, ?_, ?_, ?_⟩) | (with_reducible refine ⟨7, _, _, _, _, get7, rfl, rfl, ?_, ?_, ?_, ?_⟩) | (with_reducible refine ⟨8, _, _, _, _, get8, rfl, rfl, ?_, ?_, ?_, ?_⟩) | (with_reducible refine ⟨9, _, _, _, _, get9, rfl, rfl, ?_, ?_, ?_, ?_⟩)); (kernel_rfl); (simp [Value.cells]); (rfl); (clear st; intro w st))
                  | ((with_reducible refine wl_alloc ?_ (fun K hK => ?_)); rfl; refine owp_alloc (o := ⟨some 15, _, _, _, _, _⟩) rfl st ?_; apply Exists.intro; apply Exists.intro; refine ⟨?_, ?_⟩; (focus (first | (go_simp; done) | (go_simp; rfl))); (clear st; intro b15 w hb st; clear hb))); (try simp only [nsl, Value.cells, unB] at st); (try clear hc); have hc := st.facts; (try simp only [nfl, nft, Nat.reduceAdd] at hc))
            obtain ⟨fr', al', st', back⟩ := st.sub [1, 0] (by decide) (by simp)
            (try simp only [nsl, Value.cells, unB] at st')
            refine (HS1.out _ _ _ _ _ _ st').mono ?_
            clear st'
            rintro en w ⟨rfl, st'⟩
            replace st := back _ _ (by simp) st'
            clear back st'
            (try simp only [nsl, Value.cells, unB] at st)
            (try clear hc); have hc := st.facts; (try simp only [nfl, nft, Nat.reduceAdd] at hc)
            go_wp2_with ((first
                  | ((with_reducible refine wl_box ?_ (fun K hK => ?_)); rfl; refine owp_box (o := ⟨some 3, _, _, _, _, _⟩) rfl st ?_; apply Exists.intro; refine ⟨?_, ?_⟩; (focus (go_simp; try rfl)); (clear st; intro b3 w hb st; clear hb))
                  | ((with_reducible refine wl_alloc ?_ (fun K hK => ?_)); rfl; refine owp_alloc (o := ⟨some 13, _, _, _, _, _⟩) rfl st ?_; apply Exists.intro; apply Exists.intro; refine ⟨?_, ?_⟩; (focus (first | (go_simp; done) | (go_simp; rfl))); (clear st; intro b13 w hb st; clear hb))
                  | ((with_reducible refine wl_store ?_ (fun K hK => ?_)); rfl; refine owp_store rfl st ?_; apply Exists.intro; apply Exists.intro; refine ⟨?_, ?_, ?_⟩; (focus (go_simp; try rfl)); (focus (go_simp; try rfl)); (first | (with_reducible refine ⟨0, _, _, _, _, get0, rfl, rfl, ?_, ?_, ?_, ?_⟩) | (with_reducible refine ⟨1, _, _, _, _, get1, rfl, rfl, ?_, ?_, ?_, ?_⟩) | (with_reducible refine ⟨2, _, _, _, _, get2, rfl, rfl, ?_, ?_, ?_, ?_⟩) | (with_reducible refine ⟨3, _, _, _, _, get3, rfl, rfl, ?_, ?_, ?_, ?_⟩) | (with_reducible refine ⟨4, _, _, _, _, get4, rfl, rfl, ?_, ?_, ?_, ?_⟩) | (with_reducible refine ⟨5, _, _, _, _, get5, rfl, rfl, ?_, ?_, ?_, ?_⟩) | (with_reducible refine ⟨6, _, _, _, _, get6, rfl, rfl, ?_, ?_, ?_, ?_⟩) | (with_reducible refine ⟨7, _, _, _, _, get7, rfl, rfl, ?_, ?_, ?_, ?_⟩) | (with_reducible refine ⟨8, _, _, _, _, get8, rfl, rfl, ?_, ?_, ?_, ?_⟩) | (with_reducible refine ⟨9, _, _, _, _, get9, rfl, rfl, ?_, ?_, ?_, ?_⟩)); (kernel_rfl); (simp [Value.cells]); (rfl); (clear st; intro w st))
                  | ((with_reducible refine wl_alloc ?_ (fun K hK => ?_)); rfl; refine owp_alloc (o := ⟨some 15, _, _, _, _, _⟩) rfl st ?_; apply Exists.intro; apply Exists.intro; refine ⟨?_, ?_⟩; (focus (first | (go_simp; done) | (go_simp; rfl))); (clear st; intro b15 w hb st; clear hb))); (try simp only [nsl, Value.cells, unB] at st); (try clear hc); have hc := st.facts; (try simp only [nfl, nft, Nat.reduceAdd] at hc))
            obtain ⟨fr', al', st', back⟩ := st.sub [3, 2] (by decide) (by simp)
            (try simp only [nsl, Value.cells, unB] at st')
            refine (HS2.out _ _ _ _ _ _ st').mono ?_
            clear st'
            rintro en w ⟨rfl, st'⟩
            replace st := back _ _ (by simp) st'
            clear back st'
            (try simp only [nsl, Value.cells, unB] at st)
            (try clear hc); have hc := st.facts; (try simp only [nfl, nft, Nat.reduceAdd] at hc)
            go_wp2_with ((first
                  | ((with_reducible refine wl_box ?_ (fun K hK => ?_)); rfl; refine owp_box (o := ⟨some 3, _, _, _, _, _⟩) rfl st ?_; apply Exists.intro; refine ⟨?_, ?_⟩; (focus (go_simp; try rfl)); (clear st; intro b3 w hb st; clear hb))
                  | ((with_reducible refine wl_alloc ?_ (fun K hK => ?_)); rfl; refine owp_alloc (o := ⟨some 13, _, _, _, _, _⟩) rfl st ?_; apply Exists.intro; apply Exists.intro; refine ⟨?_, ?_⟩; (focus (first | (go_simp; done) | (go_simp; rfl))); (clear st; intro b13 w hb st; clear hb))
                  | ((with_reducible refine wl_store ?_ (fun K hK => ?_)); rfl; refine owp_store rfl st ?_; apply Exists.intro; apply Exists.intro; refine ⟨?_, ?_, ?_⟩; (focus (go_simp; try rfl)); (focus (go_simp; try rfl)); (first | (with_reducible refine ⟨0, _, _, _, _, get0, rfl, rfl, ?_, ?_, ?_, ?_⟩) | (with_reducible refine ⟨1, _, _, _, _, get1, rfl, rfl, ?_, ?_, ?_, ?_⟩) | (with_reducible refine ⟨2, _, _, _, _, get2, rfl, rfl, ?_, ?_, ?_, ?_⟩) | (with_reducible refine ⟨3, _, _, _, _, get3, rfl, rfl, ?_, ?_, ?_, ?_⟩) | (with_reducible refine ⟨4, _, _, _, _, get4, rfl, rfl, ?_, ?_, ?_, ?_⟩) | (with_reducible refine ⟨5, _, _, _, _, get5, rfl, rfl, ?_, ?_, ?_, ?_⟩) | (with_reducible refine ⟨6, _, _, _, _, get6, rfl, rfl, ?_, ?_, ?_, ?_⟩) | (with_reducible refine ⟨7, _, _, _, _, get7, rfl, rfl, ?_, ?_, ?_, ?_⟩) | (with_reducible refine ⟨8, _, _, _, _, get8, rfl, rfl, ?_, ?_, ?_, ?_⟩) | (with_reducible refine ⟨9, _, _, _, _, get9, rfl, rfl, ?_, ?_, ?_, ?_⟩)); (kernel_rfl); (simp [Value.cells]); (rfl); (clear st; intro w st))
                  | ((with_reducible refine wl_alloc ?_ (fun K hK => ?_)); rfl; refine owp_alloc (o := ⟨some 15, _, _, _, _, _⟩) rfl st ?_; apply Exists.intro; apply Exists.intro; refine ⟨?_, ?_⟩; (focus (first | (go_simp; done) | (go_simp; rfl))); (clear st; intro b15 w hb st; clear hb))); (try simp only [nsl, Value.cells, unB] at st); (try clear hc); have hc := st.facts; (try simp only [nfl, nft, Nat.reduceAdd] at hc))
            obtain ⟨fr', al', st', back⟩ := st.sub [6, 7, 4] (by decide) (by simp)
            (try simp only [nsl, Value.cells, unB] at st')
            refine (HPK.out _ _ _ _ _ _ _ st').mono ?_
            clear st'
            rintro en w ⟨va3, q, vc3, rfl, st'⟩
            replace st := back _ _ (by simp) st'
            clear back st'
            (try simp only [nsl, Value.cells, unB] at st)
            (try clear hc); have hc := st.facts; (try simp only [nfl, nft, Nat.reduceAdd] at hc)
            have hq := credLen (st.row (i := 8) get8)
            have HQ : Hid (q = cn) := Lib.hid (by rw [hq, HCN.out])
            clear hq
            go_wp2_with ((first
                  | ((with_reducible refine wl_box ?_ (fun K hK => ?_)); rfl; refine owp_box (o := ⟨some 3, _, _, _, _, _⟩) rfl st ?_; apply Exists.intro; refine ⟨?_, ?_⟩; (focus (go_simp; try rfl)); (clear st; intro b3 w hb st; clear hb))
                  | ((with_reducible refine wl_alloc ?_ (fun K hK => ?_)); rfl; refine owp_alloc (o := ⟨some 13, _, _, _, _, _⟩) rfl st ?_; apply Exists.intro; apply Exists.intro; refine ⟨?_, ?_⟩; (focus (first | (go_simp; done) | (go_simp; rfl))); (clear st; intro b13 w hb st; clear hb))
                  | ((with_reducible refine wl_store ?_ (fun K hK => ?_)); rfl; refine owp_store rfl st ?_; apply Exists.intro; apply Exists.intro; refine ⟨?_, ?_, ?_⟩; (focus (go_simp; try rfl)); (focus (go_simp; try rfl)); (first | (with_reducible refine ⟨0, _, _, _, _, get0, rfl, rfl, ?_, ?_, ?_, ?_⟩) | (with_reducible refine ⟨1, _, _, _, _, get1, rfl, rfl, ?_, ?_, ?_, ?_⟩) | (with_reducible refine ⟨2, _, _, _, _, get2, rfl, rfl, ?_, ?_, ?_, ?_⟩) | (with_reducible refine ⟨3, _, _, _, _, get3, rfl, rfl, ?_, ?_, ?_, ?_⟩) | (with_reducible refine ⟨4, _, _, _, _, get4, rfl, rfl, ?_, ?_, ?_, ?_⟩) | (with_reducible refine ⟨5, _, _, _, _, get5, rfl, rfl, ?_, ?_, ?_, ?_⟩) | (with_reducible refine ⟨6, _, _, _, _, get6, rfl, rfl, ?_, ?_, ?_, ?_⟩) | (with_reducible refine ⟨7, _, _, _, _, get7, rfl, rfl, ?_, ?_, ?_, ?_⟩) | (with_reducible refine ⟨8, _, _, _, _, get8, rfl, rfl, ?_, ?_, ?_, ?_⟩) | (with_reducible refine ⟨9, _, _, _, _, get9, rfl, rfl, ?_, ?_, ?_, ?_⟩)); (kernel_rfl); (simp [Value.cells]); (rfl); (clear st; intro w st))
                  | ((with_reducible refine wl_alloc ?_ (fun K hK => ?_)); rfl; refine owp_alloc (o := ⟨some 15, _, _, _, _, _⟩) rfl st ?_; apply Exists.intro; apply Exists.intro; refine ⟨?_, ?_⟩; (focus (first | (go_simp; done) | (go_simp; rfl))); (clear st; intro b15 w hb st; clear hb))); (try simp only [nsl, Value.cells, unB] at st); (try clear hc); have hc := st.facts; (try simp only [nfl, nft, Nat.reduceAdd] at hc))
            refine (HRS.out _ (st.flAt (i := 4) get4)).mono ?_
            rintro en w ⟨va4, vc4, rfl, hfr⟩
            replace st := st.fresh hfr
            clear hfr
            have hqc : ((q : Int) == (cn : Int)) = true := by rw [HQ.out]; simp
            (try simp only [nsl, Value.cells, unB] at st)
            (try clear hc); have hc := st.facts; (try simp only [nfl, nft, Nat.reduceAdd] at hc)
            go_wp2_with ((first
                  | ((with_reducible refine wl_box ?_ (fun K hK => ?_)); rfl; refine owp_box (o := ⟨some 3, _, _, _, _, _⟩) rfl st ?_; apply Exists.intro; refine ⟨?_, ?_⟩; (focus (go_simp; try rfl)); (clear st; intro b3 w hb st; clear hb))
                  | ((with_reducible refine wl_alloc ?_ (fun K hK => ?_)); rfl; refine owp_alloc (o := ⟨some 13, _, _, _, _, _⟩) rfl st ?_; apply Exists.intro; apply Exists.intro; refine ⟨?_, ?_⟩; (focus (first | (go_simp; done) | (go_simp; rfl))); (clear st; intro b13 w hb st; clear hb))
                  | ((with_reducible refine wl_store ?_ (fun K hK => ?_)); rfl; refine owp_store rfl st ?_; apply Exists.intro; apply Exists.intro; refine ⟨?_, ?_, ?_⟩; (focus (go_simp; try rfl)); (focus (go_simp; try rfl)); (first | (with_reducible refine ⟨0, _, _, _, _, get0, rfl, rfl, ?_, ?_, ?_, ?_⟩) | (with_reducible refine ⟨1, _, _, _, _, get1, rfl, rfl, ?_, ?_, ?_, ?_⟩) | (with_reducible refine ⟨2, _, _, _, _, get2, rfl, rfl, ?_, ?_, ?_, ?_⟩) | (with_reducible refine ⟨3, _, _, _, _, get3, rfl, rfl, ?_, ?_, ?_, ?_⟩) | (with_reducible refine ⟨4, _, _, _, _, get4, rfl, rfl, ?_, ?_, ?_, ?_⟩) | (with_reducible refine ⟨5, _, _, _, _, get5, rfl, rfl, ?_, ?_, ?_, ?_⟩) | (with_reducible refine ⟨6, _, _, _, _, get6, rfl, rfl, ?_, ?_, ?_, ?_⟩) | (with_reducible refine ⟨7, _, _, _, _, get7, rfl, rfl, ?_, ?_, ?_, ?_⟩) | (with_reducible refine ⟨8, _, _, _, _, get8, rfl, rfl, ?_, ?_, ?_, ?_⟩) | (with_reducible refine ⟨9, _, _, _, _, get9, rfl, rfl, ?_, ?_, ?_, ?_⟩)); (kernel_rfl); (simp [Value.cells]); (rfl); (clear st; intro w st))
                  | ((with_reducible refine wl_alloc ?_ (fun K hK => ?_)); rfl; refine owp_alloc (o := ⟨some 15, _, _, _, _, _⟩) rfl st ?_; apply Exists.intro; apply Exists.intro; refine ⟨?_, ?_⟩; (focus (first | (go_simp; done) | (go_simp; rfl))); (clear st; intro b15 w hb st; clear hb))); (try simp only [nsl, Value.cells, unB] at st); (try clear hc); have hc := st.facts; (try simp only [nfl, nft, Nat.reduceAdd] at hc))
            go_ret
            exact ⟨rfl, st.ext0⟩
end Go.Proofs.Ytinfkenbjoddlaa

namespace Go.Proofs.Ytinfkenbjoddlaa
set_option linter.unusedSimpArgs false
set_option linter.unusedVariables false
open Go Go.RowKit Go.ChangeShapes Go.WideShapes Go.ChangeAt

section
variable {H : Type} {enc : TypeId × Value → H} {P : Program} {w : World} {base : Nat} {spare : Nat → Bool} {held : Bool}
end
end Go.Proofs.Ytinfkenbjoddlaa

namespace Go.Proofs.Ytinfkenbjoddlaa
set_option linter.unusedSimpArgs false
set_option linter.unusedVariables false
open Go Go.RowKit Go.ChangeShapes Go.WideShapes Go.ChangeAt
theorem upto_bound {H : Type} {l : List (DataW H)} (hk : Rows.uptoSmall H l = true) : Rows.uptoBulkAll l ≤ 1048576 := of_decide_eq_true hk
theorem bulk_slice {H : Type} (elems spare : List (DataW H)) : Rows.uptoBulkAll elems + 1 ≤ Rows.uptoBulk (.slice elems spare) := by
  simp only [Rows.uptoBulk]; omega
section
variable {H : Type} {enc : TypeId × Value → H} {P : Program} {w : World} {base : Nat} {held : Bool}
end
end Go.Proofs.Ytinfkenbjoddlaa

namespace Go.Proofs.Ytinfkenbjoddlaa
set_option linter.unusedSimpArgs false
set_option linter.unusedVariables false
open Go Go.RowKit Go.ChangeShapes Go.WideShapes Go.ChangeAt
theorem mapM_at {f : Nat → Option Value} : ∀ {l : List Nat} {ys : List Value}, l.mapM f = some ys → ∀ (i k : Nat), l[i]? = some k → f k = ys[i]?
  | [], ys, h, i, k, hk => by simp at hk
  | a :: l, ys, h, i, k, hk => by
    rw [List.mapM_cons] at h
    cases ha : f a with
    | none => rw [ha] at h; cases h
    | some y =>
      rw [ha] at h
      cases hl : l.mapM f with
      | none => rw [hl] at h; cases h
      | some zs =>
        rw [hl] at h
        cases h
        cases i with
        | zero => simp at hk; subst hk; simp [ha]
        | succ i => simp at hk; simpa using mapM_at hl i k hk
theorem cells_at {w : World} {base k : Nat} {a : Addr} {cs : List Value} (h : w.cells? base a k = some cs) (j : Nat) (hj : j < k) : w.cell? (a.add j) = cs[j]? := by
  unfold World.cells? at h
  split at h
  · exact mapM_at (f := fun i => w.cell? (a.add i)) h j j (by simp [hj])
  · cases h
theorem bulk_map {H : Type} {α : Type} (D : Nat → DataW H) (f : Nat → α) (bulk : α → Nat) : ∀ (L : List Nat), (∀ i ∈ L, bulk (f i) ≤ Rows.uptoBulk (D i)) → ((L.map f).map bulk).sum ≤ Rows.uptoBulkAll (L.map D)
  | [], _ => by simp
  | i :: L, h => by
    have ih := bulk_map D f bulk L fun j hj => h j (List.mem_cons_of_mem _ hj)
    have h1 := h i (by simp)
    simp only [List.map_cons, Rows.uptoBulkAll, List.sum_cons]
    omega
section
variable {H : Type} {enc : TypeId × Value → H} {P : Program} {w : World} {base : Nat} {held : Bool}
theorem open_flts {α : Type} [Flt α] [Inhabited α] (bulk : α → Nat) (R : α → Prop) {r : Reach} {b0 : Nat} {t e : TypeId} {v : Value} {d : DataW H} {p : List MemPlace} (ht : P.underlying t = some (.slice e)) (ce : P.cellsOf e = Flt.k α)
    (hel : ∀ (fuel : Nat) (cs : List Value) (x : DataW H × List MemPlace), DataW.trod enc P w base (fun _ => true) held fuel e cs = some x → ∃ y : α, cs = Flt.cells y ∧ bulk y ≤ Rows.uptoBulk x.1 ∧ R y)
    (hv : Value.okWide P w r b0 t v) (h : DataW.Trod enc P w base (fun _ => true) held t v d p) : ∃ a n c xs, v = .slice a n c ∧ Fl w a n (xs : List α) ∧ (n ≤ c ∧ c ≤ maxLen) ∧ (xs.map bulk).sum ≤ Rows.uptoBulk d ∧ ∀ x ∈ xs, R x := by
  obtain ⟨a, n, c, rfl⟩ := okWide_slice ht hv
  obtain ⟨fuel, hf⟩ := h
  rcases Go.Deep.open_slice ht hf with ⟨hcs, _⟩ | ⟨a', len, cap, m, n', D, Pl, hcs, hb, hl, hm, hmm, hxe, hx⟩
  · simp [Value.cells] at hcs
    obtain ⟨rfl, rfl, rfl⟩ := hcs
    exact ⟨none, 0, 0, [], rfl, Fl.nil _ _, ⟨Nat.le_refl _, by simp [maxLen]⟩, by simp, by simp⟩
  · simp [Value.cells] at hcs
    obtain ⟨rfl, rfl, rfl⟩ := hcs
    rw [ce] at hx
    simp at hmm
    injection hxe with hd hp
    have hel2 : ∀ i, i < n → ∃ x : α, (∀ j u, (Flt.cells x)[j]? = some u → w.cell? ((a'.add (i * Flt.k α)).add j) = some u) ∧ bulk x ≤ Rows.uptoBulk (D i) ∧ R x := fun i hi => by
      obtain ⟨cs', hc, htr⟩ := hx i (by omega)
      obtain ⟨x, h1, h2, h3⟩ := hel _ _ _ htr
      subst h1
      refine ⟨x, fun j u hu => ?_, h2, h3⟩
      have hj : j < Flt.k α := by
        have := (List.getElem?_eq_some_iff.1 hu).1
        rwa [Flt.len] at this
      rw [cells_at hc j hj, hu]
    obtain ⟨f, hF⟩ : ∃ f : Nat → α, ∀ i, i < n → (∀ j u, (Flt.cells (f i))[j]? = some u → w.cell? ((a'.add (i * Flt.k α)).add j) = some u) ∧ bulk (f i) ≤ Rows.uptoBulk (D i) ∧ R (f i) :=
      ⟨fun i => if h : i < n then (hel2 i h).choose else default, fun i hi => by simp only [hi, dite_true]; exact (hel2 i hi).choose_spec⟩
    refine ⟨some a', n, c, (List.range n).map f, rfl, ⟨by simp, fun h0 => ?_⟩, ⟨hl, hm⟩, ?_, ?_⟩
    · have hk := Flt.pos (α := α)
      have hx0 : a'.spot = none := by
        obtain ⟨u, hu⟩ : ∃ u, (Flt.cells (f 0))[0]? = some u := ⟨_, List.getElem?_eq_getElem (by rw [Flt.len]; exact hk)⟩
        have := (hF 0 h0).1 0 u hu
        simp only [Addr.add, Nat.zero_mul, if_true] at this
        unfold World.cell? at this
        split at this
        · cases hs : a'.spot with
          | none => rfl
          | some q => simp [hs] at this
        · cases this
      obtain ⟨b, off, sp⟩ := a'
      simp at hx0
      subst hx0
      refine ⟨b, off, rfl, fun i x hi j u hu => ?_⟩
      obtain ⟨hin, hfx⟩ : i < n ∧ f i = x := by
        have h1 := (List.getElem?_eq_some_iff.1 hi).1
        have h2 := (List.getElem?_eq_some_iff.1 hi).2
        simp at h1 h2
        exact ⟨h1, h2⟩
      subst hfx
      have h1 := (hF i hin).1 j u hu
      rw [addr_add, addr_add] at h1
      exact h1
    · have hb1 := bulk_map D f bulk (List.range n) (fun i hi => (hF i (by simpa using hi)).2.1)
      rw [hd]
      have := bulk_slice (H := H) ((List.range n).map D) ((List.range (m - n)).map fun j => D (n + j))
      omega
    · intro x hx
      simp only [List.mem_map, List.mem_range] at hx
      obtain ⟨i, hi, rfl⟩ := hx
      exact (hF i hi).2.2
theorem trod_fields {t : TypeId} {fs : Array Field} {fuel : Nat} {cs : List Value} {x : DataW H × List MemPlace} (ht : P.underlying t = some (.struct fs)) (h : DataW.trod enc P w base (fun _ => true) held fuel t cs = some x) :
    ∃ (xs : List (DataW H × List MemPlace)) (n : Nat), x.1 = .agg (xs.map (·.1)) ∧ cs.length = P.cellsOf t ∧ xs.length = fs.size ∧
      ∀ (i : Nat) (f : Field), fs[i]? = some f → ∃ y, xs[i]? = some y ∧ DataW.trod enc P w base (fun _ => true) held n f.type ((cs.drop f.offset).take (P.cellsOf f.type)) = some y := by
  obtain ⟨xs, n, _, rfl, hl, hlen, hf⟩ := DataW.trod_struct ht h
  refine ⟨xs, n, rfl, hl, hlen, fun i f hi => ?_⟩
  have := hf i f hi
  have hil : i < xs.length := by rw [hlen]; exact (Array.getElem?_eq_some_iff.1 hi).1
  refine ⟨xs[i], List.getElem?_eq_getElem hil, ?_⟩
  rw [this, List.getElem?_eq_getElem hil]
end
end Go.Proofs.Ytinfkenbjoddlaa

namespace Go.Proofs.Ytinfkenbjoddlaa
set_option linter.unusedSimpArgs false
set_option linter.unusedVariables false
open Go Go.RowKit Go.ChangeShapes Go.WideShapes Go.ChangeAt
section
variable {H : Type} {enc : TypeId × Value → H} {P : Program} {w : World} {base : Nat} {held : Bool}
theorem trod_role {t : TypeId} {f0 f1 : Field} {fuel : Nat} {cs : List Value} {x : DataW H × List MemPlace} (ht : P.underlying t = some (.struct #[f0, f1])) (ce : P.cellsOf t = 2) (o0 : f0.offset = 0) (o1 : f1.offset = 1) (c0 : P.cellsOf f0.type = 1) (c1 : P.cellsOf f1.type = 1)
    (t0 : P.underlying f0.type = some .string) (t1 : P.underlying f1.type = some .string) (h : DataW.trod enc P w base (fun _ => true) held fuel t cs = some x) : ∃ r : Role, cs = [S r.1, S r.2] ∧ Rows.uptoBulk x.1 = r.1.length + r.2.length + 3 := by
  obtain ⟨y0, y1, n, rfl, hl, h0, h1⟩ := trod_struct2 ht h
  rw [ce] at hl
  rw [o0, c0] at h0
  rw [o1, c1] at h1
  match cs, hl with
  | [u, v], _ =>
    simp at h0 h1
    obtain ⟨s0, q0, rfl, _⟩ := DataW.trod_string t0 h0
    obtain ⟨s1, q1, rfl, _⟩ := DataW.trod_string t1 h1
    simp at q0 q1
    subst q0 q1
    obtain ⟨⟨s0⟩⟩ := s0
    obtain ⟨⟨s1⟩⟩ := s1
    refine ⟨(s0, s1), rfl, ?_⟩
    simp [Rows.uptoBulk, Rows.uptoBulkAll]
    omega
end
end Go.Proofs.Ytinfkenbjoddlaa

namespace Go.Proofs.Ytinfkenbjoddlaa
set_option linter.unusedSimpArgs false
set_option linter.unusedVariables false
open Go Go.RowKit Go.ChangeShapes Go.WideShapes Go.ChangeAt
def bulkC (x : CredT) : Nat := 1 + x.h.1.length + x.h.2.length + x.w.length + x.b.1.length + x.b.2.length + x.c.1.length + x.c.2.length + x.e.length
theorem wtC_bulk (x : CredT) : wtC x ≤ 20 * bulkC x := by unfold wtC bulkC; omega
theorem weightC_bulk : ∀ l : List CredT, weightC l ≤ 20 * (l.map bulkC).sum
  | [] => by simp [weightC]
  | x :: l => by have := weightC_bulk l; have := wtC_bulk x; rw [weightC_cons]; simp only [List.map_cons, List.sum_cons]; omega
section
variable {H : Type} {enc : TypeId × Value → H} {P : Program} {w : World} {base : Nat} {held : Bool}
set_option maxRecDepth 100000 in
theorem trod_cred {fuel : Nat} {cs : List Value} {x : DataW H × List MemPlace} (h : DataW.trod enc Try.prog w base (fun _ => true) held fuel 45 cs = some x) : ∃ y : CredT, cs = Flt.cells y ∧ bulkC y ≤ Rows.uptoBulk x.1 ∧ True := by
  have hS := Try.underlying45
  obtain ⟨xs, n, hx, hl, hlen, hf⟩ := trod_fields hS h
  rw [show Try.prog.cellsOf 45 = 9 from by kernel_rfl] at hl
  obtain ⟨y0, e0, h0⟩ := hf 0 _ rfl
  obtain ⟨y1, e1, h1⟩ := hf 1 _ rfl
  obtain ⟨y2, e2, h2⟩ := hf 2 _ rfl
  obtain ⟨y3, e3, h3⟩ := hf 3 _ rfl
  obtain ⟨y4, e4, h4⟩ := hf 4 _ rfl
  obtain ⟨y5, e5, h5⟩ := hf 5 _ rfl
  change DataW.trod enc Try.prog w base (fun _ => true) held n 3 ((cs.drop 0).take (Try.prog.cellsOf 3)) = some y0 at h0
  change DataW.trod enc Try.prog w base (fun _ => true) held n 43 ((cs.drop 1).take (Try.prog.cellsOf 43)) = some y1 at h1
  change DataW.trod enc Try.prog w base (fun _ => true) held n 9 ((cs.drop 3).take (Try.prog.cellsOf 9)) = some y2 at h2
  change DataW.trod enc Try.prog w base (fun _ => true) held n 43 ((cs.drop 4).take (Try.prog.cellsOf 43)) = some y3 at h3
  change DataW.trod enc Try.prog w base (fun _ => true) held n 43 ((cs.drop 6).take (Try.prog.cellsOf 43)) = some y4 at h4
  change DataW.trod enc Try.prog w base (fun _ => true) held n 9 ((cs.drop 8).take (Try.prog.cellsOf 9)) = some y5 at h5
  have k1 : Try.prog.cellsOf 3 = 1 := by kernel_rfl
  have k2 : Try.prog.cellsOf 43 = 2 := by kernel_rfl
  have k3 : Try.prog.cellsOf 9 = 1 := by kernel_rfl
  rw [k1] at h0
  rw [k2] at h1 h3 h4
  rw [k3] at h2 h5
  have hl6 : xs.length = 6 := hlen
  match cs, hl, xs, hl6 with
  | [c0, c1, c2, c3, c4, c5, c6, c7, c8], _, [z0, z1, z2, z3, z4, z5], _ =>
    simp at e0 e1 e2 e3 e4 e5
    subst e0 e1 e2 e3 e4 e5
    simp only [List.drop_succ_cons, List.drop_zero, List.take_succ_cons, List.take_zero] at h0 h1 h2 h3 h4 h5
    obtain ⟨i0, q0, rfl, _⟩ := DataW.trod_int Try.underlying3 h0
    obtain ⟨r1, q1, b1⟩ := trod_role Try.underlying43 (by kernel_rfl) rfl rfl (by kernel_rfl) (by kernel_rfl) Try.underlying9 Try.underlying9 h1
    obtain ⟨s2, q2, rfl, _⟩ := DataW.trod_string Try.underlying9 h2
    obtain ⟨r3, q3, b3⟩ := trod_role Try.underlying43 (by kernel_rfl) rfl rfl (by kernel_rfl) (by kernel_rfl) Try.underlying9 Try.underlying9 h3
    obtain ⟨r4, q4, b4⟩ := trod_role Try.underlying43 (by kernel_rfl) rfl rfl (by kernel_rfl) (by kernel_rfl) Try.underlying9 Try.underlying9 h4
    obtain ⟨s5, q5, rfl, _⟩ := DataW.trod_string Try.underlying9 h5
    simp at q0 q1 q2 q3 q4 q5
    obtain ⟨⟨s2⟩⟩ := s2
    obtain ⟨⟨s5⟩⟩ := s5
    refine ⟨⟨i0, r1, s2, r3, r4, s5⟩, ?_, ?_, trivial⟩
    · rw [q0, q1.1, q1.2, q2, q3.1, q3.2, q4.1, q4.2, q5]; rfl
    · rw [hx]
      simp only [List.map_cons, List.map_nil, Rows.uptoBulk, Rows.uptoBulkAll, b1, b3, b4, bulkC]
      simp [Rows.uptoBulk]
      omega
  | [], hl, _, _ => simp at hl
end
end Go.Proofs.Ytinfkenbjoddlaa

namespace Go.Proofs.Ytinfkenbjoddlaa
set_option linter.unusedSimpArgs false
set_option linter.unusedVariables false
open Go Go.RowKit Go.ChangeShapes Go.WideShapes Go.ChangeAt
section
variable {H : Type} {enc : TypeId × Value → H} {P : Program} {w : World} {base : Nat} {held : Bool}
theorem open_ints {m : Nat} {r : Reach} {b0 : Nat} {t e : TypeId} {v : Value} {d : DataW H} {p : List MemPlace} (ht : P.underlying t = some (.array m e)) (he : P.underlying e = some (.int .i64)) (ce : P.cellsOf e = 1) (ct : P.cellsOf t = m)
    (hv : Value.okWide P w r b0 t v) (h : DataW.Trod enc P w base (fun _ => true) held t v d p) : ∃ cs : List Value, v = .agg cs.toArray ∧ cs.length = m ∧ ∀ (i : Nat) (c : Value), cs[i]? = some c → ∃ x : Int, c = Value.int .i64 x ∧ (Lit.int .i64 x).wf = true := by
  obtain ⟨cs, rfl, hsz⟩ : ∃ cs, v = .agg cs ∧ cs.size = P.cellsOf t := by
    simp only [Value.okWide, ht] at hv
    obtain ⟨cs, h1, h2, _⟩ := hv
    exact ⟨cs, h1, h2⟩
  obtain ⟨fuel, hf⟩ := h
  obtain ⟨ys, n, _, _, _, hl, hel⟩ := DataW.trod_array ht hf
  rw [ct] at hsz
  obtain ⟨l⟩ := cs
  have hlen : l.length = m := by simpa using hsz
  refine ⟨l, rfl, hlen, fun i c hi => ?_⟩
  have him : i < m := by have := (List.getElem?_eq_some_iff.1 hi).1; omega
  have h1 := hel i him
  rw [ce, Nat.mul_one, List.getElem?_eq_getElem (by omega)] at h1
  have e1 : (((Value.agg ⟨l⟩).cells.toList).drop i).take 1 = [c] := by
    have hil : i < l.length := by omega
    have hc : l[i] = c := by rw [List.getElem?_eq_getElem hil] at hi; injection hi
    simp only [Value.cells]
    rw [List.drop_eq_getElem_cons hil, hc]
    rfl
  rw [e1] at h1
  obtain ⟨x, q, _, hw⟩ := DataW.trod_int he h1
  simp at q
  exact ⟨x, q, hw⟩
theorem open_int2 {r : Reach} {b0 : Nat} {t e : TypeId} {v : Value} {d : DataW H} {p : List MemPlace} (ht : P.underlying t = some (.array 2 e)) (he : P.underlying e = some (.int .i64)) (ce : P.cellsOf e = 1) (ct : P.cellsOf t = 2)
    (hv : Value.okWide P w r b0 t v) (h : DataW.Trod enc P w base (fun _ => true) held t v d p) : ∃ x y, v = .agg #[.int .i64 x, .int .i64 y] ∧ (Lit.int .i64 x).wf = true ∧ (Lit.int .i64 y).wf = true := by
  obtain ⟨cs, rfl, hl, hc⟩ := open_ints ht he ce ct hv h
  match cs, hl with
  | [c0, c1], _ =>
    obtain ⟨x, rfl, hx⟩ := hc 0 c0 rfl
    obtain ⟨y, rfl, hy⟩ := hc 1 c1 rfl
    exact ⟨x, y, rfl, hx, hy⟩
end
end Go.Proofs.Ytinfkenbjoddlaa
