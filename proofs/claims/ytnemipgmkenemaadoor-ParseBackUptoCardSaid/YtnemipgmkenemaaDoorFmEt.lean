/- The reader of words: read; its stop is caught. -/
import Derived.Test.YtnemipgmkenemaaDoorCellB
import Derived.Defers
import Derived.Recover
import Derived.Test.YtnemipgmkenemaaDoorPsC
import Derived.Lib.BytesEntry
import Derived.Laws.Externs
import Derived.Test.YtnemipgmkenemaaDoorShelf
namespace Go.Proofs.YtnemipgmkenemaaDoor
set_option linter.unusedSimpArgs false
set_option linter.unusedVariables false
open Go Go.RowKit
theorem wpS_recP_none {P : Program} {Q : Exit → Act → List Frame → World → Prop} {d ty id : Nat} {pos : String} {af : Array Edge} {a : Act} {cs : List Frame} {w : World}
    (hrec : recoverD cs = none) (h : Q .normal { tmps := a.tmps.setIfInBounds d .nilIface, defers := a.defers } cs w) :
    (Code.region id #[{ dst := some d, op := .call { callee := .builtin .recover, args := #[], argTypes := #[] }, type := ty, pos := pos, after := af, guard := none }] false).wpS P Q a cs w := by
  apply wpS_region
  simp [wpOpsS, go_sem, hrec]
  exact h
theorem wpS_recP_some {P : Program} {Q : Exit → Act → List Frame → World → Prop} {d ty id : Nat} {pos : String} {af : Array Edge} {a : Act} {cs cs' : List Frame} {w : World} {v : Value}
    (hrec : recoverD cs = some (v, cs')) (h : Q .normal { tmps := a.tmps.setIfInBounds d v, defers := a.defers } cs' w) :
    (Code.region id #[{ dst := some d, op := .call { callee := .builtin .recover, args := #[], argTypes := #[] }, type := ty, pos := pos, after := af, guard := none }] false).wpS P Q a cs w := by
  apply wpS_region
  simp [wpOpsS, go_sem, hrec]
  exact h
theorem recoverP_back {c₀ : Frame} {cs : List Frame} (hu : c₀.mode = .returning) : recoverD (c₀ :: cs) = none := by simp [recoverD, hu]
theorem recoverP_panic {c₀ : Frame} {cs : List Frame} {v : Value} {older : List PanicEntry} (hu : c₀.mode = .panicking ({ v := v, recovered := false } :: older)) :
    recoverD (c₀ :: cs) = some (v, { c₀ with mode := .panicking ({ v := v, recovered := true } :: older) } :: cs) := by simp [recoverD, hu]
theorem caughtP_back (w : World) (p : Nat) :
    CallsD Tryd.prog 26 #[.pointer (some ⟨p, 0, none⟩)] .returning w fun e u w' => e = .returned (.tuple #[]) ∧ u = .returning ∧ w = w' := by
  refine callsD_of_wpS Tryd.func26 rfl fun c₀ cs hu => ?_
  simp only [Tryd.ntmps26, List.size_toArray, List.length_cons, List.length_nil, Nat.reduceAdd, Nat.reduceSub, Array.replicate_succ,
     Array.replicate_zero, List.push_toArray, List.append_toArray, List.nil_append, List.cons_append]
  apply wpS_seq
  refine wpS_recP_none (recoverP_back hu) ?_
  simp only [Exit.thenS]
  refine wpS_of_wp ?_
  simp only [List.setIfInBounds_toArray, List.set_cons_zero, List.set_cons_succ]
  go_wp2
  cases c₀
  simp_all [bodyPostS, results, Tryd.results26]
theorem ta_stop (w : World) (v : Value) : (Instr.typeAssert (.iface 69 v) 20 69 true).run Tryd.prog w = .ok (.tuple #[v, .bool true]) w := by kernel_rfl
theorem caughtP_own (w : World) (p : Nat) (hp : Blk w p [.bool true]) :
    CallsD Tryd.prog 26 #[.pointer (some ⟨p, 0, none⟩)] (.panicking [stopE]) w fun e u w' => e = .returned (.tuple #[]) ∧ u = .panicking [{ stopE with recovered := true }] ∧ (w.setCell ⟨p, 0, none⟩ (.bool false)).alloc (.cells #[] 69) = w' := by
  have g1 := hp.cell 0
  have g2 := hp.free 0
  have hpl := hp.lt
  clear hp
  have hta := ta_stop w (.agg #[])
  unfold stopE
  refine callsD_of_wpS Tryd.func26 rfl fun c₀ cs hu => ?_
  simp only [Tryd.ntmps26, List.size_toArray, List.length_cons, List.length_nil, Nat.reduceAdd, Nat.reduceSub, Array.replicate_succ,
     Array.replicate_zero, List.push_toArray, List.append_toArray, List.nil_append, List.cons_append]
  apply wpS_seq
  refine wpS_recP_some (recoverP_panic hu) ?_
  simp only [Exit.thenS]
  refine wpS_of_wp ?_
  simp only [List.setIfInBounds_toArray, List.set_cons_zero, List.set_cons_succ]
  go_wp2
  cases c₀
  simp_all [bodyPostS, results, Tryd.results26]
/-- An end that is no panic. -/
def NoPan (Q : Exit → Act → World → Prop) : Exit → Act → World → Prop := fun x a w => match x with
  | .panic _ => False
  | e => Q e a w
theorem NoPan.to {Q : Exit → Act → World → Prop} {e : Exit} {a : Act} {w : World} (h : NoPan Q e a w) : Q e a w := by
  unfold NoPan at h
  split at h
  · exact h.elim
  · exact h
theorem pb_noPan {Q : Exit → Act → World → Prop} : Rg4.PB (NoPan Q) := fun _ _ _ _ _ q => q.elim
theorem invoke_caughtP (w : World) (a : Value) : (invoke (.fn (.func 26) #[]) #[a]).run Tryd.prog w = .ok (.enter 26 #[a]) w := by kernel_rfl
theorem resP (tmps : Array Value) (p q : Nat) (cs : List Value) (v : Value) (w : World) (h2 : tmps[2]? = some (.pointer (some ⟨p, 0, none⟩))) (h3 : tmps[3]? = some (.pointer (some ⟨q, 0, none⟩))) (hb : Blk w p cs) (hl : cs.length = 5) (hq : w.cell? ⟨q, 0, none⟩ = some v) :
    (results Tryd.f16 tmps).run Tryd.prog w = .ok (.tuple #[.agg cs.toArray, v]) w := by
  have e2 : tmps[2]?.getD undef = .pointer (some ⟨p, 0, none⟩) := by rw [h2]; rfl
  have e3 : tmps[3]?.getD undef = .pointer (some ⟨q, 0, none⟩) := by rw [h3]; rfl
  obtain ⟨t, hb⟩ := hb
  have hi : (Tryd.prog.info? 26).map (·.size) = some cs.length := by rw [hl]; kernel_rfl
  simp only [results, Tryd.results16]
  simp [Sem.run_bind, Result.andThen, e2, e3, asAddr, run_loadVar_row w p t 26 cs.toArray (0, 0) _ hb Tryd.underlying26 rfl (by simpa using hi), run_loadVar_one w 4 _ v _ Tryd.underlying4 rfl hq]
section
variable {fr al : Nat → Prop} {w0 w W : World}
/-- What read tells of what the words say. -/
def ReadIs (o : PRes) (ok : Bool) (f : Fo) : Prop := if ok = true then o = some (f, []) else ∀ x, o ≠ some (x, [])
def ReadGot (fr al : Nat → Prop) (w0 W : World) (o : PRes) (e : Ending) (w' : World) : Prop := ∃ g ok, e = .returned (.tuple #[fmV g, .bool ok]) ∧ ReadIs o ok g.strip ∧ Own fr al w0 [oldI W, fmI g] w'
theorem zeroFm (st : Own fr al w0 [oldI W] w) : Own fr al w0 [oldI W, fmI (.mk 0 0 ([], []) none 0 0 [])] w := by
  have st3 := Own.noFms (Own.nilFm st)
  simp only [List.cons_append, List.nil_append] at st3
  have st4 := (st3.mkFm (i := 1) (j := 2) get1 get2 0 0 ([], []) 0 ⟨Nat.le_refl _, by simp [maxLen]⟩).keep [0, 3] (by decide) (by simp)
  simpa [pick] using st4
theorem leaveP_own (tmps : Array Value) (p q : Nat) (c : Value) {o : PRes} {I : It} (h2 : tmps[2]? = some (.pointer (some ⟨p, 0, none⟩))) (h3 : tmps[3]? = some (.pointer (some ⟨q, 0, none⟩))) (ho : ∀ x, o ≠ some (x, []))
    (st : Own fr al w0 [oldI W, blkI p zF, blkI q [.bool true], I] w) :
    Leaves Tryd.prog Tryd.f16 tmps (ReadGot fr al w0 W o) [{ target := .fn (.func 26) #[], args := #[.pointer (some ⟨q, 0, none⟩)] }] (.panicking [stopE]) w := by
  refine leaves_cons (by simp) (invoke_caughtP _ _) ?_
  refine (caughtP_own _ q (st.blk (i := 2) get2)).mono ?_
  rintro en u' w'' ⟨rfl, rfl, rfl⟩
  have h1 : settle (.panicking [{ stopE with recovered := true }]) = .returning := by simp [settle, stopE]
  show Leaves _ _ _ _ _ (settle _) _
  rw [h1]
  have st2 := (st.set (i := 2) get2 0 (.bool false)).ext (Ext.new _ (.cells #[] 69))
  refine ⟨_, resP tmps p q zF (.bool false) _ h2 h3 (st2.blk (i := 1) get1) rfl ((st2.blk (i := 2) get2).cell 0), ?_⟩
  have st3 := st2.keep [0] (by decide) (by simp)
  exact ⟨.mk 0 0 ([], []) none 0 0 [], false, rfl, by unfold ReadIs; simpa using ho, zeroFm (by simpa [pick] using st3)⟩
theorem leaveP_back (tmps : Array Value) (p q : Nat) {o : PRes} {I : It} {ok : Bool} {g : Fm} (h2 : tmps[2]? = some (.pointer (some ⟨p, 0, none⟩))) (h3 : tmps[3]? = some (.pointer (some ⟨q, 0, none⟩))) (ho : ReadIs o ok g.strip)
    (st : Own fr al w0 [oldI W, blkI p (fmC g), blkI q [.bool ok], I, fmI g] w) :
    Leaves Tryd.prog Tryd.f16 tmps (ReadGot fr al w0 W o) [{ target := .fn (.func 26) #[], args := #[.pointer (some ⟨q, 0, none⟩)] }] .returning w := by
  refine leaves_cons (by simp) (invoke_caughtP _ _) ?_
  refine (caughtP_back _ q).mono ?_
  rintro en u' w'' ⟨rfl, rfl, rfl⟩
  refine ⟨_, resP tmps p q (fmC g) (.bool ok) _ h2 h3 (st.blk (i := 1) get1) (by cases g; rfl) ((st.blk (i := 2) get2).cell 0), ?_⟩
  have st3 := st.keep [0, 4] (by decide) (by simp)
  exact ⟨g, ok, by cases g; rfl, ho, by simpa [pick] using st3⟩
theorem anyP_nil {b : Bool} {f : Nat} : anyP b (oneP b f) [] = none := by
  have h : oneP b f [] = none := by
    cases f with
    | zero => rfl
    | succ f =>
      rw [oneP, oneB_role (by decide) (by decide) (by decide) (by decide), show nxT [] = [] from rfl, roleP_nil]; rfl
  unfold anyP bothP
  rw [joinP_none (joinP_none h)]
set_option maxRecDepth 100000 in
set_option maxHeartbeats 4000000 in
theorem read_c {b : Bool} {s : List UInt8} {l : List Tok} (hl : Lx b s l) (hs : s.length ≤ 100000) (he : ErrV W) (st : Own fr al w0 [oldI W] w) :
    Calls Tryd.prog 16 #[S s] w (ReadGot fr al w0 W (anyP b (oneP b (l.length + 1)) l)) := by
  have HA := Lib.hid (fun rb => any_c (W := W) (rb := rb) (oneP_short b (l.length + 1)) (one_c he (l.length + 1)))
  have HST := Lib.hid (fun (fr al : Nat → Prop) (w0 w : World) (rb : Nat) (st : Own fr al w0 [blkI rb [S s, S []]] w) => step_c fr al w0 w rb s [] (by omega) st)
  have HLS := Lib.hid (hl.start hs)
  have HN : Hid (l = [] → ∀ x, anyP b (oneP b (l.length + 1)) l ≠ some (x, [])) := Lib.hid (by rintro rfl x; rw [anyP_nil]; simp)
  obtain ⟨o, ho⟩ : ∃ o, anyP b (oneP b (l.length + 1)) l = o := ⟨_, rfl⟩
  rw [ho] at HN
  have HO := Lib.hid ho
  rw [ho]
  clear ho hl hs he
  unfold S at HST
  unfold S
  (try simp only [nsl, Value.cells, unB] at st)
  (try clear hc); have hc := st.facts; (try simp only [nfl, nft, Nat.reduceAdd] at hc)
  go_enter_defers Tryd.func16, Tryd.ntmps16
  go_wp2_with ((first
        | ((with_reducible refine wl_alloc ?_ (fun K hK => ?_)); rfl; refine owp_alloc (o := ⟨some 2, _, _, _, _, _⟩) rfl st ?_; apply Exists.intro; apply Exists.intro; refine ⟨?_, ?_⟩; (focus (first | (go_simp; done) | (go_simp; rfl))); (clear st; intro b2 w hb st; clear hb))
        | ((with_reducible refine wl_alloc ?_ (fun K hK => ?_)); rfl; refine owp_alloc (o := ⟨some 3, _, _, _, _, _⟩) rfl st ?_; apply Exists.intro; apply Exists.intro; refine ⟨?_, ?_⟩; (focus (first | (go_simp; done) | (go_simp; rfl))); (clear st; intro b3 w hb st; clear hb))
        | ((with_reducible refine wl_store ?_ (fun K hK => ?_)); rfl; refine owp_store rfl st ?_; apply Exists.intro; apply Exists.intro; refine ⟨?_, ?_, ?_⟩; (focus (go_simp; try rfl)); (focus (go_simp; try rfl)); (first | (with_reducible refine ⟨0, _, _, _, _, get0, rfl, rfl, ?_, ?_, ?_, ?_⟩) | (with_reducible refine ⟨1, _, _, _, _, get1, rfl, rfl, ?_, ?_, ?_, ?_⟩) | (with_reducible refine ⟨2, _, _, _, _, get2, rfl, rfl, ?_, ?_, ?_, ?_⟩) | (with_reducible refine ⟨3, _, _, _, _, get3, rfl, rfl, ?_, ?_, ?_, ?_⟩) | (with_reducible refine ⟨4, _, _, _, _, get4, rfl, rfl, ?_, ?_, ?_, ?_⟩) | (with_reducible refine ⟨5, _, _, _, _, get5, rfl, rfl, ?_, ?_, ?_, ?_⟩)); (kernel_rfl); (simp [Value.cells]); (rfl); (clear st; intro w st))
        | ((with_reducible refine wl_box ?_ (fun K hK => ?_)); rfl; refine owp_box (o := ⟨some 7, _, _, _, _, _⟩) rfl st ?_; apply Exists.intro; refine ⟨?_, ?_⟩; (focus (go_simp; try rfl)); (clear st; intro b7 w hb st; clear hb))); (try simp only [nsl, Value.cells, unB] at st); (try clear hc); have hc := st.facts; (try simp only [nfl, nft, Nat.reduceAdd] at hc))
  obtain ⟨fr', al', st', back⟩ := st.sub [3] (by decide) (by simp)
  (try simp only [nsl, Value.cells, unB] at st')
  refine (HST.out _ _ _ _ _ st').mono ?_
  clear st'
  intro en w hg
  rcases HLS.out with ⟨hb, hln, hsp⟩ | ⟨nx, r, hsp, hR, _⟩
  · rw [hsp] at hg
    obtain ⟨rfl, s', st'⟩ := hg
    unfold S at st'
    replace st := back _ _ (by simp) st'
    clear back st'
    (try simp only [nsl, Value.cells, unB] at st)
    (try clear hc); have hc := st.facts; (try simp only [nfl, nft, Nat.reduceAdd] at hc)
    exact leaveP_own _ b2 b3 .nilIface (by simp) (by simp) (HN.out hln) st
  · rw [hsp] at hg
    obtain ⟨rfl, st'⟩ := hg
    unfold S at st'
    have HR := Lib.hid hR
    clear hR hsp HST HLS
    replace st := back _ _ (by simp) st'
    clear back st'
    (try simp only [nsl, Value.cells, unB] at st)
    (try clear hc); have hc := st.facts; (try simp only [nfl, nft, Nat.reduceAdd] at hc)
    go_wp2_with ((first
          | ((with_reducible refine wl_alloc ?_ (fun K hK => ?_)); rfl; refine owp_alloc (o := ⟨some 2, _, _, _, _, _⟩) rfl st ?_; apply Exists.intro; apply Exists.intro; refine ⟨?_, ?_⟩; (focus (first | (go_simp; done) | (go_simp; rfl))); (clear st; intro b2 w hb st; clear hb))
          | ((with_reducible refine wl_alloc ?_ (fun K hK => ?_)); rfl; refine owp_alloc (o := ⟨some 3, _, _, _, _, _⟩) rfl st ?_; apply Exists.intro; apply Exists.intro; refine ⟨?_, ?_⟩; (focus (first | (go_simp; done) | (go_simp; rfl))); (clear st; intro b3 w hb st; clear hb))
          | ((with_reducible refine wl_store ?_ (fun K hK => ?_)); rfl; refine owp_store rfl st ?_; apply Exists.intro; apply Exists.intro; refine ⟨?_, ?_, ?_⟩; (focus (go_simp; try rfl)); (focus (go_simp; try rfl)); (first | (with_reducible refine ⟨0, _, _, _, _, get0, rfl, rfl, ?_, ?_, ?_, ?_⟩) | (with_reducible refine ⟨1, _, _, _, _, get1, rfl, rfl, ?_, ?_, ?_, ?_⟩) | (with_reducible refine ⟨2, _, _, _, _, get2, rfl, rfl, ?_, ?_, ?_, ?_⟩) | (with_reducible refine ⟨3, _, _, _, _, get3, rfl, rfl, ?_, ?_, ?_, ?_⟩) | (with_reducible refine ⟨4, _, _, _, _, get4, rfl, rfl, ?_, ?_, ?_, ?_⟩) | (with_reducible refine ⟨5, _, _, _, _, get5, rfl, rfl, ?_, ?_, ?_, ?_⟩)); (kernel_rfl); (simp [Value.cells]); (rfl); (clear st; intro w st))
          | ((with_reducible refine wl_box ?_ (fun K hK => ?_)); rfl; refine owp_box (o := ⟨some 7, _, _, _, _, _⟩) rfl st ?_; apply Exists.intro; refine ⟨?_, ?_⟩; (focus (go_simp; try rfl)); (clear st; intro b7 w hb st; clear hb))); (try simp only [nsl, Value.cells, unB] at st); (try clear hc); have hc := st.facts; (try simp only [nfl, nft, Nat.reduceAdd] at hc))
    obtain ⟨fr', al', st', back⟩ := st.sub [0, 3] (by decide) (by simp)
    (try simp only [nsl, Value.cells, unB] at st')
    refine (HA.out _ _ _ _ _ _ _ _ HR.out (by omega) st').mono ?_
    clear st'
    intro en w hg
    rw [HO.out] at hg
    cases o with
    | none =>
      obtain ⟨rfl, nx', s', st'⟩ := hg
      replace st := back _ _ (by simp) st'
      clear back st'
      (try simp only [nsl, Value.cells, unB] at st)
      (try clear hc); have hc := st.facts; (try simp only [nfl, nft, Nat.reduceAdd] at hc)
      exact leaveP_own _ b2 b3 .nilIface (by simp) (by simp) (fun x h => by cases h) st
    | some p =>
      obtain ⟨x, t⟩ := p
      obtain ⟨g, rfl, hgs, nx1, s1, hR1, st'⟩ := hg
      unfold S at st'
      simp only at hgs hR1
      have hnt : (nx1 == []) = decide (t = []) := by
        rcases hR1.2.2 with ⟨rfl, rfl, _⟩ | ⟨l, rfl, hn, _⟩
        · rfl
        · cases nx1 with
          | nil => exact absurd rfl hn
          | cons c z => rfl
      obtain ⟨ok, hok⟩ : ∃ v, decide (t = []) = v := ⟨_, rfl⟩
      rw [hok] at hnt
      have HRI : Hid (ReadIs (some (x, t)) ok g.strip) := Lib.hid (by
        unfold ReadIs
        rw [hgs]
        cases ok with
        | true => have := of_decide_eq_true hok; rw [if_pos rfl, this]
        | false => have := of_decide_eq_false hok; rw [if_neg (by decide)]; intro y h; injection h with h; injection h with h1 h2; exact this h2)
      clear hgs hR1 hok HR HO HN HA
      replace st := back _ _ (by simp) st'
      clear back st'
      (try simp only [nsl, Value.cells, unB] at st)
      (try clear hc); have hc := st.facts; (try simp only [nfl, nft, Nat.reduceAdd] at hc)
      obtain ⟨op', k', ⟨o', d'⟩, a', n', c', kids'⟩ := g
      unfold fmV S
      simp only
      (try simp only [nsl, Value.cells, unB] at st)
      (try clear hc); have hc := st.facts; (try simp only [nfl, nft, Nat.reduceAdd] at hc)
      go_wp2_with ((first
            | ((with_reducible refine wl_alloc ?_ (fun K hK => ?_)); rfl; refine owp_alloc (o := ⟨some 2, _, _, _, _, _⟩) rfl st ?_; apply Exists.intro; apply Exists.intro; refine ⟨?_, ?_⟩; (focus (first | (go_simp; done) | (go_simp; rfl))); (clear st; intro b2 w hb st; clear hb))
            | ((with_reducible refine wl_alloc ?_ (fun K hK => ?_)); rfl; refine owp_alloc (o := ⟨some 3, _, _, _, _, _⟩) rfl st ?_; apply Exists.intro; apply Exists.intro; refine ⟨?_, ?_⟩; (focus (first | (go_simp; done) | (go_simp; rfl))); (clear st; intro b3 w hb st; clear hb))
            | ((with_reducible refine wl_store ?_ (fun K hK => ?_)); rfl; refine owp_store rfl st ?_; apply Exists.intro; apply Exists.intro; refine ⟨?_, ?_, ?_⟩; (focus (go_simp; try rfl)); (focus (go_simp; try rfl)); (first | (with_reducible refine ⟨0, _, _, _, _, get0, rfl, rfl, ?_, ?_, ?_, ?_⟩) | (with_reducible refine ⟨1, _, _, _, _, get1, rfl, rfl, ?_, ?_, ?_, ?_⟩) | (with_reducible refine ⟨2, _, _, _, _, get2, rfl, rfl, ?_, ?_, ?_, ?_⟩) | (with_reducible refine ⟨3, _, _, _, _, get3, rfl, rfl, ?_, ?_, ?_, ?_⟩) | (with_reducible refine ⟨4, _, _, _, _, get4, rfl, rfl, ?_, ?_, ?_, ?_⟩) | (with_reducible refine ⟨5, _, _, _, _, get5, rfl, rfl, ?_, ?_, ?_, ?_⟩)); (kernel_rfl); (simp [Value.cells]); (rfl); (clear st; intro w st))
            | ((with_reducible refine wl_box ?_ (fun K hK => ?_)); rfl; refine owp_box (o := ⟨some 7, _, _, _, _, _⟩) rfl st ?_; apply Exists.intro; refine ⟨?_, ?_⟩; (focus (go_simp; try rfl)); (clear st; intro b7 w hb st; clear hb))); (try simp only [nsl, Value.cells, unB] at st); (try clear hc); have hc := st.facts; (try simp only [nfl, nft, Nat.reduceAdd] at hc))
      refine Code.wp_mono (fun e a w h => NoPan.to h) ?_
      refine Rg4.wp_region4_eq #[0, 0, 2, 6, 14, 30, 1, 127] [6, 7] [0] (fun W' => Blk W' b7 [.string ⟨s1.toArray⟩, .string ⟨nx1.toArray⟩]) [0, 1, 2, 3, 4, 5, 6, 7] (by kernel_rfl) (by kernel_rfl) (by kernel_rfl) (by kernel_rfl) pb_noPan (st.drew.blk (i := 3) get3) ?_
      replace st := st.drew
      change Rg4.wp4 _ _ _ _ _ _ _ _ _ (World.drew _) _ _
      generalize World.drew _ = w at st ⊢
      (try clear hc); have hc := st.facts; (try simp only [nfl, nft, Nat.reduceAdd] at hc)
      (refine Rg4.w4_read (Rg4.want_none rfl) rfl rfl ?_; apply Exists.intro; refine ⟨fun w' hw' hcl' => ?_, ?_⟩; focus (subst hw'; (focus (first | (go_simp; done) | (go_simp; first | rfl | (rw [if_neg] <;> first | rfl | omega) | (rw [if_pos] <;> first | rfl | omega))))); (try simp only [Rg4.nrm]))
      iterate 3 (refine Rg4.w4_any (Rg4.want_none rfl) rfl ?_; apply Exists.intro; refine ⟨fun w' => ?_, ?_⟩; (focus (first | (go_simp; done) | (go_simp; first | rfl | (rw [if_neg] <;> first | rfl | omega) | (rw [if_pos] <;> first | rfl | omega)))); (try simp only [Rg4.nrm]))
      (refine Rg4.w4_cl (Rg4.want_none rfl) rfl ?_; apply Exists.intro; refine ⟨fun w' hcl => ?_, ?_⟩; (focus (have q1 := Blk.cell hcl 1; (try simp at q1); (focus (first | (go_simp; done) | (go_simp; first | rfl | (rw [if_neg] <;> first | rfl | omega) | (rw [if_pos] <;> first | rfl | omega)))))); (try simp only [Rg4.nrm]))
      (refine Rg4.w4_any (Rg4.want_none rfl) rfl ?_; apply Exists.intro; refine ⟨fun w' => ?_, ?_⟩; (focus (first | (go_simp; done) | (go_simp; first | rfl | (rw [if_neg] <;> first | rfl | omega) | (rw [if_pos] <;> first | rfl | omega)))); (try simp only [Rg4.nrm]))
      iterate 2 (refine Rg4.w4_bar (Rg4.want_none rfl) rfl (fun w' hw' hcl' _ K hK => ?_); subst hw'; (refine owp_store rfl st ?_; apply Exists.intro; apply Exists.intro; refine ⟨?_, ?_, ?_⟩; (focus (go_simp; try rfl)); (focus (go_simp; try rfl)); (first | (with_reducible refine ⟨0, _, _, _, _, get0, rfl, rfl, ?_, ?_, ?_, ?_⟩) | (with_reducible refine ⟨1, _, _, _, _, get1, rfl, rfl, ?_, ?_, ?_, ?_⟩) | (with_reducible refine ⟨2, _, _, _, _, get2, rfl, rfl, ?_, ?_, ?_, ?_⟩) | (with_reducible refine ⟨3, _, _, _, _, get3, rfl, rfl, ?_, ?_, ?_, ?_⟩) | (with_reducible refine ⟨4, _, _, _, _, get4, rfl, rfl, ?_, ?_, ?_, ?_⟩) | (with_reducible refine ⟨5, _, _, _, _, get5, rfl, rfl, ?_, ?_, ?_, ?_⟩)); (kernel_rfl); (simp [Value.cells]); (rfl); (clear st; intro w st); (try simp only [nsl, Value.cells, unB] at st); (try clear hc); have hc := st.facts; (try simp only [nfl, nft, Nat.reduceAdd] at hc)); refine hK _ _ ⟨st.blk (i := 3) get3, ?_⟩; (try simp only [Rg4.nrm]))
      refine Rg4.w4_nil (fun w' hw' hcl' _ => ?_); subst hw'; clear hcl'
      simp only [NoPan]
      go_wp2_with fail
      exact leaveP_back (g := .mk op' k' (o', d') a' n' c' kids') _ b2 b3 (by simp) (by simp) HRI.out (by simpa [fmC, S] using st)
end
end Go.Proofs.YtnemipgmkenemaaDoor

namespace Go.Proofs.YtnemipgmkenemaaDoor
set_option linter.unusedSimpArgs false
set_option linter.unusedVariables false
open Go Go.RowKit
def SmP (one : List Tok → PRes) : Prop := ∀ t x t', one t = some (x, t') → x.nodes + t'.length ≤ t.length ∧ FoL 100000 x
section
variable {b : Bool} {one : List Tok → PRes}
theorem stT_drop {t t' : List Tok} {w : Tok} (hw : w ≠ []) (hn : nxT t = w) (h : stT b t = some t') : t'.length + 1 = t.length := by
  obtain ⟨l, rfl⟩ := nxT_pos hw hn
  rw [(stT_len h).2]
  simp
theorem moreP_small {w : Tok} (hw : w ≠ []) (ho : SmP one) : ∀ (g : Nat) (l : List Fo) (t : List Tok) (l' : List Fo) (t' : List Tok), (∀ x ∈ l, FoL 100000 x) → moreP b w one g l t = some (l', t') →
    nodesL l' + l'.length + t'.length ≤ nodesL l + l.length + t.length ∧ l.length ≤ l'.length ∧ ∀ x ∈ l', FoL 100000 x := by
  intro g
  induction g with
  | zero =>
    intro l t l' t' hl h
    simp only [moreP, Option.some.injEq, Prod.mk.injEq] at h
    obtain ⟨rfl, rfl⟩ := h
    exact ⟨Nat.le_refl _, Nat.le_refl _, hl⟩
  | succ g ih =>
    intro l t l' t' hl h
    rw [moreP] at h
    split at h
    · rename_i hn
      rw [Option.bind_eq_some_iff] at h
      obtain ⟨t1, h1, h2⟩ := h
      rw [Option.bind_eq_some_iff] at h2
      obtain ⟨⟨x, t2⟩, h3, h4⟩ := h2
      have e1 := stT_drop hw hn h1
      obtain ⟨e2, e3⟩ := ho _ _ _ h3
      have e4 := ih (l ++ [x]) t2 l' t' (fun y hy => by
        rcases List.mem_append.1 hy with q | q
        · exact hl y q
        · rw [List.mem_singleton.1 q]; exact e3) h4
      rw [nodesL_snoc, List.length_append, List.length_singleton] at e4
      exact ⟨by omega, by omega, e4.2.2⟩
    · simp only [Option.some.injEq, Prod.mk.injEq] at h
      obtain ⟨rfl, rfl⟩ := h
      exact ⟨Nat.le_refl _, Nat.le_refl _, hl⟩
theorem nodesL_one (x : Fo) : nodesL [x] = x.nodes := by simp [nodesL]
theorem joinP_small {w : Tok} {op : Int} (hw : w ≠ []) (ho : SmP one) : SmP (joinP b w op one) := by
  intro t x t' h
  unfold joinP at h
  rw [Option.bind_eq_some_iff] at h
  obtain ⟨⟨y, t1⟩, h1, h2⟩ := h
  rw [Option.map_eq_some_iff] at h2
  obtain ⟨⟨l, t2⟩, h3, h4⟩ := h2
  simp only [Prod.mk.injEq] at h4 h3
  obtain ⟨rfl, rfl⟩ := h4
  obtain ⟨e1, e2⟩ := ho _ _ _ h1
  obtain ⟨e3, e4, e5⟩ := moreP_small hw ho _ _ _ _ _ (by simpa using e2) h3
  rw [nodesL_one, List.length_singleton] at e3
  by_cases hl : l.length = 1
  · obtain ⟨z, rfl⟩ := List.length_eq_one_iff.1 hl
    rw [nodesL_one, List.length_singleton] at e3
    exact ⟨by show z.nodes + _ ≤ _; omega, e5 z (by simp)⟩
  · rw [joined_many _ _ hl]
    rw [List.length_singleton] at e4
    exact ⟨by rw [Fo.nodes]; omega, FoL.mk (by simp) (by simp) e5⟩
theorem anyP_small (ho : SmP one) : SmP (anyP b one) := joinP_small (by decide) (joinP_small (by decide) ho)
theorem takeP_drop {t t' : List Tok} {w : Tok} (hw : w ≠ []) (h : takeP b w t = some t') : t'.length + 1 = t.length := by
  unfold takeP at h
  split at h
  · rename_i hn; exact stT_drop hw hn h
  · cases h
theorem listP_small (ho : SmP one) {t t' : List Tok} {l : List Fo} (h : listP b one t = some (l, t')) : nodesL l + t'.length + 1 ≤ t.length ∧ ∀ x ∈ l, FoL 100000 x := by
  unfold listP at h
  rw [Option.bind_eq_some_iff] at h
  obtain ⟨t1, h1, h2⟩ := h
  have e1 := takeP_drop (by decide) h1
  split at h2
  · rename_i hn
    rw [Option.map_eq_some_iff] at h2
    obtain ⟨t2, h3, h4⟩ := h2
    simp only [Prod.mk.injEq] at h4
    obtain ⟨rfl, rfl⟩ := h4
    have e2 := stT_drop (by decide) hn h3
    exact ⟨by simp only [nodesL]; omega, by simp⟩
  · rw [Option.bind_eq_some_iff] at h2
    obtain ⟨⟨y, t2⟩, h3, h4⟩ := h2
    rw [Option.bind_eq_some_iff] at h4
    obtain ⟨⟨q, t3⟩, h5, h6⟩ := h4
    rw [Option.map_eq_some_iff] at h6
    obtain ⟨t4, h7, h8⟩ := h6
    simp only [Prod.mk.injEq] at h8 h5 h7
    obtain ⟨rfl, rfl⟩ := h8
    obtain ⟨e2, e3⟩ := anyP_small ho _ _ _ h3
    obtain ⟨e4, e5, e6⟩ := moreP_small (by decide) (anyP_small ho) _ _ _ _ _ (by simpa using e3) h5
    rw [nodesL_one, List.length_singleton] at e4
    have e7 := takeP_drop (by decide) h7
    rw [List.length_singleton] at e5
    exact ⟨by omega, e6⟩
theorem roleR_L {r : Role} (h : roleR r = true) : r.1.length ≤ 100000 ∧ r.2.length ≤ 100000 := by
  obtain ⟨o, d⟩ := r
  have hr : nameR o = true ∧ nameR d = true := by simpa [roleR] using h
  have h1 := (nameR_len hr.1).2
  have h2 := (nameR_len hr.2).2
  exact ⟨by simp only; omega, by simp only; omega⟩
theorem roleP_R {s : List UInt8} {r : Role} (h : roleP s = some r) : roleR r = true := by
  unfold roleP at h
  split at h
  · cases h
  · rename_i q _
    split at h
    · rename_i hr; injection h with h; rw [← h]; exact hr
    · cases h
theorem oneB_small (ho : SmP one) : SmP (oneB b one) := by
  intro t x t' h
  unfold oneB at h
  split at h
  · rename_i hn
    rw [Option.bind_eq_some_iff] at h
    obtain ⟨t1, h1, h2⟩ := h
    rw [Option.bind_eq_some_iff] at h2
    obtain ⟨⟨y, t2⟩, h3, h4⟩ := h2
    rw [Option.map_eq_some_iff] at h4
    obtain ⟨t3, h5, h6⟩ := h4
    simp only [Prod.mk.injEq] at h6 h5
    obtain ⟨rfl, rfl⟩ := h6
    have e1 := stT_drop (by decide) hn h1
    obtain ⟨e2, e3⟩ := anyP_small ho _ _ _ h3
    have e4 := takeP_drop (by decide) h5
    exact ⟨by omega, e3⟩
  · split at h
    · rename_i hn
      rw [Option.bind_eq_some_iff] at h
      obtain ⟨t1, h1, h2⟩ := h
      rw [Option.map_eq_some_iff] at h2
      obtain ⟨⟨l, t2⟩, h3, h4⟩ := h2
      simp only [Prod.mk.injEq] at h4
      obtain ⟨rfl, rfl⟩ := h4
      have e1 := stT_drop (by decide) hn h1
      obtain ⟨e2, e3⟩ := listP_small ho h3
      exact ⟨by rw [Fo.nodes]; omega, FoL.mk (by simp) (by simp) e3⟩
    · split at h
      · rename_i hn
        rw [Option.bind_eq_some_iff] at h
        obtain ⟨t1, h1, h2⟩ := h
        rw [Option.map_eq_some_iff] at h2
        obtain ⟨⟨l, t2⟩, h3, h4⟩ := h2
        simp only [Prod.mk.injEq] at h4
        obtain ⟨rfl, rfl⟩ := h4
        have e1 := stT_drop (by decide) hn h1
        obtain ⟨e2, e3⟩ := listP_small ho h3
        exact ⟨by rw [Fo.nodes]; omega, FoL.mk (by simp) (by simp) e3⟩
      · split at h
        · rename_i hn
          rw [Option.bind_eq_some_iff] at h
          obtain ⟨t1, h1, h2⟩ := h
          rw [Option.bind_eq_some_iff] at h2
          obtain ⟨k, _, h3⟩ := h2
          rw [Option.bind_eq_some_iff] at h3
          obtain ⟨t2, h4, h5⟩ := h3
          rw [Option.map_eq_some_iff] at h5
          obtain ⟨⟨l, t3⟩, h6, h7⟩ := h5
          simp only [Prod.mk.injEq] at h7
          obtain ⟨rfl, rfl⟩ := h7
          have e1 := stT_drop (by decide) hn h1
          have e2 := (stT_len h4).1
          obtain ⟨e3, e4⟩ := listP_small ho h6
          exact ⟨by rw [Fo.nodes]; omega, FoL.mk (by simp) (by simp) e4⟩
        · rw [Option.bind_eq_some_iff] at h
          obtain ⟨r, hr, h2⟩ := h
          rw [Option.map_eq_some_iff] at h2
          obtain ⟨t1, h3, h4⟩ := h2
          simp only [Prod.mk.injEq] at h4
          obtain ⟨rfl, rfl⟩ := h4
          have hl := roleR_L (roleP_R hr)
          cases t with
          | nil => rw [show nxT [] = [] from rfl, roleP_nil] at hr; cases hr
          | cons c l =>
            rw [(stT_len h3).2]
            exact ⟨by rw [Fo.nodes]; simp [nodesL]; omega, FoL.mk hl.1 hl.2 (by simp)⟩
theorem oneP_small (b : Bool) : ∀ f, SmP (oneP b f)
  | 0 => fun t x t' h => by cases h
  | f + 1 => oneB_small (oneP_small b f)
end
end Go.Proofs.YtnemipgmkenemaaDoor

namespace Go.Proofs.YtnemipgmkenemaaDoor
set_option linter.unusedSimpArgs false
set_option linter.unusedVariables false
open Go Go.RowKit
def Fm.kids : Fm → List Fm
  | .mk _ _ _ _ _ _ l => l
theorem fms_ind {Q : List Fm → Prop} (h : ∀ l, (∀ x ∈ l, Q x.kids) → Q l) (l : List Fm) : Q l := h l fun x _ => Fm.ind (P := fun f => Q f.kids) (fun _ _ _ _ _ _ kids ih => h kids ih) x
theorem map_snoc_strip (l : List Fm) (j : Nat) (h : j < l.length) : (l.take (j + 1)).map Fm.strip = (l.take j).map Fm.strip ++ [l[j].strip] := by
  rw [← List.take_append_getElem h, List.map_append]; rfl
theorem greatL_take : ∀ (l : List Fo) (j : Nat), greatL (l.take j) ≤ greatL l
  | [], j => by simp [greatL]
  | x :: l, 0 => by simp [greatL]
  | x :: l, j + 1 => by have := greatL_take l j; rw [List.take_succ_cons, greatL, greatL]; omega
theorem deepL_take : ∀ (l : List Fo) (j : Nat), deepL (l.take j) ≤ deepL l
  | [], j => by simp [deepL]
  | x :: l, 0 => by simp [deepL]
  | x :: l, j + 1 => by have := deepL_take l j; rw [List.take_succ_cons, deepL, deepL]; omega
theorem greatL_len : ∀ l : List Fo, l.length ≤ greatL l
  | [] => by simp [greatL]
  | x :: l => by have := greatL_len l; have := great_nodes x; have := nodes_pos x; rw [greatL, List.length_cons]; omega
set_option maxRecDepth 100000 in
set_option maxHeartbeats 1000000 in
theorem fmGreat_any (l : List Fm) : ∀ (a : Option Addr) (n c : Nat) (W : World), Fl W a n l → (∀ x ∈ l, FmOk W x) → greatL (l.map Fm.strip) ≤ 2000000000 →
    Calls Tryd.prog 5 #[.slice a n c] W fun e w' => e = .returned (.int .i64 (greatL (l.map Fm.strip) : Int)) ∧ Ext W w' := by
  induction l using fms_ind
  rename_i l ih
  intro a n c W h hk hs
  have H := Lib.hid h
  have HK := Lib.hid hk
  have HI := Lib.hid ih
  have HN : Hid (n = l.length) := Lib.hid h.1
  have HS := Lib.hid hs
  have hn : n ≤ 2000000000 := by have := greatL_len (l.map Fm.strip); rw [List.length_map] at this; have := h.1; omega
  clear h hk ih hs
  have st := Own.startOld W
  (try simp only [nsl, Value.cells, unB] at st)
  (try clear hc); have hc := st.facts; (try simp only [nfl, nft, Nat.reduceAdd] at hc)
  go_enter Tryd.func5, Tryd.ntmps5
  go_wp2_with fail
  go_loopg [3, 8] n (fun q s i wr => ∃ (j g : Nat), j ≤ n ∧ q = n - j ∧ s = .int .i64 (g : Int) ∧ i = .int .i64 (j : Int) ∧ g ≤ 2000000000 ∧ Hid (g = greatL ((l.take j).map Fm.strip)) ∧ Own (fun _ => False) (fun _ => True) W [oldI W] wr)
  case atStart => exact ⟨0, 0, by omega, by omega, rfl, rfl, by omega, Lib.hid (by simp [greatL]), st⟩
  case round =>
    obtain ⟨j, g, hj, rfl, rfl, rfl, hg, HG, st'⟩ := hrel
    clear st hc
    have st := st'
    clear st'
    by_cases hjn : j < n
    · obtain ⟨b, off, ha, hcell⟩ := (st.oldFl (i := 0) get0 H.out).fm (by omega)
      have hjl : j < l.length := by have := HN.out; omega
      have hsn := map_snoc_strip l j hjl
      have hle := greatL_take (l.map Fm.strip) (j + 1)
      rw [← List.map_take, hsn, greatL_snoc, ← HG.out] at hle
      have hsv := HS.out
      have hok := HK.out _ (List.getElem_mem hjl)
      have hih := HI.out _ (List.getElem_mem hjl)
      have hgt := List.getElem?_eq_getElem hjl
      generalize l[j] = x at *
      obtain ⟨op, k, ⟨o, d⟩, a', n', c', kids⟩ := x
      obtain ⟨r0, r1, r2, r3, r4⟩ := hcell j op k (o, d) a' n' c' kids hgt
      simp only [Fm.kids] at hih
      rw [strip_mk, Fo.great] at hle
      simp only at hle r2 r3
      have HC := Lib.hid (fun W' (hx : Ext W W') => hih a' n' c' W' (Arr.ext hok.fl hx) (fun x hx' => (hok.kids x hx').ext hx) (by omega))
      obtain ⟨gk, hgk⟩ : ∃ g, greatL (kids.map Fm.strip) = g := ⟨_, rfl⟩
      rw [hgk] at HC hle
      have HG2 : Hid (g + (1 + (o.length + d.length) / 16 + gk) = greatL ((l.take (j + 1)).map Fm.strip)) := Lib.hid (by rw [hsn, greatL_snoc, ← HG.out, strip_mk, Fo.great, hgk])
      clear hcell hjl hsn hok hih hgt hgk
      subst ha
      unfold S at r2 r3
      have hszz : ∀ s : List UInt8, (⟨s.toArray⟩ : ByteArray).size = s.length := fun s => by simp [ByteArray.size]
      obtain ⟨ol, hol⟩ : ∃ m, o.length = m := ⟨_, rfl⟩
      obtain ⟨dl, hdl⟩ : ∃ m, d.length = m := ⟨_, rfl⟩
      obtain ⟨q16, hq16⟩ : ∃ m, (ol + dl) / 16 = m := ⟨_, rfl⟩
      rw [hol, hdl, hq16] at hle HG2
      have zq : ((ol : Int) + (dl : Int)).tdiv 16 = (q16 : Int) := by rw [Int.tdiv_eq_ediv_of_nonneg (by omega)]; omega
      have zol : ol + dl ≤ 16 * q16 + 15 := by omega
      have zw : IntKind.i64.wrap ((ol : Int) + (dl : Int)) = (ol : Int) + (dl : Int) := IntWalk.i64_in _ ⟨by omega, by omega⟩
      have z1 : IntKind.i64.wrap (1 + (q16 : Int)) = 1 + (q16 : Int) := IntWalk.i64_in _ ⟨by omega, by omega⟩
      have z1b : IntKind.i64.wrap (q16 : Int) = (q16 : Int) := IntWalk.i64_in _ ⟨by omega, by omega⟩
      have z2 : IntKind.i64.wrap (1 + (q16 : Int) + (gk : Int)) = 1 + (q16 : Int) + (gk : Int) := IntWalk.i64_in _ ⟨by omega, by omega⟩
      have z3 : IntKind.i64.wrap ((g : Int) + (1 + (q16 : Int) + (gk : Int))) = ((g + (1 + q16 + gk) : Nat) : Int) := by rw [IntWalk.i64_in _ ⟨by omega, by omega⟩]; omega
      have hll := And.intro hol hdl
      have HLL := Lib.hid hll
      clear hol hdl hq16 hll
      have ho1 : (⟨o.toArray⟩ : ByteArray).size = ol := by rw [hszz]; exact HLL.out.1
      have hd1 : (⟨d.toArray⟩ : ByteArray).size = dl := by rw [hszz]; exact HLL.out.2
      clear hszz
      (try simp only [nsl, Value.cells, unB] at st)
      (try clear hc); have hc := st.facts; (try simp only [nfl, nft, Nat.reduceAdd] at hc)
      go_wp2_with ((first
            | ((with_reducible refine wl_alloc ?_ (fun K hK => ?_)); rfl; refine owp_alloc (o := ⟨some 5, _, _, _, _, _⟩) rfl st ?_; apply Exists.intro; apply Exists.intro; refine ⟨?_, ?_⟩; (focus (first | (go_simp; done) | (go_simp; rfl))); (clear st; intro b5 w hb st; clear hb))
            | ((with_reducible refine wl_store ?_ (fun K hK => ?_)); rfl; refine owp_store rfl st ?_; apply Exists.intro; apply Exists.intro; refine ⟨?_, ?_, ?_⟩; (focus (go_simp; try rfl)); (focus (go_simp; try rfl)); (first | (with_reducible refine ⟨0, _, _, _, _, get0, rfl, rfl, ?_, ?_, ?_, ?_⟩) | (with_reducible refine ⟨1, _, _, _, _, get1, rfl, rfl, ?_, ?_, ?_, ?_⟩) | (with_reducible refine ⟨2, _, _, _, _, get2, rfl, rfl, ?_, ?_, ?_, ?_⟩) | (with_reducible refine ⟨3, _, _, _, _, get3, rfl, rfl, ?_, ?_, ?_, ?_⟩)); (kernel_rfl); (simp [Value.cells]); (rfl); (clear st; intro w st))); (try simp only [nsl, Value.cells, unB] at st); (try clear hc); have hc := st.facts; (try simp only [nfl, nft, Nat.reduceAdd] at hc))
      refine Rg4.wp_region4 (Rel := Ext) #[0, 0, 2, 6, 14, 0, 32, 96, 224, 510, 1022, 2046, 0, 4096, 12288, 32766, 65535, 131071]
        [(14, .val (.int .i64 (gk : Int)))] [] [3, 7, 13] (fun _ => True) [0, 1, 2, 3, 4, 5, 6, 7, 8, 9, 10, 11, 12, 13, 14, 15, 16, 17] (by kernel_rfl) (by kernel_rfl) (by kernel_rfl) (by kernel_rfl) Ext.refl (fun _ _ _ => Ext.trans) (show Rg4.PB _ by repeat (first | with_reducible exact Rg4.pb_body | with_reducible exact Rg4.pb_bodyD rfl | with_reducible refine Rg4.pb_then ?_ | with_reducible refine Rg4.pb_inBlock ?_ | with_reducible refine Rg4.pb_noGoto ?_ | with_reducible assumption)) (trivial) ?_
      replace st := st.drew
      change Rg4.wp4 _ _ _ _ _ _ _ _ _ (World.drew _) _ _
      generalize World.drew _ = w at st ⊢
      (try clear hc); have hc := st.facts; (try simp only [nfl, nft, Nat.reduceAdd] at hc)
      iterate 3 (refine Rg4.w4_any (Rg4.want_none rfl) rfl ?_; apply Exists.intro; refine ⟨fun w' => ?_, ?_⟩; (focus (first | (go_simp; done) | (go_simp; first | rfl | (rw [if_neg] <;> first | rfl | omega) | (rw [if_pos] <;> first | rfl | omega)))); (try simp only [Rg4.nrm]))
      (refine Rg4.w4_read (Rg4.want_none rfl) rfl rfl ?_; apply Exists.intro; refine ⟨fun w' hw' hcl' => ?_, ?_⟩; focus (have st' := st.ext hw'; have hc' := st'.facts; (try simp only [nfl, nft, Nat.reduceAdd] at hc'); (focus (first | (go_simp; done) | (go_simp; first | rfl | (rw [if_neg] <;> first | rfl | omega) | (rw [if_pos] <;> first | rfl | omega))))); (try simp only [Rg4.nrm]))
      iterate 3 (refine Rg4.w4_any (Rg4.want_none rfl) rfl ?_; apply Exists.intro; refine ⟨fun w' => ?_, ?_⟩; (focus (first | (go_simp; done) | (go_simp; first | rfl | (rw [if_neg] <;> first | rfl | omega) | (rw [if_pos] <;> first | rfl | omega)))); (try simp only [Rg4.nrm]))
      (refine Rg4.w4_read (Rg4.want_none rfl) rfl rfl ?_; apply Exists.intro; refine ⟨fun w' hw' hcl' => ?_, ?_⟩; focus (have st' := st.ext hw'; have hc' := st'.facts; (try simp only [nfl, nft, Nat.reduceAdd] at hc'); (focus (first | (go_simp; done) | (go_simp; first | rfl | (rw [if_neg] <;> first | rfl | omega) | (rw [if_pos] <;> first | rfl | omega))))); (try simp only [Rg4.nrm]))
      iterate 5 (refine Rg4.w4_any (Rg4.want_none rfl) rfl ?_; apply Exists.intro; refine ⟨fun w' => ?_, ?_⟩; (focus (first | (go_simp; done) | (go_simp; first | rfl | (rw [if_neg] <;> first | rfl | omega) | (rw [if_pos] <;> first | rfl | omega)))); (try simp only [Rg4.nrm]))
      (refine Rg4.w4_read (Rg4.want_none rfl) rfl rfl ?_; apply Exists.intro; refine ⟨fun w' hw' hcl' => ?_, ?_⟩; focus (have st' := st.ext hw'; have hc' := st'.facts; (try simp only [nfl, nft, Nat.reduceAdd] at hc'); (focus (first | (go_simp; done) | (go_simp; first | rfl | (rw [if_neg] <;> first | rfl | omega) | (rw [if_pos] <;> first | rfl | omega))))); (try simp only [Rg4.nrm]))
      refine Rg4.w4_some (Rg4.want_none rfl) rfl (fun w' hw' hcl' _ => ?_) ?_
      · refine Rg.relAt_call (by go_simp; exact ⟨rfl, rfl⟩) ?_
        have st' := st.ext hw'
        refine (HC.out _ st'.ext0).mono ?_
        rintro en w'' ⟨rfl, hx⟩
        exact ⟨_, rfl, hx, trivial, rfl⟩
      rintro v ⟨_, _, _, rfl⟩
      (try simp only [Rg4.nrm])
      iterate 3 (refine Rg4.w4_any (Rg4.want_none rfl) rfl ?_; apply Exists.intro; refine ⟨fun w' => ?_, ?_⟩; (focus (first | (go_simp; done) | (go_simp; first | rfl | (rw [if_neg] <;> first | rfl | omega) | (rw [if_pos] <;> first | rfl | omega)))); (try simp only [Rg4.nrm]))
      refine Rg4.w4_nil (fun w' hw' hcl' _ => ?_); replace st := st.ext hw'; clear hw' hcl'; (try clear hc); have hc := st.facts; (try simp only [nfl, nft, Nat.reduceAdd] at hc)
      go_wp2_with fail
      have st' := st.keep [0] (by decide) (by simp)
      go_roundg (n - (j + 1))
      case measure => omega
      case rel => exact ⟨j + 1, g + (1 + q16 + gk), by omega, rfl, by go_num, by go_num, by omega, HG2, by simpa [pick] using st'⟩
    · obtain rfl : j = n := by omega
      have htk : greatL (l.map Fm.strip) = g := by rw [HG.out, List.take_of_length_le (by have := HN.out; omega)]
      have HE := Lib.hid htk
      clear htk
      go_wp2_with fail
      go_ret
      exact ⟨by rw [HE.out]; rfl, st.ext0⟩
/-- What a count up to a number is. -/
def CntIs (most N D n d : Nat) : Prop := n ≤ N ∧ d ≤ D ∧ (N ≤ most → n = N ∧ d = D) ∧ (most < N → most < n)
theorem CntIs.step {most N D n d K E m e : Nat} (h : CntIs most N D n d) (hn : n ≤ most) (hk : CntIs (most - n) K E m e) : CntIs most (N + K) (max D E) (n + m) (max d e) := by
  unfold CntIs at *
  obtain ⟨h1, h2, h3, h4⟩ := h
  obtain ⟨k1, k2, k3, k4⟩ := hk
  have hN : N ≤ most := by omega
  obtain ⟨e1, e2⟩ := h3 hN
  refine ⟨by omega, by omega, fun q => ?_, fun q => by omega⟩
  obtain ⟨f1, f2⟩ := k3 (by omega)
  subst e1 e2 f1 f2
  exact ⟨rfl, rfl⟩
set_option maxRecDepth 100000 in
set_option maxHeartbeats 1000000 in
theorem fmCount_any (f : Fm) : ∀ (W : World) (most : Nat), FmOk W f → f.strip.nodes ≤ 1000000000 → most ≤ 1000000000 →
    Calls Tryd.prog 19 #[fmV f, .int .i64 (most : Int)] W fun e w' => ∃ n d, e = .returned (.tuple #[.int .i64 ((n : Nat) : Int), .int .i64 ((d : Nat) : Int)]) ∧ CntIs most f.strip.nodes f.strip.deep n d ∧ Ext W w' := by
  induction f using Fm.ind
  rename_i op k r a n c kids ih
  intro W most hok hs hm
  obtain ⟨o, d⟩ := r
  rw [strip_mk] at *
  rw [Fo.nodes] at hs ⊢
  rw [Fo.deep]
  have H := Lib.hid hok.fl
  have HK := Lib.hid hok.kids
  have HI := Lib.hid ih
  have HN : Hid (n = kids.length) := Lib.hid hok.fl.1
  have hn : n ≤ 1000000000 := by have := nodesL_len (kids.map Fm.strip); rw [List.length_map] at this; have := hok.fl.1; omega
  have hdn : deepL (kids.map Fm.strip) ≤ 1000000000 := by have := deep_nodes (.mk 0 0 ([], []) (kids.map Fm.strip)); rw [Fo.deep, Fo.nodes] at this; omega
  have HS := Lib.hid hs
  have HDN := Lib.hid hdn
  clear hok ih hs hdn
  have st := Own.startOld W
  unfold fmV S
  simp only
  (try simp only [nsl, Value.cells, unB] at st)
  (try clear hc); have hc := st.facts; (try simp only [nfl, nft, Nat.reduceAdd] at hc)
  go_enter Tryd.func19, Tryd.ntmps19
  go_wp2_with ((first
        | ((with_reducible refine wl_box ?_ (fun K hK => ?_)); rfl; refine owp_box (o := ⟨some 2, _, _, _, _, _⟩) rfl st ?_; apply Exists.intro; refine ⟨?_, ?_⟩; (focus (go_simp; try rfl)); (clear st; intro b2 w hb st; clear hb))
        | ((with_reducible refine wl_alloc ?_ (fun K hK => ?_)); rfl; refine owp_alloc (o := ⟨some 9, _, _, _, _, _⟩) rfl st ?_; apply Exists.intro; apply Exists.intro; refine ⟨?_, ?_⟩; (focus (first | (go_simp; done) | (go_simp; rfl))); (clear st; intro b9 w hb st; clear hb))
        | ((with_reducible refine wl_store ?_ (fun K hK => ?_)); rfl; refine owp_store rfl st ?_; apply Exists.intro; apply Exists.intro; refine ⟨?_, ?_, ?_⟩; (focus (go_simp; try rfl)); (focus (go_simp; try rfl)); (first | (with_reducible refine ⟨0, _, _, _, _, get0, rfl, rfl, ?_, ?_, ?_, ?_⟩) | (with_reducible refine ⟨1, _, _, _, _, get1, rfl, rfl, ?_, ?_, ?_, ?_⟩) | (with_reducible refine ⟨2, _, _, _, _, get2, rfl, rfl, ?_, ?_, ?_, ?_⟩) | (with_reducible refine ⟨3, _, _, _, _, get3, rfl, rfl, ?_, ?_, ?_, ?_⟩)); (kernel_rfl); (simp [Value.cells]); (rfl); (clear st; intro w st))); (try simp only [nsl, Value.cells, unB] at st); (try clear hc); have hc := st.facts; (try simp only [nfl, nft, Nat.reduceAdd] at hc))
  go_loopg [6, 7, 15] n (fun q s t i wr => ∃ (j g e : Nat), j ≤ n ∧ q = n - j ∧ s = .int .i64 (g : Int) ∧ t = .int .i64 (e : Int) ∧ i = .int .i64 (j : Int) ∧ g ≤ 1000000000 ∧ e ≤ 1000000000 ∧ Hid (CntIs most (1 + nodesL ((kids.take j).map Fm.strip)) (deepL ((kids.take j).map Fm.strip)) g e) ∧ Own (fun _ => False) (fun _ => True) W [oldI W] wr)
  case atStart => exact ⟨0, 1, 0, by omega, by omega, rfl, rfl, rfl, by omega, by omega, Lib.hid (by simp only [List.take_zero, List.map_nil, nodesL, deepL]; unfold CntIs; exact ⟨by omega, by omega, fun _ => ⟨rfl, rfl⟩, fun _ => by omega⟩), by have st' := st.keep [0] (by decide) (by simp); simpa [pick] using st'⟩
  case round =>
    obtain ⟨j, g, e, hj, rfl, rfl, rfl, rfl, hg, he, HG, st'⟩ := hrel
    clear st hc
    have st := st'
    clear st'
    by_cases hjn : j < n
    · obtain ⟨b, off, ha, hcell⟩ := (st.oldFl (i := 0) get0 H.out).fm (by omega)
      have hjl : j < kids.length := by have := HN.out; omega
      have hsn := map_snoc_strip kids j hjl
      have hle := nodesL_take (kids.map Fm.strip) (j + 1)
      have hld := deepL_take (kids.map Fm.strip) (j + 1)
      rw [← List.map_take, hsn, nodesL_snoc] at hle
      rw [← List.map_take, hsn, deepL_snoc] at hld
      have hsv := HS.out
      have hdv := HDN.out
      have hok := HK.out _ (List.getElem_mem hjl)
      have hih := HI.out _ (List.getElem_mem hjl)
      have hgt := List.getElem?_eq_getElem hjl
      generalize kids[j] = x at *
      by_cases hgm : most < g
      · have HE : Hid (CntIs most (1 + nodesL (kids.map Fm.strip)) (deepL (kids.map Fm.strip) + 1) g (e + 1)) := Lib.hid (by
          have h1 := HG.out
          have h2 := nodesL_take (kids.map Fm.strip) j
          have h3 := deepL_take (kids.map Fm.strip) j
          rw [← List.map_take] at h2 h3
          unfold CntIs at *
          omega)
        obtain ⟨op', k', ⟨o', d'⟩, a', n', c', kids'⟩ := x
        obtain ⟨r0, r1, r2, r3, r4⟩ := hcell j op' k' (o', d') a' n' c' kids' hgt
        clear hcell hjl hsn hle hld hsv hdv hok hih hgt
        subst ha
        unfold S at r2 r3
        simp only at r2 r3
        (try simp only [nsl, Value.cells, unB] at st)
        (try clear hc); have hc := st.facts; (try simp only [nfl, nft, Nat.reduceAdd] at hc)
        go_wp2_with ((first
              | ((with_reducible refine wl_box ?_ (fun K hK => ?_)); rfl; refine owp_box (o := ⟨some 2, _, _, _, _, _⟩) rfl st ?_; apply Exists.intro; refine ⟨?_, ?_⟩; (focus (go_simp; try rfl)); (clear st; intro b2 w hb st; clear hb))
              | ((with_reducible refine wl_alloc ?_ (fun K hK => ?_)); rfl; refine owp_alloc (o := ⟨some 9, _, _, _, _, _⟩) rfl st ?_; apply Exists.intro; apply Exists.intro; refine ⟨?_, ?_⟩; (focus (first | (go_simp; done) | (go_simp; rfl))); (clear st; intro b9 w hb st; clear hb))
              | ((with_reducible refine wl_store ?_ (fun K hK => ?_)); rfl; refine owp_store rfl st ?_; apply Exists.intro; apply Exists.intro; refine ⟨?_, ?_, ?_⟩; (focus (go_simp; try rfl)); (focus (go_simp; try rfl)); (first | (with_reducible refine ⟨0, _, _, _, _, get0, rfl, rfl, ?_, ?_, ?_, ?_⟩) | (with_reducible refine ⟨1, _, _, _, _, get1, rfl, rfl, ?_, ?_, ?_, ?_⟩) | (with_reducible refine ⟨2, _, _, _, _, get2, rfl, rfl, ?_, ?_, ?_, ?_⟩) | (with_reducible refine ⟨3, _, _, _, _, get3, rfl, rfl, ?_, ?_, ?_, ?_⟩)); (kernel_rfl); (simp [Value.cells]); (rfl); (clear st; intro w st))); (try simp only [nsl, Value.cells, unB] at st); (try clear hc); have hc := st.facts; (try simp only [nfl, nft, Nat.reduceAdd] at hc))
        go_ret2
        exact ⟨g, e + 1, by go_num, HE.out, st.ext0⟩
      · have HC := Lib.hid (fun W' (hx : Ext W W') => hih W' (most - g) (hok.ext hx) (by omega) (by omega))
        have hkn : x.strip.nodes ≤ 1000000000 := by omega
        have hkd : x.strip.deep ≤ 1000000000 := by omega
        have HST : Hid (∀ m e', CntIs (most - g) x.strip.nodes x.strip.deep m e' → CntIs most (1 + nodesL ((kids.take (j + 1)).map Fm.strip)) (deepL ((kids.take (j + 1)).map Fm.strip)) (g + m) (max e e') ∧ g + m ≤ 1000000000 ∧ max e e' ≤ 1000000000) := Lib.hid fun m e' hme => by
          have h1 := HG.out.step (by omega) hme
          rw [hsn, nodesL_snoc, deepL_snoc]
          have h2 := HG.out.1
          have h3 := hme.1
          have h4 := hme.2.1
          refine ⟨by rw [← Nat.add_assoc]; exact h1, by omega, by omega⟩
        obtain ⟨op', k', ⟨o', d'⟩, a', n', c', kids'⟩ := x
        obtain ⟨r0, r1, r2, r3, r4⟩ := hcell j op' k' (o', d') a' n' c' kids' hgt
        generalize (Fm.mk op' k' (o', d') a' n' c' kids').strip.nodes = N1 at *
        generalize (Fm.mk op' k' (o', d') a' n' c' kids').strip.deep = D1 at *
        unfold fmV S at HC
        simp only at HC
        clear hcell hjl hsn hle hld hsv hdv hok hih hgt
        subst ha
        unfold S at r2 r3
        simp only at r2 r3
        have zs : IntKind.i64.wrap ((most : Int) - (g : Int)) = ((most - g : Nat) : Int) := by rw [IntWalk.i64_in _ ⟨by omega, by omega⟩]; omega
        have hgm2 : ¬ (most : Int) < (g : Int) := by omega
        (try simp only [nsl, Value.cells, unB] at st)
        (try clear hc); have hc := st.facts; (try simp only [nfl, nft, Nat.reduceAdd] at hc)
        go_wp2_with ((first
              | ((with_reducible refine wl_box ?_ (fun K hK => ?_)); rfl; refine owp_box (o := ⟨some 2, _, _, _, _, _⟩) rfl st ?_; apply Exists.intro; refine ⟨?_, ?_⟩; (focus (go_simp; try rfl)); (clear st; intro b2 w hb st; clear hb))
              | ((with_reducible refine wl_alloc ?_ (fun K hK => ?_)); rfl; refine owp_alloc (o := ⟨some 9, _, _, _, _, _⟩) rfl st ?_; apply Exists.intro; apply Exists.intro; refine ⟨?_, ?_⟩; (focus (first | (go_simp; done) | (go_simp; rfl))); (clear st; intro b9 w hb st; clear hb))
              | ((with_reducible refine wl_store ?_ (fun K hK => ?_)); rfl; refine owp_store rfl st ?_; apply Exists.intro; apply Exists.intro; refine ⟨?_, ?_, ?_⟩; (focus (go_simp; try rfl)); (focus (go_simp; try rfl)); (first | (with_reducible refine ⟨0, _, _, _, _, get0, rfl, rfl, ?_, ?_, ?_, ?_⟩) | (with_reducible refine ⟨1, _, _, _, _, get1, rfl, rfl, ?_, ?_, ?_, ?_⟩) | (with_reducible refine ⟨2, _, _, _, _, get2, rfl, rfl, ?_, ?_, ?_, ?_⟩) | (with_reducible refine ⟨3, _, _, _, _, get3, rfl, rfl, ?_, ?_, ?_, ?_⟩)); (kernel_rfl); (simp [Value.cells]); (rfl); (clear st; intro w st))); (try simp only [nsl, Value.cells, unB] at st); (try clear hc); have hc := st.facts; (try simp only [nfl, nft, Nat.reduceAdd] at hc))
        refine (HC.out _ st.ext0).mono ?_
        rintro en w ⟨m, e', rfl, hme, hx⟩
        replace st := st.ext hx
        clear hx
        have hq := HST.out m e' hme
        have HQ := Lib.hid hq.1
        have hq2 := hq.2.1
        have hq3 := hq.2.2
        have hme1 : e' ≤ 1000000000 := by have := hme.2.1; omega
        clear hq hme
        (try simp only [nsl, Value.cells, unB] at st)
        (try clear hc); have hc := st.facts; (try simp only [nfl, nft, Nat.reduceAdd] at hc)
        go_wp2_with fail
        have st' := st.keep [0] (by decide) (by simp)
        go_roundg (n - (j + 1))
        case measure => omega
        case rel => exact ⟨j + 1, g + m, max e e', by omega, by omega, by go_num, by go_num, by go_num, hq2, hq3, HQ, by simpa [pick] using st'⟩
    · obtain rfl : j = n := by omega
      have HE : Hid (CntIs most (1 + nodesL (kids.map Fm.strip)) (deepL (kids.map Fm.strip) + 1) g (e + 1)) := Lib.hid (by
        have h1 := HG.out
        rw [List.take_of_length_le (by have := HN.out; omega)] at h1
        unfold CntIs at *
        omega)
      (try simp only [nsl, Value.cells, unB] at st)
      (try clear hc); have hc := st.facts; (try simp only [nfl, nft, Nat.reduceAdd] at hc)
      go_wp2_with fail
      go_ret2
      exact ⟨g, e + 1, by go_num, HE.out, st.ext0⟩
end Go.Proofs.YtnemipgmkenemaaDoor

namespace Go.Proofs.YtnemipgmkenemaaDoor
set_option linter.unusedSimpArgs false
set_option linter.unusedVariables false
open Go Go.RowKit
set_option maxRecDepth 100000 in
set_option maxHeartbeats 1000000 in
theorem fmSize_any (f : Fm) (W : World) (h : FmOk W f) (hs : f.strip.nodes ≤ 1000000000) :
    Calls Tryd.prog 13 #[fmV f] W fun e w' => ∃ n d, e = .returned (.tuple #[.int .i64 ((n : Nat) : Int), .int .i64 ((d : Nat) : Int)]) ∧ ((f.strip.nodes ≤ 4096 → n = f.strip.nodes ∧ d = f.strip.deep) ∧ (4096 < f.strip.nodes → n = 0 ∧ d = 0)) ∧ Ext W w' := by
  have HC := Lib.hid (fun W' (hx : Ext W W') => fmCount_any f W' 4096 (h.ext hx) hs (by omega))
  obtain ⟨op, k, ⟨o, d⟩, a, n, c, kids⟩ := f
  generalize (Fm.mk op k (o, d) a n c kids).strip.nodes = N1 at *
  generalize (Fm.mk op k (o, d) a n c kids).strip.deep = D1 at *
  clear h hs
  have st := Own.startOld W
  unfold fmV S at HC ⊢
  simp only at HC ⊢
  rw [show ((4096 : Nat) : Int) = 4096 from rfl] at HC
  (try simp only [nsl, Value.cells, unB] at st)
  (try clear hc); have hc := st.facts; (try simp only [nfl, nft, Nat.reduceAdd] at hc)
  go_enter Tryd.func13, Tryd.ntmps13
  go_wp2_with ((((with_reducible refine wl_box ?_ (fun K hK => ?_)); rfl; refine owp_box (o := ⟨some 1, _, _, _, _, _⟩) rfl st ?_; apply Exists.intro; refine ⟨?_, ?_⟩; (focus (go_simp; try rfl)); (clear st; intro b1 w hb st; clear hb))); (try simp only [nsl, Value.cells, unB] at st); (try clear hc); have hc := st.facts; (try simp only [nfl, nft, Nat.reduceAdd] at hc))
  refine (HC.out _ st.ext0).mono ?_
  rintro en w ⟨n1, d1, rfl, hcn, hx⟩
  replace st := st.ext hx
  clear hx
  have HCN := Lib.hid hcn
  clear hcn
  by_cases hb : 4096 < n1
  · have hbi : (4096 : Int) < (n1 : Int) := by omega
    clear hb
    have HB := Lib.hid hbi
    (try simp only [nsl, Value.cells, unB] at st)
    (try clear hc); have hc := st.facts; (try simp only [nfl, nft, Nat.reduceAdd] at hc)
    go_wp2_with ((((with_reducible refine wl_box ?_ (fun K hK => ?_)); rfl; refine owp_box (o := ⟨some 1, _, _, _, _, _⟩) rfl st ?_; apply Exists.intro; refine ⟨?_, ?_⟩; (focus (go_simp; try rfl)); (clear st; intro b1 w hb st; clear hb))); (try simp only [nsl, Value.cells, unB] at st); (try clear hc); have hc := st.facts; (try simp only [nfl, nft, Nat.reduceAdd] at hc))
    go_ret2
    exact ⟨0, 0, rfl, by have h1 := HCN.out; have h2 := HB.out; unfold CntIs at h1; omega, st.ext0⟩
  · have hbi : ¬ (4096 : Int) < (n1 : Int) := by omega
    clear hb
    have HB := Lib.hid hbi
    (try simp only [nsl, Value.cells, unB] at st)
    (try clear hc); have hc := st.facts; (try simp only [nfl, nft, Nat.reduceAdd] at hc)
    go_wp2_with ((((with_reducible refine wl_box ?_ (fun K hK => ?_)); rfl; refine owp_box (o := ⟨some 1, _, _, _, _, _⟩) rfl st ?_; apply Exists.intro; refine ⟨?_, ?_⟩; (focus (go_simp; try rfl)); (clear st; intro b1 w hb st; clear hb))); (try simp only [nsl, Value.cells, unB] at st); (try clear hc); have hc := st.facts; (try simp only [nfl, nft, Nat.reduceAdd] at hc))
    go_ret2
    exact ⟨n1, d1, rfl, by have h1 := HCN.out; have h2 := HB.out; unfold CntIs at h1; omega, st.ext0⟩
set_option maxRecDepth 100000 in
set_option maxHeartbeats 2000000 in
theorem fmNode_any (op k : Int) (o d : List UInt8) (a : Option Addr) (n c : Nat) (W : World) (h1 : o.length ≤ 100000) (h2 : d.length ≤ 100000) :
    Calls Tryd.prog 20 #[.agg #[.int .i64 op, .int .i64 k, .string ⟨o.toArray⟩, .string ⟨d.toArray⟩, .slice a n c]] W fun e w' => e = .returned (.bool (nodeR op k (o, d) n)) ∧ Ext W w' := by
  have HRo := Lib.hid (fun W => roleRight_any (o, d) W h1 h2)
  unfold rV S at HRo
  simp only at HRo
  clear h1 h2
  have HV : Hid (nodeR op k (o, d) n = (if op = 1 then roleR (o, d) && decide (n = 0) && decide (k = 0) else if op = 2 ∨ op = 3 then roleEq (o, d) ([], []) && decide (k = 0) else decide (op = 4) && roleEq (o, d) ([], []) && decide (0 ≤ k) && decide (k ≤ (n : Int)) && decide (1 ≤ n))) := Lib.hid (by unfold nodeR; rw [roleEq_eq])
  obtain ⟨v, hv⟩ : ∃ v, nodeR op k (o, d) n = v := ⟨_, rfl⟩
  rw [hv] at HV ⊢
  clear hv
  obtain ⟨e, he⟩ : ∃ v, roleEq (o, d) ([], []) = v := ⟨_, rfl⟩
  have heq := eqRole o d [] []
  rw [he] at HV heq
  clear he
  have st := Own.startOld W
  by_cases o1 : op = 1
  · subst o1
    have HV2 := Lib.hid (HV.out.trans (if_pos rfl))
    clear HV heq
    have b1 : ((1 : Int) == 1) = true := rfl
    (try simp only [nsl, Value.cells, unB] at st)
    (try clear hc); have hc := st.facts; (try simp only [nfl, nft, Nat.reduceAdd] at hc)
    go_enter Tryd.func20, Tryd.ntmps20
    go_wp2_with ((first
          | ((with_reducible refine wl_box ?_ (fun K hK => ?_)); rfl; refine owp_box (o := ⟨some 1, _, _, _, _, _⟩) rfl st ?_; apply Exists.intro; refine ⟨?_, ?_⟩; (focus (go_simp; try rfl)); (clear st; intro b1 w hb st; clear hb))
          | ((with_reducible refine wl_alloc ?_ (fun K hK => ?_)); rfl; refine owp_alloc (o := ⟨some 3, _, _, _, _, _⟩) rfl st ?_; apply Exists.intro; apply Exists.intro; refine ⟨?_, ?_⟩; (focus (first | (go_simp; done) | (go_simp; rfl))); (clear st; intro b3 w hb st; clear hb))
          | ((with_reducible refine wl_store ?_ (fun K hK => ?_)); rfl; refine owp_store rfl st ?_; apply Exists.intro; apply Exists.intro; refine ⟨?_, ?_, ?_⟩; (focus (go_simp; try rfl)); (focus (go_simp; try rfl)); (first | (with_reducible refine ⟨0, _, _, _, _, get0, rfl, rfl, ?_, ?_, ?_, ?_⟩) | (with_reducible refine ⟨1, _, _, _, _, get1, rfl, rfl, ?_, ?_, ?_, ?_⟩) | (with_reducible refine ⟨2, _, _, _, _, get2, rfl, rfl, ?_, ?_, ?_, ?_⟩) | (with_reducible refine ⟨3, _, _, _, _, get3, rfl, rfl, ?_, ?_, ?_, ?_⟩)); (kernel_rfl); (simp [Value.cells]); (rfl); (clear st; intro w st))); (try simp only [nsl, Value.cells, unB] at st); (try clear hc); have hc := st.facts; (try simp only [nfl, nft, Nat.reduceAdd] at hc))
    refine (HRo.out _).mono ?_
    rintro en w ⟨rfl, hx⟩
    replace st := st.ext hx
    clear hx
    (try clear hc); have hc := st.facts; (try simp only [nfl, nft, Nat.reduceAdd] at hc)
    cases hr : roleR (o, d) with
    | false =>
      have H : Hid (v = false) := Lib.hid (by rw [HV2.out, hr]; rfl)
      clear hr
      go_wp2_with ((first
            | ((with_reducible refine wl_box ?_ (fun K hK => ?_)); rfl; refine owp_box (o := ⟨some 1, _, _, _, _, _⟩) rfl st ?_; apply Exists.intro; refine ⟨?_, ?_⟩; (focus (go_simp; try rfl)); (clear st; intro b1 w hb st; clear hb))
            | ((with_reducible refine wl_alloc ?_ (fun K hK => ?_)); rfl; refine owp_alloc (o := ⟨some 3, _, _, _, _, _⟩) rfl st ?_; apply Exists.intro; apply Exists.intro; refine ⟨?_, ?_⟩; (focus (first | (go_simp; done) | (go_simp; rfl))); (clear st; intro b3 w hb st; clear hb))
            | ((with_reducible refine wl_store ?_ (fun K hK => ?_)); rfl; refine owp_store rfl st ?_; apply Exists.intro; apply Exists.intro; refine ⟨?_, ?_, ?_⟩; (focus (go_simp; try rfl)); (focus (go_simp; try rfl)); (first | (with_reducible refine ⟨0, _, _, _, _, get0, rfl, rfl, ?_, ?_, ?_, ?_⟩) | (with_reducible refine ⟨1, _, _, _, _, get1, rfl, rfl, ?_, ?_, ?_, ?_⟩) | (with_reducible refine ⟨2, _, _, _, _, get2, rfl, rfl, ?_, ?_, ?_, ?_⟩) | (with_reducible refine ⟨3, _, _, _, _, get3, rfl, rfl, ?_, ?_, ?_, ?_⟩)); (kernel_rfl); (simp [Value.cells]); (rfl); (clear st; intro w st))); (try simp only [nsl, Value.cells, unB] at st); (try clear hc); have hc := st.facts; (try simp only [nfl, nft, Nat.reduceAdd] at hc))
      go_ret
      exact ⟨by rw [H.out] <;> rfl, st.ext0⟩
    | true =>
      by_cases n0 : n = 0
      · subst n0
        by_cases k0 : k = 0
        · subst k0
          have H : Hid (v = true) := Lib.hid (by rw [HV2.out, hr]; rfl)
          clear hr
          go_wp2_with ((first
                | ((with_reducible refine wl_box ?_ (fun K hK => ?_)); rfl; refine owp_box (o := ⟨some 1, _, _, _, _, _⟩) rfl st ?_; apply Exists.intro; refine ⟨?_, ?_⟩; (focus (go_simp; try rfl)); (clear st; intro b1 w hb st; clear hb))
                | ((with_reducible refine wl_alloc ?_ (fun K hK => ?_)); rfl; refine owp_alloc (o := ⟨some 3, _, _, _, _, _⟩) rfl st ?_; apply Exists.intro; apply Exists.intro; refine ⟨?_, ?_⟩; (focus (first | (go_simp; done) | (go_simp; rfl))); (clear st; intro b3 w hb st; clear hb))
                | ((with_reducible refine wl_store ?_ (fun K hK => ?_)); rfl; refine owp_store rfl st ?_; apply Exists.intro; apply Exists.intro; refine ⟨?_, ?_, ?_⟩; (focus (go_simp; try rfl)); (focus (go_simp; try rfl)); (first | (with_reducible refine ⟨0, _, _, _, _, get0, rfl, rfl, ?_, ?_, ?_, ?_⟩) | (with_reducible refine ⟨1, _, _, _, _, get1, rfl, rfl, ?_, ?_, ?_, ?_⟩) | (with_reducible refine ⟨2, _, _, _, _, get2, rfl, rfl, ?_, ?_, ?_, ?_⟩) | (with_reducible refine ⟨3, _, _, _, _, get3, rfl, rfl, ?_, ?_, ?_, ?_⟩)); (kernel_rfl); (simp [Value.cells]); (rfl); (clear st; intro w st))); (try simp only [nsl, Value.cells, unB] at st); (try clear hc); have hc := st.facts; (try simp only [nfl, nft, Nat.reduceAdd] at hc))
          go_ret
          exact ⟨by rw [H.out] <;> rfl, st.ext0⟩
        · have H : Hid (v = false) := Lib.hid (by rw [HV2.out, hr]; simp [k0])
          have hk0 : (k == 0) = false := by simpa using k0
          clear hr k0
          go_wp2_with ((first
                | ((with_reducible refine wl_box ?_ (fun K hK => ?_)); rfl; refine owp_box (o := ⟨some 1, _, _, _, _, _⟩) rfl st ?_; apply Exists.intro; refine ⟨?_, ?_⟩; (focus (go_simp; try rfl)); (clear st; intro b1 w hb st; clear hb))
                | ((with_reducible refine wl_alloc ?_ (fun K hK => ?_)); rfl; refine owp_alloc (o := ⟨some 3, _, _, _, _, _⟩) rfl st ?_; apply Exists.intro; apply Exists.intro; refine ⟨?_, ?_⟩; (focus (first | (go_simp; done) | (go_simp; rfl))); (clear st; intro b3 w hb st; clear hb))
                | ((with_reducible refine wl_store ?_ (fun K hK => ?_)); rfl; refine owp_store rfl st ?_; apply Exists.intro; apply Exists.intro; refine ⟨?_, ?_, ?_⟩; (focus (go_simp; try rfl)); (focus (go_simp; try rfl)); (first | (with_reducible refine ⟨0, _, _, _, _, get0, rfl, rfl, ?_, ?_, ?_, ?_⟩) | (with_reducible refine ⟨1, _, _, _, _, get1, rfl, rfl, ?_, ?_, ?_, ?_⟩) | (with_reducible refine ⟨2, _, _, _, _, get2, rfl, rfl, ?_, ?_, ?_, ?_⟩) | (with_reducible refine ⟨3, _, _, _, _, get3, rfl, rfl, ?_, ?_, ?_, ?_⟩)); (kernel_rfl); (simp [Value.cells]); (rfl); (clear st; intro w st))); (try simp only [nsl, Value.cells, unB] at st); (try clear hc); have hc := st.facts; (try simp only [nfl, nft, Nat.reduceAdd] at hc))
          go_ret
          exact ⟨by rw [H.out] <;> rfl, st.ext0⟩
      · have H : Hid (v = false) := Lib.hid (by rw [HV2.out, hr]; simp [n0])
        have hn0 : ((n : Int) == 0) = false := by simp; omega
        clear hr n0
        go_wp2_with ((first
              | ((with_reducible refine wl_box ?_ (fun K hK => ?_)); rfl; refine owp_box (o := ⟨some 1, _, _, _, _, _⟩) rfl st ?_; apply Exists.intro; refine ⟨?_, ?_⟩; (focus (go_simp; try rfl)); (clear st; intro b1 w hb st; clear hb))
              | ((with_reducible refine wl_alloc ?_ (fun K hK => ?_)); rfl; refine owp_alloc (o := ⟨some 3, _, _, _, _, _⟩) rfl st ?_; apply Exists.intro; apply Exists.intro; refine ⟨?_, ?_⟩; (focus (first | (go_simp; done) | (go_simp; rfl))); (clear st; intro b3 w hb st; clear hb))
              | ((with_reducible refine wl_store ?_ (fun K hK => ?_)); rfl; refine owp_store rfl st ?_; apply Exists.intro; apply Exists.intro; refine ⟨?_, ?_, ?_⟩; (focus (go_simp; try rfl)); (focus (go_simp; try rfl)); (first | (with_reducible refine ⟨0, _, _, _, _, get0, rfl, rfl, ?_, ?_, ?_, ?_⟩) | (with_reducible refine ⟨1, _, _, _, _, get1, rfl, rfl, ?_, ?_, ?_, ?_⟩) | (with_reducible refine ⟨2, _, _, _, _, get2, rfl, rfl, ?_, ?_, ?_, ?_⟩) | (with_reducible refine ⟨3, _, _, _, _, get3, rfl, rfl, ?_, ?_, ?_, ?_⟩)); (kernel_rfl); (simp [Value.cells]); (rfl); (clear st; intro w st))); (try simp only [nsl, Value.cells, unB] at st); (try clear hc); have hc := st.facts; (try simp only [nfl, nft, Nat.reduceAdd] at hc))
        go_ret
        exact ⟨by rw [H.out] <;> rfl, st.ext0⟩
  · by_cases o2 : op = 2 ∨ op = 3
    · have HV2 := Lib.hid (HV.out.trans ((if_neg o1).trans (if_pos o2)))
      clear HV HRo
      have hkb : (k == 0) = decide (k = 0) := by by_cases q : k = 0 <;> simp [q]
      obtain ⟨kb, hkb2⟩ : ∃ b, decide (k = 0) = b := ⟨_, rfl⟩
      rw [hkb2] at hkb
      have H : Hid (v = (e && kb)) := Lib.hid (by rw [HV2.out, hkb2])
      clear hkb2 HV2
      rcases o2 with rfl | rfl
      · cases e with
        | false =>
          (try simp only [nsl, Value.cells, unB] at st)
          (try clear hc); have hc := st.facts; (try simp only [nfl, nft, Nat.reduceAdd] at hc)
          go_enter Tryd.func20, Tryd.ntmps20
          go_wp2_with ((first
                | ((with_reducible refine wl_box ?_ (fun K hK => ?_)); rfl; refine owp_box (o := ⟨some 1, _, _, _, _, _⟩) rfl st ?_; apply Exists.intro; refine ⟨?_, ?_⟩; (focus (go_simp; try rfl)); (clear st; intro b1 w hb st; clear hb))
                | ((with_reducible refine wl_alloc ?_ (fun K hK => ?_)); rfl; refine owp_alloc (o := ⟨some 3, _, _, _, _, _⟩) rfl st ?_; apply Exists.intro; apply Exists.intro; refine ⟨?_, ?_⟩; (focus (first | (go_simp; done) | (go_simp; rfl))); (clear st; intro b3 w hb st; clear hb))
                | ((with_reducible refine wl_store ?_ (fun K hK => ?_)); rfl; refine owp_store rfl st ?_; apply Exists.intro; apply Exists.intro; refine ⟨?_, ?_, ?_⟩; (focus (go_simp; try rfl)); (focus (go_simp; try rfl)); (first | (with_reducible refine ⟨0, _, _, _, _, get0, rfl, rfl, ?_, ?_, ?_, ?_⟩) | (with_reducible refine ⟨1, _, _, _, _, get1, rfl, rfl, ?_, ?_, ?_, ?_⟩) | (with_reducible refine ⟨2, _, _, _, _, get2, rfl, rfl, ?_, ?_, ?_, ?_⟩) | (with_reducible refine ⟨3, _, _, _, _, get3, rfl, rfl, ?_, ?_, ?_, ?_⟩)); (kernel_rfl); (simp [Value.cells]); (rfl); (clear st; intro w st))); (try simp only [nsl, Value.cells, unB] at st); (try clear hc); have hc := st.facts; (try simp only [nfl, nft, Nat.reduceAdd] at hc))
          go_ret
          exact ⟨by rw [H.out] <;> rfl, st.ext0⟩
        | true =>
          (try simp only [nsl, Value.cells, unB] at st)
          (try clear hc); have hc := st.facts; (try simp only [nfl, nft, Nat.reduceAdd] at hc)
          go_enter Tryd.func20, Tryd.ntmps20
          go_wp2_with ((first
                | ((with_reducible refine wl_box ?_ (fun K hK => ?_)); rfl; refine owp_box (o := ⟨some 1, _, _, _, _, _⟩) rfl st ?_; apply Exists.intro; refine ⟨?_, ?_⟩; (focus (go_simp; try rfl)); (clear st; intro b1 w hb st; clear hb))
                | ((with_reducible refine wl_alloc ?_ (fun K hK => ?_)); rfl; refine owp_alloc (o := ⟨some 3, _, _, _, _, _⟩) rfl st ?_; apply Exists.intro; apply Exists.intro; refine ⟨?_, ?_⟩; (focus (first | (go_simp; done) | (go_simp; rfl))); (clear st; intro b3 w hb st; clear hb))
                | ((with_reducible refine wl_store ?_ (fun K hK => ?_)); rfl; refine owp_store rfl st ?_; apply Exists.intro; apply Exists.intro; refine ⟨?_, ?_, ?_⟩; (focus (go_simp; try rfl)); (focus (go_simp; try rfl)); (first | (with_reducible refine ⟨0, _, _, _, _, get0, rfl, rfl, ?_, ?_, ?_, ?_⟩) | (with_reducible refine ⟨1, _, _, _, _, get1, rfl, rfl, ?_, ?_, ?_, ?_⟩) | (with_reducible refine ⟨2, _, _, _, _, get2, rfl, rfl, ?_, ?_, ?_, ?_⟩) | (with_reducible refine ⟨3, _, _, _, _, get3, rfl, rfl, ?_, ?_, ?_, ?_⟩)); (kernel_rfl); (simp [Value.cells]); (rfl); (clear st; intro w st))); (try simp only [nsl, Value.cells, unB] at st); (try clear hc); have hc := st.facts; (try simp only [nfl, nft, Nat.reduceAdd] at hc))
          go_ret
          exact ⟨by rw [H.out] <;> rfl, st.ext0⟩
      · cases e with
        | false =>
          (try simp only [nsl, Value.cells, unB] at st)
          (try clear hc); have hc := st.facts; (try simp only [nfl, nft, Nat.reduceAdd] at hc)
          go_enter Tryd.func20, Tryd.ntmps20
          go_wp2_with ((first
                | ((with_reducible refine wl_box ?_ (fun K hK => ?_)); rfl; refine owp_box (o := ⟨some 1, _, _, _, _, _⟩) rfl st ?_; apply Exists.intro; refine ⟨?_, ?_⟩; (focus (go_simp; try rfl)); (clear st; intro b1 w hb st; clear hb))
                | ((with_reducible refine wl_alloc ?_ (fun K hK => ?_)); rfl; refine owp_alloc (o := ⟨some 3, _, _, _, _, _⟩) rfl st ?_; apply Exists.intro; apply Exists.intro; refine ⟨?_, ?_⟩; (focus (first | (go_simp; done) | (go_simp; rfl))); (clear st; intro b3 w hb st; clear hb))
                | ((with_reducible refine wl_store ?_ (fun K hK => ?_)); rfl; refine owp_store rfl st ?_; apply Exists.intro; apply Exists.intro; refine ⟨?_, ?_, ?_⟩; (focus (go_simp; try rfl)); (focus (go_simp; try rfl)); (first | (with_reducible refine ⟨0, _, _, _, _, get0, rfl, rfl, ?_, ?_, ?_, ?_⟩) | (with_reducible refine ⟨1, _, _, _, _, get1, rfl, rfl, ?_, ?_, ?_, ?_⟩) | (with_reducible refine ⟨2, _, _, _, _, get2, rfl, rfl, ?_, ?_, ?_, ?_⟩) | (with_reducible refine ⟨3, _, _, _, _, get3, rfl, rfl, ?_, ?_, ?_, ?_⟩)); (kernel_rfl); (simp [Value.cells]); (rfl); (clear st; intro w st))); (try simp only [nsl, Value.cells, unB] at st); (try clear hc); have hc := st.facts; (try simp only [nfl, nft, Nat.reduceAdd] at hc))
          go_ret
          exact ⟨by rw [H.out] <;> rfl, st.ext0⟩
        | true =>
          (try simp only [nsl, Value.cells, unB] at st)
          (try clear hc); have hc := st.facts; (try simp only [nfl, nft, Nat.reduceAdd] at hc)
          go_enter Tryd.func20, Tryd.ntmps20
          go_wp2_with ((first
                | ((with_reducible refine wl_box ?_ (fun K hK => ?_)); rfl; refine owp_box (o := ⟨some 1, _, _, _, _, _⟩) rfl st ?_; apply Exists.intro; refine ⟨?_, ?_⟩; (focus (go_simp; try rfl)); (clear st; intro b1 w hb st; clear hb))
                | ((with_reducible refine wl_alloc ?_ (fun K hK => ?_)); rfl; refine owp_alloc (o := ⟨some 3, _, _, _, _, _⟩) rfl st ?_; apply Exists.intro; apply Exists.intro; refine ⟨?_, ?_⟩; (focus (first | (go_simp; done) | (go_simp; rfl))); (clear st; intro b3 w hb st; clear hb))
                | ((with_reducible refine wl_store ?_ (fun K hK => ?_)); rfl; refine owp_store rfl st ?_; apply Exists.intro; apply Exists.intro; refine ⟨?_, ?_, ?_⟩; (focus (go_simp; try rfl)); (focus (go_simp; try rfl)); (first | (with_reducible refine ⟨0, _, _, _, _, get0, rfl, rfl, ?_, ?_, ?_, ?_⟩) | (with_reducible refine ⟨1, _, _, _, _, get1, rfl, rfl, ?_, ?_, ?_, ?_⟩) | (with_reducible refine ⟨2, _, _, _, _, get2, rfl, rfl, ?_, ?_, ?_, ?_⟩) | (with_reducible refine ⟨3, _, _, _, _, get3, rfl, rfl, ?_, ?_, ?_, ?_⟩)); (kernel_rfl); (simp [Value.cells]); (rfl); (clear st; intro w st))); (try simp only [nsl, Value.cells, unB] at st); (try clear hc); have hc := st.facts; (try simp only [nfl, nft, Nat.reduceAdd] at hc))
          go_ret
          exact ⟨by rw [H.out] <;> rfl, st.ext0⟩
    · have HV2 := Lib.hid (HV.out.trans ((if_neg o1).trans (if_neg o2)))
      clear HV HRo
      have b1 : (op == 1) = false := by simpa using o1
      have b2 : (op == 2) = false := by simp; omega
      have b3 : (op == 3) = false := by simp; omega
      by_cases o4 : op = 4
      · subst o4
        clear b1 b2 b3 o1 o2
        cases e with
        | false =>
          have H : Hid (v = false) := Lib.hid (by rw [HV2.out]; rfl)
          (try simp only [nsl, Value.cells, unB] at st)
          (try clear hc); have hc := st.facts; (try simp only [nfl, nft, Nat.reduceAdd] at hc)
          go_enter Tryd.func20, Tryd.ntmps20
          go_wp2_with ((first
                | ((with_reducible refine wl_box ?_ (fun K hK => ?_)); rfl; refine owp_box (o := ⟨some 1, _, _, _, _, _⟩) rfl st ?_; apply Exists.intro; refine ⟨?_, ?_⟩; (focus (go_simp; try rfl)); (clear st; intro b1 w hb st; clear hb))
                | ((with_reducible refine wl_alloc ?_ (fun K hK => ?_)); rfl; refine owp_alloc (o := ⟨some 3, _, _, _, _, _⟩) rfl st ?_; apply Exists.intro; apply Exists.intro; refine ⟨?_, ?_⟩; (focus (first | (go_simp; done) | (go_simp; rfl))); (clear st; intro b3 w hb st; clear hb))
                | ((with_reducible refine wl_store ?_ (fun K hK => ?_)); rfl; refine owp_store rfl st ?_; apply Exists.intro; apply Exists.intro; refine ⟨?_, ?_, ?_⟩; (focus (go_simp; try rfl)); (focus (go_simp; try rfl)); (first | (with_reducible refine ⟨0, _, _, _, _, get0, rfl, rfl, ?_, ?_, ?_, ?_⟩) | (with_reducible refine ⟨1, _, _, _, _, get1, rfl, rfl, ?_, ?_, ?_, ?_⟩) | (with_reducible refine ⟨2, _, _, _, _, get2, rfl, rfl, ?_, ?_, ?_, ?_⟩) | (with_reducible refine ⟨3, _, _, _, _, get3, rfl, rfl, ?_, ?_, ?_, ?_⟩)); (kernel_rfl); (simp [Value.cells]); (rfl); (clear st; intro w st))); (try simp only [nsl, Value.cells, unB] at st); (try clear hc); have hc := st.facts; (try simp only [nfl, nft, Nat.reduceAdd] at hc))
          go_ret
          exact ⟨by rw [H.out] <;> rfl, st.ext0⟩
        | true =>
          by_cases k0 : 0 ≤ k
          · by_cases kn : k ≤ (n : Int)
            · by_cases n1 : 1 ≤ n
              · have H : Hid (v = true) := Lib.hid (by rw [HV2.out]; simp [k0, kn, n1])
                have n1i : (1 : Int) ≤ (n : Int) := by omega
                (try simp only [nsl, Value.cells, unB] at st)
                (try clear hc); have hc := st.facts; (try simp only [nfl, nft, Nat.reduceAdd] at hc)
                go_enter Tryd.func20, Tryd.ntmps20
                go_wp2_with ((first
                      | ((with_reducible refine wl_box ?_ (fun K hK => ?_)); rfl; refine owp_box (o := ⟨some 1, _, _, _, _, _⟩) rfl st ?_; apply Exists.intro; refine ⟨?_, ?_⟩; (focus (go_simp; try rfl)); (clear st; intro b1 w hb st; clear hb))
                      | ((with_reducible refine wl_alloc ?_ (fun K hK => ?_)); rfl; refine owp_alloc (o := ⟨some 3, _, _, _, _, _⟩) rfl st ?_; apply Exists.intro; apply Exists.intro; refine ⟨?_, ?_⟩; (focus (first | (go_simp; done) | (go_simp; rfl))); (clear st; intro b3 w hb st; clear hb))
                      | ((with_reducible refine wl_store ?_ (fun K hK => ?_)); rfl; refine owp_store rfl st ?_; apply Exists.intro; apply Exists.intro; refine ⟨?_, ?_, ?_⟩; (focus (go_simp; try rfl)); (focus (go_simp; try rfl)); (first | (with_reducible refine ⟨0, _, _, _, _, get0, rfl, rfl, ?_, ?_, ?_, ?_⟩) | (with_reducible refine ⟨1, _, _, _, _, get1, rfl, rfl, ?_, ?_, ?_, ?_⟩) | (with_reducible refine ⟨2, _, _, _, _, get2, rfl, rfl, ?_, ?_, ?_, ?_⟩) | (with_reducible refine ⟨3, _, _, _, _, get3, rfl, rfl, ?_, ?_, ?_, ?_⟩)); (kernel_rfl); (simp [Value.cells]); (rfl); (clear st; intro w st))); (try simp only [nsl, Value.cells, unB] at st); (try clear hc); have hc := st.facts; (try simp only [nfl, nft, Nat.reduceAdd] at hc))
                go_ret
                exact ⟨by rw [H.out] <;> rfl, st.ext0⟩
              · have H : Hid (v = false) := Lib.hid (by rw [HV2.out]; simp [n1])
                have n1i : ¬ (1 : Int) ≤ (n : Int) := by omega
                clear n1
                (try simp only [nsl, Value.cells, unB] at st)
                (try clear hc); have hc := st.facts; (try simp only [nfl, nft, Nat.reduceAdd] at hc)
                go_enter Tryd.func20, Tryd.ntmps20
                go_wp2_with ((first
                      | ((with_reducible refine wl_box ?_ (fun K hK => ?_)); rfl; refine owp_box (o := ⟨some 1, _, _, _, _, _⟩) rfl st ?_; apply Exists.intro; refine ⟨?_, ?_⟩; (focus (go_simp; try rfl)); (clear st; intro b1 w hb st; clear hb))
                      | ((with_reducible refine wl_alloc ?_ (fun K hK => ?_)); rfl; refine owp_alloc (o := ⟨some 3, _, _, _, _, _⟩) rfl st ?_; apply Exists.intro; apply Exists.intro; refine ⟨?_, ?_⟩; (focus (first | (go_simp; done) | (go_simp; rfl))); (clear st; intro b3 w hb st; clear hb))
                      | ((with_reducible refine wl_store ?_ (fun K hK => ?_)); rfl; refine owp_store rfl st ?_; apply Exists.intro; apply Exists.intro; refine ⟨?_, ?_, ?_⟩; (focus (go_simp; try rfl)); (focus (go_simp; try rfl)); (first | (with_reducible refine ⟨0, _, _, _, _, get0, rfl, rfl, ?_, ?_, ?_, ?_⟩) | (with_reducible refine ⟨1, _, _, _, _, get1, rfl, rfl, ?_, ?_, ?_, ?_⟩) | (with_reducible refine ⟨2, _, _, _, _, get2, rfl, rfl, ?_, ?_, ?_, ?_⟩) | (with_reducible refine ⟨3, _, _, _, _, get3, rfl, rfl, ?_, ?_, ?_, ?_⟩)); (kernel_rfl); (simp [Value.cells]); (rfl); (clear st; intro w st))); (try simp only [nsl, Value.cells, unB] at st); (try clear hc); have hc := st.facts; (try simp only [nfl, nft, Nat.reduceAdd] at hc))
                go_ret
                exact ⟨by rw [H.out] <;> rfl, st.ext0⟩
            · have H : Hid (v = false) := Lib.hid (by rw [HV2.out]; simp [kn])
              (try simp only [nsl, Value.cells, unB] at st)
              (try clear hc); have hc := st.facts; (try simp only [nfl, nft, Nat.reduceAdd] at hc)
              go_enter Tryd.func20, Tryd.ntmps20
              go_wp2_with ((first
                    | ((with_reducible refine wl_box ?_ (fun K hK => ?_)); rfl; refine owp_box (o := ⟨some 1, _, _, _, _, _⟩) rfl st ?_; apply Exists.intro; refine ⟨?_, ?_⟩; (focus (go_simp; try rfl)); (clear st; intro b1 w hb st; clear hb))
                    | ((with_reducible refine wl_alloc ?_ (fun K hK => ?_)); rfl; refine owp_alloc (o := ⟨some 3, _, _, _, _, _⟩) rfl st ?_; apply Exists.intro; apply Exists.intro; refine ⟨?_, ?_⟩; (focus (first | (go_simp; done) | (go_simp; rfl))); (clear st; intro b3 w hb st; clear hb))
                    | ((with_reducible refine wl_store ?_ (fun K hK => ?_)); rfl; refine owp_store rfl st ?_; apply Exists.intro; apply Exists.intro; refine ⟨?_, ?_, ?_⟩; (focus (go_simp; try rfl)); (focus (go_simp; try rfl)); (first | (with_reducible refine ⟨0, _, _, _, _, get0, rfl, rfl, ?_, ?_, ?_, ?_⟩) | (with_reducible refine ⟨1, _, _, _, _, get1, rfl, rfl, ?_, ?_, ?_, ?_⟩) | (with_reducible refine ⟨2, _, _, _, _, get2, rfl, rfl, ?_, ?_, ?_, ?_⟩) | (with_reducible refine ⟨3, _, _, _, _, get3, rfl, rfl, ?_, ?_, ?_, ?_⟩)); (kernel_rfl); (simp [Value.cells]); (rfl); (clear st; intro w st))); (try simp only [nsl, Value.cells, unB] at st); (try clear hc); have hc := st.facts; (try simp only [nfl, nft, Nat.reduceAdd] at hc))
              go_ret
              exact ⟨by rw [H.out] <;> rfl, st.ext0⟩
          · have H : Hid (v = false) := Lib.hid (by rw [HV2.out]; simp [k0])
            (try simp only [nsl, Value.cells, unB] at st)
            (try clear hc); have hc := st.facts; (try simp only [nfl, nft, Nat.reduceAdd] at hc)
            go_enter Tryd.func20, Tryd.ntmps20
            go_wp2_with ((first
                  | ((with_reducible refine wl_box ?_ (fun K hK => ?_)); rfl; refine owp_box (o := ⟨some 1, _, _, _, _, _⟩) rfl st ?_; apply Exists.intro; refine ⟨?_, ?_⟩; (focus (go_simp; try rfl)); (clear st; intro b1 w hb st; clear hb))
                  | ((with_reducible refine wl_alloc ?_ (fun K hK => ?_)); rfl; refine owp_alloc (o := ⟨some 3, _, _, _, _, _⟩) rfl st ?_; apply Exists.intro; apply Exists.intro; refine ⟨?_, ?_⟩; (focus (first | (go_simp; done) | (go_simp; rfl))); (clear st; intro b3 w hb st; clear hb))
                  | ((with_reducible refine wl_store ?_ (fun K hK => ?_)); rfl; refine owp_store rfl st ?_; apply Exists.intro; apply Exists.intro; refine ⟨?_, ?_, ?_⟩; (focus (go_simp; try rfl)); (focus (go_simp; try rfl)); (first | (with_reducible refine ⟨0, _, _, _, _, get0, rfl, rfl, ?_, ?_, ?_, ?_⟩) | (with_reducible refine ⟨1, _, _, _, _, get1, rfl, rfl, ?_, ?_, ?_, ?_⟩) | (with_reducible refine ⟨2, _, _, _, _, get2, rfl, rfl, ?_, ?_, ?_, ?_⟩) | (with_reducible refine ⟨3, _, _, _, _, get3, rfl, rfl, ?_, ?_, ?_, ?_⟩)); (kernel_rfl); (simp [Value.cells]); (rfl); (clear st; intro w st))); (try simp only [nsl, Value.cells, unB] at st); (try clear hc); have hc := st.facts; (try simp only [nfl, nft, Nat.reduceAdd] at hc))
            go_ret
            exact ⟨by rw [H.out] <;> rfl, st.ext0⟩
      · have H : Hid (v = false) := Lib.hid (by rw [HV2.out]; simp [o4])
        have b4 : (op == 4) = false := by simpa using o4
        clear o1 o2 o4
        (try simp only [nsl, Value.cells, unB] at st)
        (try clear hc); have hc := st.facts; (try simp only [nfl, nft, Nat.reduceAdd] at hc)
        go_enter Tryd.func20, Tryd.ntmps20
        go_wp2_with ((first
              | ((with_reducible refine wl_box ?_ (fun K hK => ?_)); rfl; refine owp_box (o := ⟨some 1, _, _, _, _, _⟩) rfl st ?_; apply Exists.intro; refine ⟨?_, ?_⟩; (focus (go_simp; try rfl)); (clear st; intro b1 w hb st; clear hb))
              | ((with_reducible refine wl_alloc ?_ (fun K hK => ?_)); rfl; refine owp_alloc (o := ⟨some 3, _, _, _, _, _⟩) rfl st ?_; apply Exists.intro; apply Exists.intro; refine ⟨?_, ?_⟩; (focus (first | (go_simp; done) | (go_simp; rfl))); (clear st; intro b3 w hb st; clear hb))
              | ((with_reducible refine wl_store ?_ (fun K hK => ?_)); rfl; refine owp_store rfl st ?_; apply Exists.intro; apply Exists.intro; refine ⟨?_, ?_, ?_⟩; (focus (go_simp; try rfl)); (focus (go_simp; try rfl)); (first | (with_reducible refine ⟨0, _, _, _, _, get0, rfl, rfl, ?_, ?_, ?_, ?_⟩) | (with_reducible refine ⟨1, _, _, _, _, get1, rfl, rfl, ?_, ?_, ?_, ?_⟩) | (with_reducible refine ⟨2, _, _, _, _, get2, rfl, rfl, ?_, ?_, ?_, ?_⟩) | (with_reducible refine ⟨3, _, _, _, _, get3, rfl, rfl, ?_, ?_, ?_, ?_⟩)); (kernel_rfl); (simp [Value.cells]); (rfl); (clear st; intro w st))); (try simp only [nsl, Value.cells, unB] at st); (try clear hc); have hc := st.facts; (try simp only [nfl, nft, Nat.reduceAdd] at hc))
        go_ret
        exact ⟨by rw [H.out] <;> rfl, st.ext0⟩
set_option maxRecDepth 100000 in
set_option maxHeartbeats 1000000 in
theorem fmIndexFunc_any (a : Option Addr) (n c : Nat) (xs : List Fm) (W : World) (h : Fl W a n xs) (hn : n ≤ 2000000) (F : FuncId) (cap : Array Value) (p : Fm → Bool)
    (hi : ∀ w x, (callFunc F (#[x] ++ cap)).run Tryd.prog w = .ok (.enter F (#[x] ++ cap)) w)
    (hp : ∀ x ∈ xs, ∀ w, Ext W w → Calls Tryd.prog F (#[fmV x] ++ cap) w fun e w' => e = .returned (.bool (p x)) ∧ Ext w w') :
    Calls Tryd.prog 30 #[.slice a n c, .func (.func F) #[] cap] W fun e w' => ∃ v : Int, e = .returned (.int .i64 v) ∧ (0 ≤ v ↔ xs.any p = true) ∧ Ext W w' := by
  have HP := Lib.hid hp
  have H := Lib.hid h
  have HN := Lib.hid h.1
  have st := Own.startOld W
  clear hp h
  (try simp only [nsl, Value.cells, unB] at st)
  (try clear hc); have hc := st.facts; (try simp only [nfl, nft, Nat.reduceAdd] at hc)
  go_enter Tryd.func30, Tryd.ntmps30
  go_wp2_with fail
  go_loopg [8] n (fun k i wr => ∃ (j : Nat), j ≤ n ∧ k = n - j ∧ i = .int .i64 (j : Int) ∧ Hid (∀ x ∈ xs.take j, p x = false) ∧ Own (fun _ => False) (fun _ => True) W [oldI W] wr)
  case atStart => exact ⟨0, by omega, by omega, rfl, Lib.hid (by simp), st⟩
  case round =>
    obtain ⟨j, hj, rfl, rfl, HT, st'⟩ := hrel
    clear st hc
    have st := st'
    clear st'
    (try simp only [nsl, Value.cells, unB] at st)
    (try clear hc); have hc := st.facts; (try simp only [nfl, nft, Nat.reduceAdd] at hc)
    by_cases hjn : j < n
    · obtain ⟨b, off, ha, hcell⟩ := (st.oldFl (i := 0) get0 H.out).fm (by omega)
      have hjl : j < xs.length := by have := HN.out; omega
      have hgt := List.getElem?_eq_getElem hjl
      have hts : xs.take (j + 1) = xs.take j ++ [xs[j]] := (List.take_append_getElem hjl).symm
      have hx := HP.out xs[j] (List.getElem_mem hjl)
      have hmem := List.getElem_mem hjl
      generalize xs[j] = x at *
      have HX := Lib.hid (And.intro hts hmem)
      clear hts hmem hjl
      obtain ⟨pv, hpv⟩ : ∃ v, p x = v := ⟨_, rfl⟩
      rw [hpv] at hx
      have HPV := Lib.hid hpv
      clear hpv
      obtain ⟨op, k, ⟨o, d⟩, a', n', c', kids⟩ := x
      obtain ⟨r0, r1, r2, r3, r4⟩ := hcell j op k (o, d) a' n' c' kids hgt
      clear hcell hgt
      subst ha
      unfold fmV S at hx
      unfold S at r2 r3
      simp only at hx r2 r3
      have HQ := Lib.hid hx
      clear hx
      go_wp2_with fail
      refine (HQ.out _ st.ext0).mono ?_
      rintro en w ⟨rfl, hx⟩
      replace st := st.ext hx
      clear hx r0 r1 r2 r3 r4
      cases pv with
      | true =>
        have HF : Hid (xs.any p = true) := Lib.hid (List.any_eq_true.2 ⟨_, HX.out.2, HPV.out⟩)
        go_wp2_with fail
        go_ret
        exact ⟨_, rfl, ⟨fun _ => HF.out, fun _ => by omega⟩, st.ext0⟩
      | false =>
        have HF : Hid (∀ x ∈ xs.take (j + 1), p x = false) := Lib.hid (fun x hx => by
          rw [HX.out.1] at hx
          rcases List.mem_append.1 hx with q | q
          · exact HT.out x q
          · rw [List.mem_singleton.1 q]; exact HPV.out)
        go_wp2_with fail
        go_roundg (n - (j + 1))
        case measure => omega
        case rel => exact ⟨j + 1, by omega, by omega, by go_num, HF, st⟩
    · obtain rfl : j = n := by omega
      have HF : Hid (xs.any p = false) := Lib.hid (by
        rw [List.any_eq_false]
        intro x hx
        have := HT.out x (by rw [List.take_of_length_le (by have := HN.out; omega)]; exact hx)
        simp [this])
      go_wp2_with fail
      go_ret
      exact ⟨_, rfl, ⟨fun q => by omega, fun q => by rw [HF.out] at q; cases q⟩, st.ext0⟩
set_option maxRecDepth 100000 in
set_option maxHeartbeats 1000000 in
theorem fmContainsFunc_any (a : Option Addr) (n c : Nat) (xs : List Fm) (W : World) (h : Fl W a n xs) (hn : n ≤ 2000000) (F : FuncId) (cap : Array Value) (p : Fm → Bool)
    (hi : ∀ w x, (callFunc F (#[x] ++ cap)).run Tryd.prog w = .ok (.enter F (#[x] ++ cap)) w)
    (hp : ∀ x ∈ xs, ∀ w, Ext W w → Calls Tryd.prog F (#[fmV x] ++ cap) w fun e w' => e = .returned (.bool (p x)) ∧ Ext w w') :
    Calls Tryd.prog 21 #[.slice a n c, .func (.func F) #[] cap] W fun e w' => e = .returned (.bool (xs.any p)) ∧ Ext W w' := by
  have HI := Lib.hid (fmIndexFunc_any a n c xs W h hn F cap p hi hp)
  obtain ⟨r, hr⟩ : ∃ r, xs.any p = r := ⟨_, rfl⟩
  rw [hr] at HI ⊢
  clear hp h hi hr
  go_enter Tryd.func21, Tryd.ntmps21
  go_wp2_with fail
  refine HI.out.mono ?_
  rintro en w' ⟨v, rfl, hv, hx⟩
  by_cases h0 : 0 ≤ v
  · have hr : r = true := hv.1 h0
    subst hr
    clear hv
    go_wp2_with fail
    go_ret
    exact ⟨by simp [h0], hx⟩
  · have hr : r = false := by cases r with | false => rfl | true => exact absurd (hv.2 rfl) h0
    subst hr
    clear hv
    go_wp2_with fail
    go_ret
    exact ⟨by simp; omega, hx⟩
set_option maxRecDepth 100000 in
set_option maxHeartbeats 1000000 in
theorem fmNodes1_any (f : Fm) (W : World) (v : Bool) (hf : ∀ W', Ext W W' → Calls Tryd.prog 14 #[fmV f] W' fun e w' => e = .returned (.bool v) ∧ Ext W' w') :
    Calls Tryd.prog 22 #[fmV f] W fun e w' => e = .returned (.bool (!v)) ∧ Ext W w' := by
  have HF := Lib.hid hf
  obtain ⟨op, k, ⟨o, d⟩, a, n, c, kids⟩ := f
  clear hf
  have st := Own.startOld W
  unfold fmV S at HF ⊢
  simp only at HF ⊢
  (try simp only [nsl, Value.cells, unB] at st)
  (try clear hc); have hc := st.facts; (try simp only [nfl, nft, Nat.reduceAdd] at hc)
  go_enter Tryd.func22, Tryd.ntmps22
  go_wp2_with ((((with_reducible refine wl_box ?_ (fun K hK => ?_)); rfl; refine owp_box (o := ⟨some 1, _, _, _, _, _⟩) rfl st ?_; apply Exists.intro; refine ⟨?_, ?_⟩; (focus (go_simp; try rfl)); (clear st; intro b1 w hb st; clear hb))); (try simp only [nsl, Value.cells, unB] at st); (try clear hc); have hc := st.facts; (try simp only [nfl, nft, Nat.reduceAdd] at hc))
  refine (HF.out _ st.ext0).mono ?_
  rintro en w ⟨rfl, hx⟩
  replace st := st.ext hx
  clear hx
  (try clear hc); have hc := st.facts; (try simp only [nfl, nft, Nat.reduceAdd] at hc)
  go_wp2_with fail
  go_ret
  exact ⟨by simp, st.ext0⟩
set_option maxRecDepth 100000 in
set_option maxHeartbeats 1000000 in
theorem fmNodes_any (f : Fm) : ∀ (W : World), FmOk W f → FoL 100000 f.strip →
    Calls Tryd.prog 14 #[fmV f] W fun e w' => e = .returned (.bool f.strip.well) ∧ Ext W w' := by
  induction f using Fm.ind
  rename_i op k r a n c kids ih
  intro W hok hl
  obtain ⟨o, d⟩ := r
  rw [strip_mk] at *
  have HNO := Lib.hid (fun W => fmNode_any op k o d a n c W hl.role.1 hl.role.2)
  have hnl : n = kids.length := hok.fl.1
  have HV : Hid ((Fo.mk op k (o, d) (kids.map Fm.strip)).well = (nodeR op k (o, d) n && decide (n ≤ 8) && !(kids.any fun x => !x.strip.well))) := Lib.hid (by
    rw [Fo.well, wellL_all, List.length_map, ← hnl, ← List.not_all_eq_any_not, Bool.not_not, List.all_map]; rfl)
  obtain ⟨v, hv⟩ : ∃ v, (Fo.mk op k (o, d) (kids.map Fm.strip)).well = v := ⟨_, rfl⟩
  rw [hv] at HV ⊢
  clear hv
  obtain ⟨nr, hnr⟩ : ∃ v, nodeR op k (o, d) n = v := ⟨_, rfl⟩
  rw [hnr] at HV HNO
  clear hnr
  obtain ⟨an, han⟩ : ∃ v, (kids.any fun x => !x.strip.well) = v := ⟨_, rfl⟩
  have HCF := Lib.hid (fun W' (hx : Ext W W') (h8 : n ≤ 8) => han ▸ fmContainsFunc_any a n c kids W' (Arr.ext hok.fl hx) (by omega) 22 #[] (fun x => !x.strip.well) (fun _ _ => by kernel_rfl) (fun x hxm w hw => fmNodes1_any x w x.strip.well (fun W2 hx2 => ih x hxm W2 (((hok.kids x hxm).ext hx).ext (hw.trans hx2)) (hl.kids _ (List.mem_map.2 ⟨x, hxm, rfl⟩)))))
  rw [han] at HV
  clear han hok ih hl hnl
  have st := Own.startOld W
  unfold fmV S
  simp only
  (try simp only [nsl, Value.cells, unB] at st)
  (try clear hc); have hc := st.facts; (try simp only [nfl, nft, Nat.reduceAdd] at hc)
  go_enter Tryd.func14, Tryd.ntmps14
  go_wp2_with ((((with_reducible refine wl_box ?_ (fun K hK => ?_)); rfl; refine owp_box (o := ⟨some 1, _, _, _, _, _⟩) rfl st ?_; apply Exists.intro; refine ⟨?_, ?_⟩; (focus (go_simp; try rfl)); (clear st; intro b1 w hb st; clear hb))); (try simp only [nsl, Value.cells, unB] at st); (try clear hc); have hc := st.facts; (try simp only [nfl, nft, Nat.reduceAdd] at hc))
  refine (HNO.out _).mono ?_
  rintro en w ⟨rfl, hx⟩
  replace st := st.ext hx
  clear hx
  (try clear hc); have hc := st.facts; (try simp only [nfl, nft, Nat.reduceAdd] at hc)
  cases nr with
  | false =>
    have H : Hid (v = false) := Lib.hid (by rw [HV.out]; rfl)
    go_wp2_with ((((with_reducible refine wl_box ?_ (fun K hK => ?_)); rfl; refine owp_box (o := ⟨some 1, _, _, _, _, _⟩) rfl st ?_; apply Exists.intro; refine ⟨?_, ?_⟩; (focus (go_simp; try rfl)); (clear st; intro b1 w hb st; clear hb))); (try simp only [nsl, Value.cells, unB] at st); (try clear hc); have hc := st.facts; (try simp only [nfl, nft, Nat.reduceAdd] at hc))
    go_ret
    exact ⟨by rw [H.out] <;> rfl, st.ext0⟩
  | true =>
    by_cases h8 : n ≤ 8
    · have H : Hid (v = !an) := Lib.hid (by rw [HV.out]; simp [h8])
      have h8i : (n : Int) ≤ 8 := by omega
      go_wp2_with ((((with_reducible refine wl_box ?_ (fun K hK => ?_)); rfl; refine owp_box (o := ⟨some 1, _, _, _, _, _⟩) rfl st ?_; apply Exists.intro; refine ⟨?_, ?_⟩; (focus (go_simp; try rfl)); (clear st; intro b1 w hb st; clear hb))); (try simp only [nsl, Value.cells, unB] at st); (try clear hc); have hc := st.facts; (try simp only [nfl, nft, Nat.reduceAdd] at hc))
      refine (HCF.out _ st.ext0 h8).mono ?_
      rintro en w ⟨rfl, hx⟩
      replace st := st.ext hx
      clear hx
      (try clear hc); have hc := st.facts; (try simp only [nfl, nft, Nat.reduceAdd] at hc)
      go_wp2_with fail
      go_ret
      exact ⟨by rw [H.out] <;> rfl, st.ext0⟩
    · have H : Hid (v = false) := Lib.hid (by rw [HV.out]; simp [h8])
      have h8i : ¬ (n : Int) ≤ 8 := by omega
      clear h8
      go_wp2_with ((((with_reducible refine wl_box ?_ (fun K hK => ?_)); rfl; refine owp_box (o := ⟨some 1, _, _, _, _, _⟩) rfl st ?_; apply Exists.intro; refine ⟨?_, ?_⟩; (focus (go_simp; try rfl)); (clear st; intro b1 w hb st; clear hb))); (try simp only [nsl, Value.cells, unB] at st); (try clear hc); have hc := st.facts; (try simp only [nfl, nft, Nat.reduceAdd] at hc))
      go_ret
      exact ⟨by rw [H.out] <;> rfl, st.ext0⟩
set_option maxRecDepth 100000 in
set_option maxHeartbeats 1000000 in
theorem fmRight_any (f : Fm) (W : World) (h : FmOk W f) (hs : f.strip.nodes ≤ 1000000000) (hl : FoL 100000 f.strip) :
    Calls Tryd.prog 6 #[fmV f] W fun e w' => e = .returned (.bool (foR f.strip)) ∧ Ext W w' := by
  have HS := Lib.hid (fun W' (hx : Ext W W') => fmSize_any f W' (h.ext hx) hs)
  have HW := Lib.hid (fun W' (hx : Ext W W') => fmNodes_any f W' (h.ext hx) hl)
  have hnp := nodes_pos f.strip
  have HV : Hid (foR f.strip = (decide (f.strip.nodes ≤ 64) && decide (f.strip.deep ≤ 6) && f.strip.well)) := Lib.hid rfl
  obtain ⟨op, k, ⟨o, d⟩, a, n, c, kids⟩ := f
  generalize foR (Fm.mk op k (o, d) a n c kids).strip = v at *
  generalize (Fm.mk op k (o, d) a n c kids).strip.nodes = N1 at *
  generalize (Fm.mk op k (o, d) a n c kids).strip.deep = D1 at *
  generalize (Fm.mk op k (o, d) a n c kids).strip.well = wv at *
  clear h hs hl
  have st := Own.startOld W
  unfold fmV S at HS HW ⊢
  simp only at HS HW ⊢
  (try simp only [nsl, Value.cells, unB] at st)
  (try clear hc); have hc := st.facts; (try simp only [nfl, nft, Nat.reduceAdd] at hc)
  go_enter Tryd.func6, Tryd.ntmps6
  go_wp2_with ((((with_reducible refine wl_box ?_ (fun K hK => ?_)); rfl; refine owp_box (o := ⟨some 1, _, _, _, _, _⟩) rfl st ?_; apply Exists.intro; refine ⟨?_, ?_⟩; (focus (go_simp; try rfl)); (clear st; intro b1 w hb st; clear hb))); (try simp only [nsl, Value.cells, unB] at st); (try clear hc); have hc := st.facts; (try simp only [nfl, nft, Nat.reduceAdd] at hc))
  refine (HS.out _ st.ext0).mono ?_
  rintro en w ⟨n1, d1, rfl, hcn, hx⟩
  replace st := st.ext hx
  clear hx
  by_cases h4 : N1 ≤ 4096
  · obtain ⟨rfl, rfl⟩ := hcn.1 h4
    clear hcn
    have np : (1 : Int) ≤ (n1 : Int) := by omega
    by_cases h64 : n1 ≤ 64
    · have h64i : (n1 : Int) ≤ 64 := by omega
      by_cases h6 : d1 ≤ 6
      · have h6i : (d1 : Int) ≤ 6 := by omega
        have H : Hid (v = wv) := Lib.hid (by rw [HV.out]; simp [h64, h6])
        clear h64 h6 h4 hnp
        (try simp only [nsl, Value.cells, unB] at st)
        (try clear hc); have hc := st.facts; (try simp only [nfl, nft, Nat.reduceAdd] at hc)
        go_wp2_with ((((with_reducible refine wl_box ?_ (fun K hK => ?_)); rfl; refine owp_box (o := ⟨some 1, _, _, _, _, _⟩) rfl st ?_; apply Exists.intro; refine ⟨?_, ?_⟩; (focus (go_simp; try rfl)); (clear st; intro b1 w hb st; clear hb))); (try simp only [nsl, Value.cells, unB] at st); (try clear hc); have hc := st.facts; (try simp only [nfl, nft, Nat.reduceAdd] at hc))
        refine (HW.out _ st.ext0).mono ?_
        rintro en w ⟨rfl, hx⟩
        replace st := st.ext hx
        clear hx
        (try clear hc); have hc := st.facts; (try simp only [nfl, nft, Nat.reduceAdd] at hc)
        go_wp2_with fail
        go_ret
        exact ⟨by rw [H.out] <;> rfl, st.ext0⟩
      · have h6i : ¬ (d1 : Int) ≤ 6 := by omega
        have H : Hid (v = false) := Lib.hid (by rw [HV.out]; simp [h6])
        clear h64 h6 h4 hnp
        (try simp only [nsl, Value.cells, unB] at st)
        (try clear hc); have hc := st.facts; (try simp only [nfl, nft, Nat.reduceAdd] at hc)
        go_wp2_with ((((with_reducible refine wl_box ?_ (fun K hK => ?_)); rfl; refine owp_box (o := ⟨some 1, _, _, _, _, _⟩) rfl st ?_; apply Exists.intro; refine ⟨?_, ?_⟩; (focus (go_simp; try rfl)); (clear st; intro b1 w hb st; clear hb))); (try simp only [nsl, Value.cells, unB] at st); (try clear hc); have hc := st.facts; (try simp only [nfl, nft, Nat.reduceAdd] at hc))
        go_ret
        exact ⟨by rw [H.out] <;> rfl, st.ext0⟩
    · have h64i : ¬ (n1 : Int) ≤ 64 := by omega
      have H : Hid (v = false) := Lib.hid (by rw [HV.out]; simp [h64])
      clear h64 h4 hnp
      (try simp only [nsl, Value.cells, unB] at st)
      (try clear hc); have hc := st.facts; (try simp only [nfl, nft, Nat.reduceAdd] at hc)
      go_wp2_with ((((with_reducible refine wl_box ?_ (fun K hK => ?_)); rfl; refine owp_box (o := ⟨some 1, _, _, _, _, _⟩) rfl st ?_; apply Exists.intro; refine ⟨?_, ?_⟩; (focus (go_simp; try rfl)); (clear st; intro b1 w hb st; clear hb))); (try simp only [nsl, Value.cells, unB] at st); (try clear hc); have hc := st.facts; (try simp only [nfl, nft, Nat.reduceAdd] at hc))
      go_ret
      exact ⟨by rw [H.out] <;> rfl, st.ext0⟩
  · obtain ⟨rfl, rfl⟩ := hcn.2 (by omega)
    have H : Hid (v = false) := Lib.hid (by rw [HV.out, decide_eq_false (by omega)]; rfl)
    clear hcn h4 hnp
    (try simp only [nsl, Value.cells, unB] at st)
    (try clear hc); have hc := st.facts; (try simp only [nfl, nft, Nat.reduceAdd] at hc)
    go_wp2_with ((((with_reducible refine wl_box ?_ (fun K hK => ?_)); rfl; refine owp_box (o := ⟨some 1, _, _, _, _, _⟩) rfl st ?_; apply Exists.intro; refine ⟨?_, ?_⟩; (focus (go_simp; try rfl)); (clear st; intro b1 w hb st; clear hb))); (try simp only [nsl, Value.cells, unB] at st); (try clear hc); have hc := st.facts; (try simp only [nfl, nft, Nat.reduceAdd] at hc))
    go_ret
    exact ⟨by rw [H.out] <;> rfl, st.ext0⟩
end Go.Proofs.YtnemipgmkenemaaDoor

namespace Go.Proofs.YtnemipgmkenemaaDoor
set_option linter.unusedSimpArgs false
set_option linter.unusedVariables false
open Go Go.RowKit
/-- What a text says, and the error. -/
def zeroF : Fo := .mk 0 0 ([], []) []
def parsedE (o : PRes) : Fo × Int := match o with
  | some (x, []) => if foR x = true then (x, 0) else (zeroF, 12)
  | _ => (zeroF, 11)
def ParseIs (s : List UInt8) (f : Fo) (e : Int) : Prop := if 2048 < s.length then f = zeroF ∧ e = 12 else ∀ b l, Lx b s l → (f, e) = parsedE (anyP b (oneP b (l.length + 1)) l)
theorem parsedE_no {o : PRes} (h : ∀ x, o ≠ some (x, [])) : parsedE o = (zeroF, 11) := by
  unfold parsedE
  split
  · rename_i x; exact absurd rfl (h x)
  · rfl
section
variable {fr al : Nat → Prop} {w0 w W : World}
def ParseGot (fr al : Nat → Prop) (w0 W : World) (s : List UInt8) (e : Ending) (w' : World) : Prop := ∃ g v, e = .returned (.tuple #[fmV g, .int .i64 v]) ∧ ParseIs s g.strip v ∧ (v = 0 → foR g.strip = true) ∧ FoL 100000 g.strip ∧ g.strip.nodes ≤ 100000 ∧ Own fr al w0 [oldI W, fmI g] w'
theorem parseGot0 {s : List UInt8} {v : Int} (hv : v ≠ 0) (hs : ParseIs s zeroF v) (st : Own fr al w0 [oldI W] w) : ParseGot fr al w0 W s (.returned (.tuple #[.agg zF.toArray, .int .i64 v])) w :=
  ⟨.mk 0 0 ([], []) none 0 0 [], v, rfl, hs, fun h => absurd h hv, FoL.mk (by simp) (by simp) (by intro x hx; simp [stripL] at hx), by show Fo.nodes _ ≤ _; simp [Fm.strip, stripL, Fo.nodes, nodesL], zeroFm st⟩
theorem Lx.det {b b' : Bool} {s : List UInt8} {l l' : List Tok} (h : Lx b s l) (h' : Lx b' s l') : b = b' ∧ l = l' := by
  induction h generalizing l' with
  | done h =>
    cases h' with
    | done _ => exact ⟨rfl, rfl⟩
    | bad h2 => rw [h] at h2; cases h2
    | more h2 hw _ => rw [h] at h2; injection h2 with h2; injection h2 with h2 _; exact absurd h2.symm hw
  | bad h =>
    cases h' with
    | done h2 => rw [h] at h2; cases h2
    | bad _ => exact ⟨rfl, rfl⟩
    | more h2 hw _ => rw [h] at h2; cases h2
  | more h hw hl ih =>
    cases h' with
    | done h2 => rw [h] at h2; injection h2 with h2; injection h2 with h2 _; exact absurd h2 hw
    | bad h2 => rw [h] at h2; cases h2
    | more h2 hw2 hl2 =>
      rw [h] at h2
      injection h2 with h2
      injection h2 with h2 h3
      subst h2 h3
      obtain ⟨e1, e2⟩ := ih hl2
      exact ⟨e1, by rw [e2]⟩
theorem parseIs_lx {b : Bool} {s : List UInt8} {l : List Tok} (hs : ¬ 2048 < s.length) (h : Lx b s l) {f : Fo} {e : Int} (hf : (f, e) = parsedE (anyP b (oneP b (l.length + 1)) l)) : ParseIs s f e := by
  unfold ParseIs
  rw [if_neg hs]
  intro b' l' h'
  obtain ⟨rfl, rfl⟩ := h.det h'
  exact hf
set_option maxRecDepth 100000 in
set_option maxHeartbeats 4000000 in
theorem parse_c {s : List UInt8} (hs : s.length ≤ 100000) (he : ErrV W) (st : Own fr al w0 [oldI W] w) :
    Calls Tryd.prog 8 #[S s] w (ParseGot fr al w0 W s) := by
  have HE := Lib.hid he
  obtain ⟨b, l, hl⟩ := lx_ex _ s (Nat.le_refl _)
  have HL := Lib.hid hl
  have HRD := Lib.hid (fun (fr al : Nat → Prop) (w0 w : World) (st : Own fr al w0 [oldI W] w) => read_c (fr := fr) (al := al) (w0 := w0) (w := w) hl hs he st)
  have HLL := Lib.hid (lx_len hl)
  clear hl he
  unfold S at HRD
  unfold S
  by_cases h1 : 2048 < s.length
  · have HP : Hid (ParseIs s zeroF 12) := Lib.hid (by unfold ParseIs; rw [if_pos h1]; exact ⟨rfl, rfl⟩)
    (try simp only [nsl, Value.cells, unB] at st)
    (try clear hc); have hc := st.facts; (try simp only [nfl, nft, Nat.reduceAdd] at hc)
    go_enter Tryd.func8, Tryd.ntmps8
    go_wp2_with ((first
          | ((with_reducible refine wl_alloc ?_ (fun K hK => ?_)); rfl; refine owp_alloc (o := ⟨some 2, _, _, _, _, _⟩) rfl st ?_; apply Exists.intro; apply Exists.intro; refine ⟨?_, ?_⟩; (focus (first | (go_simp; done) | (go_simp; rfl))); (clear st; intro b2 w hb st; clear hb))
          | ((with_reducible refine wl_store ?_ (fun K hK => ?_)); rfl; refine owp_store rfl st ?_; apply Exists.intro; apply Exists.intro; refine ⟨?_, ?_, ?_⟩; (focus (go_simp; try rfl)); (focus (go_simp; try rfl)); (first | (with_reducible refine ⟨0, _, _, _, _, get0, rfl, rfl, ?_, ?_, ?_, ?_⟩) | (with_reducible refine ⟨1, _, _, _, _, get1, rfl, rfl, ?_, ?_, ?_, ?_⟩) | (with_reducible refine ⟨2, _, _, _, _, get2, rfl, rfl, ?_, ?_, ?_, ?_⟩) | (with_reducible refine ⟨3, _, _, _, _, get3, rfl, rfl, ?_, ?_, ?_, ?_⟩)); (kernel_rfl); (simp [Value.cells]); (rfl); (clear st; intro w st))
          | ((with_reducible refine wl_alloc ?_ (fun K hK => ?_)); rfl; refine owp_alloc (o := ⟨some 4, _, _, _, _, _⟩) rfl st ?_; apply Exists.intro; apply Exists.intro; refine ⟨?_, ?_⟩; (focus (first | (go_simp; done) | (go_simp; rfl))); (clear st; intro b4 w hb st; clear hb))); (try simp only [nsl, Value.cells, unB] at st); (try clear hc); have hc := st.facts; (try simp only [nfl, nft, Nat.reduceAdd] at hc))
    (try simp only [Exit.inBlock, Exit.then])
    refine bodyPost_cell2 rfl rfl (st.blk (i := 1) get1) Tryd.underlying26 rfl (by kernel_rfl) rfl ?_
    have st2 := st.keep [0] (by decide) (by simp)
    exact parseGot0 (by decide) HP.out (by simpa [pick] using st2)
  · have HPI := Lib.hid (fun f e hf => parseIs_lx (f := f) (e := e) h1 HL.out hf)
    have HSM := Lib.hid (fun x (h : anyP b (oneP b (l.length + 1)) l = some (x, [])) => anyP_small (oneP_small b _) _ _ _ h)
    obtain ⟨o, ho⟩ : ∃ o, anyP b (oneP b (l.length + 1)) l = o := ⟨_, rfl⟩
    rw [ho] at HRD HPI HSM
    clear ho HL
    (try simp only [nsl, Value.cells, unB] at st)
    (try clear hc); have hc := st.facts; (try simp only [nfl, nft, Nat.reduceAdd] at hc)
    go_enter Tryd.func8, Tryd.ntmps8
    go_wp2_with ((first
          | ((with_reducible refine wl_alloc ?_ (fun K hK => ?_)); rfl; refine owp_alloc (o := ⟨some 2, _, _, _, _, _⟩) rfl st ?_; apply Exists.intro; apply Exists.intro; refine ⟨?_, ?_⟩; (focus (first | (go_simp; done) | (go_simp; rfl))); (clear st; intro b2 w hb st; clear hb))
          | ((with_reducible refine wl_store ?_ (fun K hK => ?_)); rfl; refine owp_store rfl st ?_; apply Exists.intro; apply Exists.intro; refine ⟨?_, ?_, ?_⟩; (focus (go_simp; try rfl)); (focus (go_simp; try rfl)); (first | (with_reducible refine ⟨0, _, _, _, _, get0, rfl, rfl, ?_, ?_, ?_, ?_⟩) | (with_reducible refine ⟨1, _, _, _, _, get1, rfl, rfl, ?_, ?_, ?_, ?_⟩) | (with_reducible refine ⟨2, _, _, _, _, get2, rfl, rfl, ?_, ?_, ?_, ?_⟩) | (with_reducible refine ⟨3, _, _, _, _, get3, rfl, rfl, ?_, ?_, ?_, ?_⟩)); (kernel_rfl); (simp [Value.cells]); (rfl); (clear st; intro w st))
          | ((with_reducible refine wl_alloc ?_ (fun K hK => ?_)); rfl; refine owp_alloc (o := ⟨some 4, _, _, _, _, _⟩) rfl st ?_; apply Exists.intro; apply Exists.intro; refine ⟨?_, ?_⟩; (focus (first | (go_simp; done) | (go_simp; rfl))); (clear st; intro b4 w hb st; clear hb))); (try simp only [nsl, Value.cells, unB] at st); (try clear hc); have hc := st.facts; (try simp only [nfl, nft, Nat.reduceAdd] at hc))
    obtain ⟨fr', al', st', back⟩ := st.sub [0] (by decide) (by simp)
    (try simp only [nsl, Value.cells, unB] at st')
    refine (HRD.out _ _ _ _ st').mono ?_
    clear st'
    rintro en w ⟨g, ok, rfl, hri, st'⟩
    replace st := back _ _ (by simp) st'
    clear back st'
    (try simp only [nsl, Value.cells, unB] at st)
    (try clear hc); have hc := st.facts; (try simp only [nfl, nft, Nat.reduceAdd] at hc)
    have HRI := Lib.hid hri
    clear hri
    obtain ⟨gx, hgx⟩ : ∃ x, g = x := ⟨_, rfl⟩
    obtain ⟨op', k', ⟨o', d'⟩, a', n', c', kids'⟩ := g
    have HV : Hid (fmV gx = .agg #[.int .i64 op', .int .i64 k', .string ⟨o'.toArray⟩, .string ⟨d'.toArray⟩, .slice a' n' c']) := Lib.hid (by rw [← hgx]; rfl)
    rw [hgx] at HRI st ⊢
    rw [HV.out]
    cases ok with
    | false =>
      have HP : Hid (ParseIs s zeroF 11) := Lib.hid (HPI.out _ _ (parsedE_no (by have := HRI.out; unfold ReadIs at this; simpa using this)).symm)
      clear HPI HRI hgx HV
      (try simp only [nsl, Value.cells, unB] at st)
      (try clear hc); have hc := st.facts; (try simp only [nfl, nft, Nat.reduceAdd] at hc)
      go_wp2_with ((first
            | ((with_reducible refine wl_alloc ?_ (fun K hK => ?_)); rfl; refine owp_alloc (o := ⟨some 2, _, _, _, _, _⟩) rfl st ?_; apply Exists.intro; apply Exists.intro; refine ⟨?_, ?_⟩; (focus (first | (go_simp; done) | (go_simp; rfl))); (clear st; intro b2 w hb st; clear hb))
            | ((with_reducible refine wl_store ?_ (fun K hK => ?_)); rfl; refine owp_store rfl st ?_; apply Exists.intro; apply Exists.intro; refine ⟨?_, ?_, ?_⟩; (focus (go_simp; try rfl)); (focus (go_simp; try rfl)); (first | (with_reducible refine ⟨0, _, _, _, _, get0, rfl, rfl, ?_, ?_, ?_, ?_⟩) | (with_reducible refine ⟨1, _, _, _, _, get1, rfl, rfl, ?_, ?_, ?_, ?_⟩) | (with_reducible refine ⟨2, _, _, _, _, get2, rfl, rfl, ?_, ?_, ?_, ?_⟩) | (with_reducible refine ⟨3, _, _, _, _, get3, rfl, rfl, ?_, ?_, ?_, ?_⟩)); (kernel_rfl); (simp [Value.cells]); (rfl); (clear st; intro w st))
            | ((with_reducible refine wl_alloc ?_ (fun K hK => ?_)); rfl; refine owp_alloc (o := ⟨some 4, _, _, _, _, _⟩) rfl st ?_; apply Exists.intro; apply Exists.intro; refine ⟨?_, ?_⟩; (focus (first | (go_simp; done) | (go_simp; rfl))); (clear st; intro b4 w hb st; clear hb))); (try simp only [nsl, Value.cells, unB] at st); (try clear hc); have hc := st.facts; (try simp only [nfl, nft, Nat.reduceAdd] at hc))
      (try simp only [Exit.inBlock, Exit.then])
      refine bodyPost_cell2 rfl rfl (st.blk (i := 1) get1) Tryd.underlying26 rfl (by kernel_rfl) rfl ?_
      have st2 := st.keep [0] (by decide) (by simp)
      exact parseGot0 (by decide) HP.out (by simpa [pick] using st2)
    | true =>
      have ho : o = some (gx.strip, []) := by have := HRI.out; unfold ReadIs at this; simpa using this
      have HO := Lib.hid ho
      obtain ⟨hsm1, hsm2⟩ := HSM.out _ ho
      have hsm3 : gx.strip.nodes ≤ 100000 := by have := HLL.out; simp at hsm1; omega
      have HSL := Lib.hid (And.intro hsm2 hsm3)
      have HOK := Lib.hid (fun W' (h : FmOk W' gx) => fmRight_any gx W' h (by omega) hsm2)
      obtain ⟨v, hv⟩ : ∃ v, foR gx.strip = v := ⟨_, rfl⟩
      have HVV := Lib.hid hv
      rw [hv, HV.out] at HOK
      clear ho hsm1 hsm2 hsm3 hgx hv HRI HSM HLL
      cases v with
      | true =>
        have HP : Hid (ParseIs s gx.strip 0) := Lib.hid (HPI.out _ _ (by rw [HO.out]; unfold parsedE; simp only; rw [if_pos HVV.out]))
        clear HPI HO
        (try simp only [nsl, Value.cells, unB] at st)
        (try clear hc); have hc := st.facts; (try simp only [nfl, nft, Nat.reduceAdd] at hc)
        go_wp2_with ((first
              | ((with_reducible refine wl_alloc ?_ (fun K hK => ?_)); rfl; refine owp_alloc (o := ⟨some 2, _, _, _, _, _⟩) rfl st ?_; apply Exists.intro; apply Exists.intro; refine ⟨?_, ?_⟩; (focus (first | (go_simp; done) | (go_simp; rfl))); (clear st; intro b2 w hb st; clear hb))
              | ((with_reducible refine wl_store ?_ (fun K hK => ?_)); rfl; refine owp_store rfl st ?_; apply Exists.intro; apply Exists.intro; refine ⟨?_, ?_, ?_⟩; (focus (go_simp; try rfl)); (focus (go_simp; try rfl)); (first | (with_reducible refine ⟨0, _, _, _, _, get0, rfl, rfl, ?_, ?_, ?_, ?_⟩) | (with_reducible refine ⟨1, _, _, _, _, get1, rfl, rfl, ?_, ?_, ?_, ?_⟩) | (with_reducible refine ⟨2, _, _, _, _, get2, rfl, rfl, ?_, ?_, ?_, ?_⟩) | (with_reducible refine ⟨3, _, _, _, _, get3, rfl, rfl, ?_, ?_, ?_, ?_⟩)); (kernel_rfl); (simp [Value.cells]); (rfl); (clear st; intro w st))
              | ((with_reducible refine wl_alloc ?_ (fun K hK => ?_)); rfl; refine owp_alloc (o := ⟨some 4, _, _, _, _, _⟩) rfl st ?_; apply Exists.intro; apply Exists.intro; refine ⟨?_, ?_⟩; (focus (first | (go_simp; done) | (go_simp; rfl))); (clear st; intro b4 w hb st; clear hb))); (try simp only [nsl, Value.cells, unB] at st); (try clear hc); have hc := st.facts; (try simp only [nfl, nft, Nat.reduceAdd] at hc))
        refine (HOK.out _ (st.fm (i := 2) get2)).mono ?_
        rintro en w ⟨rfl, hx⟩
        replace st := st.ext hx
        clear hx
        (try clear hc); have hc := st.facts; (try simp only [nfl, nft, Nat.reduceAdd] at hc)
        go_wp2_with ((first
              | ((with_reducible refine wl_alloc ?_ (fun K hK => ?_)); rfl; refine owp_alloc (o := ⟨some 2, _, _, _, _, _⟩) rfl st ?_; apply Exists.intro; apply Exists.intro; refine ⟨?_, ?_⟩; (focus (first | (go_simp; done) | (go_simp; rfl))); (clear st; intro b2 w hb st; clear hb))
              | ((with_reducible refine wl_store ?_ (fun K hK => ?_)); rfl; refine owp_store rfl st ?_; apply Exists.intro; apply Exists.intro; refine ⟨?_, ?_, ?_⟩; (focus (go_simp; try rfl)); (focus (go_simp; try rfl)); (first | (with_reducible refine ⟨0, _, _, _, _, get0, rfl, rfl, ?_, ?_, ?_, ?_⟩) | (with_reducible refine ⟨1, _, _, _, _, get1, rfl, rfl, ?_, ?_, ?_, ?_⟩) | (with_reducible refine ⟨2, _, _, _, _, get2, rfl, rfl, ?_, ?_, ?_, ?_⟩) | (with_reducible refine ⟨3, _, _, _, _, get3, rfl, rfl, ?_, ?_, ?_, ?_⟩)); (kernel_rfl); (simp [Value.cells]); (rfl); (clear st; intro w st))
              | ((with_reducible refine wl_alloc ?_ (fun K hK => ?_)); rfl; refine owp_alloc (o := ⟨some 4, _, _, _, _, _⟩) rfl st ?_; apply Exists.intro; apply Exists.intro; refine ⟨?_, ?_⟩; (focus (first | (go_simp; done) | (go_simp; rfl))); (clear st; intro b4 w hb st; clear hb))); (try simp only [nsl, Value.cells, unB] at st); (try clear hc); have hc := st.facts; (try simp only [nfl, nft, Nat.reduceAdd] at hc))
        (try simp only [Exit.inBlock, Exit.then])
        refine bodyPost_cell2 rfl rfl (st.blk (i := 1) get1) Tryd.underlying26 rfl (by kernel_rfl) rfl ?_
        have st2 := st.keep [0, 2] (by decide) (by simp)
        exact ⟨gx, 0, by rw [HV.out] <;> rfl, HP.out, fun _ => HVV.out, HSL.out.1, HSL.out.2, by simpa [pick] using st2⟩
      | false =>
        have HP : Hid (ParseIs s zeroF 12) := Lib.hid (HPI.out _ _ (by rw [HO.out]; unfold parsedE; simp only; rw [if_neg (by rw [HVV.out]; decide)]))
        clear HPI HO
        (try simp only [nsl, Value.cells, unB] at st)
        (try clear hc); have hc := st.facts; (try simp only [nfl, nft, Nat.reduceAdd] at hc)
        go_wp2_with ((first
              | ((with_reducible refine wl_alloc ?_ (fun K hK => ?_)); rfl; refine owp_alloc (o := ⟨some 2, _, _, _, _, _⟩) rfl st ?_; apply Exists.intro; apply Exists.intro; refine ⟨?_, ?_⟩; (focus (first | (go_simp; done) | (go_simp; rfl))); (clear st; intro b2 w hb st; clear hb))
              | ((with_reducible refine wl_store ?_ (fun K hK => ?_)); rfl; refine owp_store rfl st ?_; apply Exists.intro; apply Exists.intro; refine ⟨?_, ?_, ?_⟩; (focus (go_simp; try rfl)); (focus (go_simp; try rfl)); (first | (with_reducible refine ⟨0, _, _, _, _, get0, rfl, rfl, ?_, ?_, ?_, ?_⟩) | (with_reducible refine ⟨1, _, _, _, _, get1, rfl, rfl, ?_, ?_, ?_, ?_⟩) | (with_reducible refine ⟨2, _, _, _, _, get2, rfl, rfl, ?_, ?_, ?_, ?_⟩) | (with_reducible refine ⟨3, _, _, _, _, get3, rfl, rfl, ?_, ?_, ?_, ?_⟩)); (kernel_rfl); (simp [Value.cells]); (rfl); (clear st; intro w st))
              | ((with_reducible refine wl_alloc ?_ (fun K hK => ?_)); rfl; refine owp_alloc (o := ⟨some 4, _, _, _, _, _⟩) rfl st ?_; apply Exists.intro; apply Exists.intro; refine ⟨?_, ?_⟩; (focus (first | (go_simp; done) | (go_simp; rfl))); (clear st; intro b4 w hb st; clear hb))); (try simp only [nsl, Value.cells, unB] at st); (try clear hc); have hc := st.facts; (try simp only [nfl, nft, Nat.reduceAdd] at hc))
        refine (HOK.out _ (st.fm (i := 2) get2)).mono ?_
        rintro en w ⟨rfl, hx⟩
        replace st := st.ext hx
        clear hx
        (try clear hc); have hc := st.facts; (try simp only [nfl, nft, Nat.reduceAdd] at hc)
        go_wp2_with ((first
              | ((with_reducible refine wl_alloc ?_ (fun K hK => ?_)); rfl; refine owp_alloc (o := ⟨some 2, _, _, _, _, _⟩) rfl st ?_; apply Exists.intro; apply Exists.intro; refine ⟨?_, ?_⟩; (focus (first | (go_simp; done) | (go_simp; rfl))); (clear st; intro b2 w hb st; clear hb))
              | ((with_reducible refine wl_store ?_ (fun K hK => ?_)); rfl; refine owp_store rfl st ?_; apply Exists.intro; apply Exists.intro; refine ⟨?_, ?_, ?_⟩; (focus (go_simp; try rfl)); (focus (go_simp; try rfl)); (first | (with_reducible refine ⟨0, _, _, _, _, get0, rfl, rfl, ?_, ?_, ?_, ?_⟩) | (with_reducible refine ⟨1, _, _, _, _, get1, rfl, rfl, ?_, ?_, ?_, ?_⟩) | (with_reducible refine ⟨2, _, _, _, _, get2, rfl, rfl, ?_, ?_, ?_, ?_⟩) | (with_reducible refine ⟨3, _, _, _, _, get3, rfl, rfl, ?_, ?_, ?_, ?_⟩)); (kernel_rfl); (simp [Value.cells]); (rfl); (clear st; intro w st))
              | ((with_reducible refine wl_alloc ?_ (fun K hK => ?_)); rfl; refine owp_alloc (o := ⟨some 4, _, _, _, _, _⟩) rfl st ?_; apply Exists.intro; apply Exists.intro; refine ⟨?_, ?_⟩; (focus (first | (go_simp; done) | (go_simp; rfl))); (clear st; intro b4 w hb st; clear hb))); (try simp only [nsl, Value.cells, unB] at st); (try clear hc); have hc := st.facts; (try simp only [nfl, nft, Nat.reduceAdd] at hc))
        (try simp only [Exit.inBlock, Exit.then])
        refine bodyPost_cell2 rfl rfl (st.blk (i := 1) get1) Tryd.underlying26 rfl (by kernel_rfl) rfl ?_
        have st2 := st.keep [0] (by decide) (by simp)
        exact parseGot0 (by decide) HP.out (by simpa [pick] using st2)
end
end Go.Proofs.YtnemipgmkenemaaDoor

namespace Go.Proofs.YtnemipgmkenemaaDoor
set_option linter.unusedSimpArgs false
set_option linter.unusedVariables false
open Go Go.RowKit
def elF (w : World) (b : Nat) : List (Nat × Value) → Prop
  | [] => True
  | p :: l => w.cell? ⟨b, p.1, none⟩ = some p.2 ∧ elF w b l
theorem elF_of {w : World} {b : Nat} : ∀ {l : List (Nat × Value)}, (∀ p ∈ l, w.cell? ⟨b, p.1, none⟩ = some p.2) → elF w b l
  | [], _ => trivial
  | p :: l, h => ⟨h p (by simp), elF_of fun q hq => h q (by simp [hq])⟩
theorem elF_to {w : World} {b : Nat} : ∀ {l : List (Nat × Value)}, elF w b l → ∀ p ∈ l, w.cell? ⟨b, p.1, none⟩ = some p.2
  | [], _, p, hp => by simp at hp
  | q :: l, h, p, hp => by
    rcases List.mem_cons.1 hp with e | e
    · subst e; exact h.1
    · exact elF_to h.2 p e
def elI (b : Nat) (l : List (Nat × Value)) : It where
  P _ s w := s b ∧ ∀ p ∈ l, w.cell? ⟨b, p.1, none⟩ = some p.2
  st := fun {e s w w'} ⟨h1, h2⟩ hag => ⟨h1, fun p hp => by rw [World.cell?_of_block (w := w) (hag b (.inr h1))]; exact h2 p hp⟩
  facts w := elF w b l
  ok := fun h => elF_of h.2
theorem Own.addEl {fr al : Nat → Prop} {w0 w W : World} {L : List It} (st : Own fr al w0 L w) {i : Nat} (hi : L[i]? = some (oldI W)) (b o : Nat) (v : Value) (l : List (Nat × Value)) (h : elF W b ((o, v) :: l)) : Own fr al w0 (L ++ [elI b ((o, v) :: l)]) w :=
  st.share hi fun e s h1 => ⟨h1.1 _ (show b < _ from World.block_lt_of_cell? W ⟨b, o, none⟩ h.1), fun p hp => by
    have hb : b < W.heap.size := World.block_lt_of_cell? W ⟨b, o, none⟩ h.1
    rw [World.cell?_of_block (w := W) (h1.2.2 b hb)]
    exact elF_to h p hp⟩
end Go.Proofs.YtnemipgmkenemaaDoor

namespace Go.Proofs.YtnemipgmkenemaaDoor
set_option linter.unusedSimpArgs false
set_option linter.unusedVariables false
open Go Go.RowKit
/-- Is it so? -/
noncomputable def pB (P : Prop) : Bool := @decide P (Classical.propDecidable P)
theorem pB_t {P : Prop} (h : P) : pB P = true := @decide_eq_true P (Classical.propDecidable P) h
theorem pB_f {P : Prop} (h : ¬ P) : pB P = false := @decide_eq_false P (Classical.propDecidable P) h
theorem pB_iff {P : Prop} : pB P = true ↔ P := @decide_eq_true_iff P (Classical.propDecidable P)
theorem pB_of {P : Prop} {v : Bool} (h : v = true ↔ P) : pB P = v := by
  cases v with
  | true => exact pB_t (h.1 rfl)
  | false => exact pB_f fun q => by have := h.2 q; cases this
theorem map_strip_snoc2 {xs ys : List Fm} {j : Nat} (hx : j < xs.length) (hy : j < ys.length) (h : (xs.take j).map Fm.strip = (ys.take j).map Fm.strip) (hs : xs[j].strip = ys[j].strip) : (xs.take (j + 1)).map Fm.strip = (ys.take (j + 1)).map Fm.strip := by
  rw [map_snoc_strip xs j hx, map_snoc_strip ys j hy, h, hs]
theorem map_strip_at {xs ys : List Fm} {j : Nat} (hx : j < xs.length) (hy : j < ys.length) (h : xs.map Fm.strip = ys.map Fm.strip) : xs[j].strip = ys[j].strip := by
  have h1 : (xs.map Fm.strip)[j]? = (ys.map Fm.strip)[j]? := by rw [h]
  rw [List.getElem?_map, List.getElem?_map, List.getElem?_eq_getElem hx, List.getElem?_eq_getElem hy] at h1
  simpa using h1
set_option maxRecDepth 100000 in
set_option maxHeartbeats 2000000 in
theorem fmEqualFunc_any (a : Option Addr) (n c : Nat) (xs : List Fm) (a2 : Option Addr) (n2 c2 : Nat) (ys : List Fm) (W : World) (h : Fl W a n xs) (h2 : Fl W a2 n2 ys) (hn : n ≤ 9223372036854775807) (hn2 : n2 ≤ 9223372036854775807) (F : FuncId) (cap : Array Value)
    (hi : ∀ w x y, (callFunc F (#[x, y] ++ cap)).run Tryd.prog w = .ok (.enter F (#[x, y] ++ cap)) w)
    (hp : ∀ x ∈ xs, ∀ y ∈ ys, ∀ w, Ext W w → Calls Tryd.prog F (#[fmV x, fmV y] ++ cap) w fun e w' => e = .returned (.bool (pB (x.strip = y.strip))) ∧ Ext w w') :
    Calls Tryd.prog 17 #[.slice a n c, .slice a2 n2 c2, .func (.func F) #[] cap] W fun e w' => e = .returned (.bool (pB (xs.map Fm.strip = ys.map Fm.strip))) ∧ Ext W w' := by
  have HP := Lib.hid hp
  have H := Lib.hid h
  have H2 := Lib.hid h2
  have HN := Lib.hid h.1
  have HN2 := Lib.hid h2.1
  have st := Own.startOld W
  clear hp h h2
  obtain ⟨P, hP⟩ : ∃ P, (xs.map Fm.strip = ys.map Fm.strip) = P := ⟨_, rfl⟩
  have HPP := Lib.hid hP
  obtain ⟨rv, hrv⟩ : ∃ v, pB P = v := ⟨_, rfl⟩
  have HV := Lib.hid hrv
  rw [hP, hrv]
  clear hP hrv
  by_cases hnn : n = n2
  case neg =>
    have hb : ((n : Int) != (n2 : Int)) = true := by simp; omega
    have hb2 : ((n : Int) == (n2 : Int)) = false := by simp; omega
    have HF : Hid (rv = false) := Lib.hid (by rw [← HV.out, ← HPP.out]; exact pB_f fun q => hnn (by
      have := congrArg List.length q
      rw [List.length_map, List.length_map, ← HN.out, ← HN2.out] at this
      exact this))
    clear hnn
    (try simp only [nsl, Value.cells, unB] at st)
    (try clear hc); have hc := st.facts; (try simp only [nfl, nft, elI, elF, Nat.reduceAdd] at hc)
    go_enter Tryd.func17, Tryd.ntmps17
    go_wp2_with fail
    go_ret
    exact ⟨by rw [HF.out] <;> rfl, st.ext0⟩
  subst hnn
  (try simp only [nsl, Value.cells, unB] at st)
  (try clear hc); have hc := st.facts; (try simp only [nfl, nft, elI, elF, Nat.reduceAdd] at hc)
  go_enter Tryd.func17, Tryd.ntmps17
  go_wp2_with fail
  go_loopg [7, 17] n (fun k z i wr => ∃ (j : Nat), j ≤ n ∧ k = n - j ∧ i = .int .i64 (j : Int) ∧ Hid ((xs.take j).map Fm.strip = (ys.take j).map Fm.strip) ∧ Own (fun _ => False) (fun _ => True) W [oldI W] wr)
  case atStart => exact ⟨0, by omega, by omega, rfl, Lib.hid (by simp), st⟩
  case round =>
    obtain ⟨j, hj, rfl, rfl, HT, st'⟩ := hrel
    clear st hc
    have st := st'
    clear st'
    (try simp only [nsl, Value.cells, unB] at st)
    (try clear hc); have hc := st.facts; (try simp only [nfl, nft, elI, elF, Nat.reduceAdd] at hc)
    by_cases hjn : j < n
    · obtain ⟨b, off, ha, hcell⟩ := (st.oldFl (i := 0) get0 H.out).fm (by omega)
      obtain ⟨b2, off2, ha2, hcell2⟩ := H2.out.fm (by omega)
      have hjl : j < xs.length := by have := HN.out; omega
      have hjl2 : j < ys.length := by have := HN2.out; omega
      have hgt := List.getElem?_eq_getElem hjl
      have hgt2 := List.getElem?_eq_getElem hjl2
      have hx := HP.out xs[j] (List.getElem_mem hjl) ys[j] (List.getElem_mem hjl2)
      have hst := map_strip_snoc2 hjl hjl2 HT.out
      have hat := map_strip_at (xs := xs) (ys := ys) hjl hjl2
      generalize xs[j] = x at *
      generalize ys[j] = y at *
      have HX := Lib.hid (And.intro hst hat)
      clear hst hat hjl hjl2
      obtain ⟨sx, hsx⟩ : ∃ v, x.strip = v := ⟨_, rfl⟩
      obtain ⟨sy, hsy⟩ : ∃ v, y.strip = v := ⟨_, rfl⟩
      rw [hsx, hsy] at hx HX
      obtain ⟨v, hv⟩ : ∃ v, pB (sx = sy) = v := ⟨_, rfl⟩
      rw [hv] at hx
      have HPV := Lib.hid hv
      clear hsx hsy hv
      obtain ⟨op, k, ⟨o, d⟩, a', n', c', kids⟩ := x
      obtain ⟨op2, k2, ⟨o2, d2⟩, a2', n2', c2', kids2⟩ := y
      obtain ⟨r0, r1, r2, r3, r4⟩ := hcell j op k (o, d) a' n' c' kids hgt
      obtain ⟨s0, s1, s2, s3, s4⟩ := hcell2 j op2 k2 (o2, d2) a2' n2' c2' kids2 hgt2
      clear hcell hgt hcell2 hgt2
      subst ha ha2
      unfold fmV S at hx
      unfold S at r2 r3 s2 s3
      simp only at hx r2 r3 s2 s3
      have HQ := Lib.hid hx
      clear hx
      replace st := st.addEl (i := 0) get0 b2 (off2 + j * 5) (.int .i64 op2) [(off2 + j * 5 + 1, .int .i64 k2), (off2 + j * 5 + 2, .string ⟨o2.toArray⟩), (off2 + j * 5 + 3, .string ⟨d2.toArray⟩), (off2 + j * 5 + 4, .slice a2' n2' c2')] ⟨s0, s1, s2, s3, s4, trivial⟩
      simp only [List.cons_append, List.nil_append] at st
      clear s0 s1 s2 s3 s4
      (try simp only [nsl, Value.cells, unB] at st)
      (try clear hc); have hc := st.facts; (try simp only [nfl, nft, elI, elF, Nat.reduceAdd] at hc)
      go_wp2_with ((first
            | ((with_reducible refine wl_alloc ?_ (fun K hK => ?_)); rfl; refine owp_alloc (o := ⟨some 8, _, _, _, _, _⟩) rfl st ?_; apply Exists.intro; apply Exists.intro; refine ⟨?_, ?_⟩; (focus (first | (go_simp; done) | (go_simp; rfl))); (clear st; intro b8 w hb st; clear hb))
            | ((with_reducible refine wl_store ?_ (fun K hK => ?_)); rfl; refine owp_store rfl st ?_; apply Exists.intro; apply Exists.intro; refine ⟨?_, ?_, ?_⟩; (focus (go_simp; try rfl)); (focus (go_simp; try rfl)); (first | (with_reducible refine ⟨0, _, _, _, _, get0, rfl, rfl, ?_, ?_, ?_, ?_⟩) | (with_reducible refine ⟨1, _, _, _, _, get1, rfl, rfl, ?_, ?_, ?_, ?_⟩) | (with_reducible refine ⟨2, _, _, _, _, get2, rfl, rfl, ?_, ?_, ?_, ?_⟩) | (with_reducible refine ⟨3, _, _, _, _, get3, rfl, rfl, ?_, ?_, ?_, ?_⟩)); (kernel_rfl); (simp [Value.cells]); (rfl); (clear st; intro w st))
            | ((with_reducible refine wl_alloc ?_ (fun K hK => ?_)); rfl; refine owp_alloc (o := ⟨some 9, _, _, _, _, _⟩) rfl st ?_; apply Exists.intro; apply Exists.intro; refine ⟨?_, ?_⟩; (focus (first | (go_simp; done) | (go_simp; rfl))); (clear st; intro b9 w hb st; clear hb))); (try simp only [nsl, Value.cells, unB] at st); (try clear hc); have hc := st.facts; (try simp only [nfl, nft, elI, elF, Nat.reduceAdd] at hc))
      refine (HQ.out _ st.ext0).mono ?_
      rintro en w ⟨rfl, hx⟩
      replace st := st.ext hx
      clear hx
      (try clear hc); have hc := st.facts; (try simp only [nfl, nft, elI, elF, Nat.reduceAdd] at hc)
      clear r0 r1 r2 r3 r4
      cases v with
      | false =>
        have HF : Hid (rv = false) := Lib.hid (by
          rw [← HV.out, ← HPP.out]
          refine pB_f fun q => ?_
          have h1 := HPV.out
          rw [pB_t (HX.out.2 q)] at h1
          cases h1)
        go_wp2_with fail
        go_ret
        exact ⟨by rw [HF.out] <;> rfl, st.ext0⟩
      | true =>
        have HF : Hid ((xs.take (j + 1)).map Fm.strip = (ys.take (j + 1)).map Fm.strip) := Lib.hid (HX.out.1 (pB_iff.1 HPV.out))
        go_wp2_with fail
        have st' := st.keep [0] (by decide) (by simp)
        go_roundg (n - (j + 1))
        case measure => omega
        case rel => exact ⟨j + 1, by omega, by omega, by go_num, HF, by simpa [pick] using st'⟩
    · obtain rfl : j = n := by omega
      have HF : Hid (rv = true) := Lib.hid (by
        rw [← HV.out, ← HPP.out]
        refine pB_t ?_
        have := HT.out
        rw [List.take_of_length_le (by have := HN.out; omega), List.take_of_length_le (by have := HN2.out; omega)] at this
        exact this)
      go_wp2_with fail
      go_ret
      exact ⟨by rw [HF.out] <;> rfl, st.ext0⟩
set_option maxRecDepth 100000 in
set_option maxHeartbeats 2000000 in
theorem fmSame_any (f : Fm) : ∀ (g : Fm) (W : World), FmOk W f → FmOk W g →
    Calls Tryd.prog 9 #[fmV f, fmV g] W fun e w' => e = .returned (.bool (pB (f.strip = g.strip))) ∧ Ext W w' := by
  induction f using Fm.ind
  rename_i op k r a n c kids ih
  intro g W hf hg
  obtain ⟨op2, k2, ⟨o2, d2⟩, a2, n2, c2, kids2⟩ := g
  obtain ⟨o, d⟩ := r
  have hcap : n ≤ 9223372036854775807 := by have := hf.cap; simp only [maxLen] at this; omega
  have hcap2 : n2 ≤ 9223372036854775807 := by have := hg.cap; simp only [maxLen] at this; omega
  have HE := Lib.hid (fun W' (hx : Ext W W') => fmEqualFunc_any a n c kids a2 n2 c2 kids2 W' (Arr.ext hf.fl hx) (Arr.ext hg.fl hx) hcap hcap2 9 #[] (fun _ _ _ => by kernel_rfl) (fun x hx1 y hy1 w hw => ih x hx1 y w (((hf.kids x hx1).ext hx).ext hw) (((hg.kids y hy1).ext hx).ext hw)))
  obtain ⟨ev, hev⟩ : ∃ v, pB (kids.map Fm.strip = kids2.map Fm.strip) = v := ⟨_, rfl⟩
  rw [hev] at HE
  have HV : Hid (pB ((Fm.mk op k (o, d) a n c kids).strip = (Fm.mk op2 k2 (o2, d2) a2 n2 c2 kids2).strip) = (decide (op = op2) && decide (k = k2) && roleEq (o, d) (o2, d2) && ev)) := Lib.hid (pB_of (by
    rw [strip_mk, strip_mk, Fo.mk.injEq, roleEq_eq, Bool.and_eq_true, Bool.and_eq_true, Bool.and_eq_true, decide_eq_true_eq, decide_eq_true_eq, decide_eq_true_eq, ← hev, pB_iff, and_assoc, and_assoc]))
  obtain ⟨e, he⟩ : ∃ v, roleEq (o, d) (o2, d2) = v := ⟨_, rfl⟩
  have heq := eqRole o d o2 d2
  rw [he] at HV heq
  obtain ⟨rv, hrv⟩ : ∃ v, pB ((Fm.mk op k (o, d) a n c kids).strip = (Fm.mk op2 k2 (o2, d2) a2 n2 c2 kids2).strip) = v := ⟨_, rfl⟩
  rw [hrv] at HV ⊢
  clear he hrv hf hg ih hev
  have st := Own.startOld W
  unfold fmV S
  simp only
  by_cases h1 : op = op2
  · by_cases h2 : k = k2
    · have H2 : Hid (rv = (e && ev)) := Lib.hid (by rw [HV.out, decide_eq_true h1, decide_eq_true h2]; simp)
      clear HV
      subst h1 h2
      cases e with
      | true =>
        have HF : Hid (rv = ev) := Lib.hid (by rw [H2.out]; simp)
        (try simp only [nsl, Value.cells, unB] at st)
        (try clear hc); have hc := st.facts; (try simp only [nfl, nft, elI, elF, Nat.reduceAdd] at hc)
        go_enter Tryd.func9, Tryd.ntmps9
        go_wp2_with ((first
              | ((with_reducible refine wl_box ?_ (fun K hK => ?_)); rfl; refine owp_box (o := ⟨some 2, _, _, _, _, _⟩) rfl st ?_; apply Exists.intro; refine ⟨?_, ?_⟩; (focus (go_simp; try rfl)); (clear st; intro b2 w hb st; clear hb))
              | ((with_reducible refine wl_box ?_ (fun K hK => ?_)); rfl; refine owp_box (o := ⟨some 3, _, _, _, _, _⟩) rfl st ?_; apply Exists.intro; refine ⟨?_, ?_⟩; (focus (go_simp; try rfl)); (clear st; intro b3 w hb st; clear hb))); (try simp only [nsl, Value.cells, unB] at st); (try clear hc); have hc := st.facts; (try simp only [nfl, nft, elI, elF, Nat.reduceAdd] at hc))
        refine (HE.out _ st.ext0).mono ?_
        rintro en w ⟨rfl, hx⟩
        replace st := st.ext hx
        clear hx
        (try clear hc); have hc := st.facts; (try simp only [nfl, nft, elI, elF, Nat.reduceAdd] at hc)
        go_wp2_with fail
        go_ret
        exact ⟨by rw [HF.out] <;> rfl, st.ext0⟩
      | false =>
        have HF : Hid (rv = false) := Lib.hid (by rw [H2.out]; simp)
        (try simp only [nsl, Value.cells, unB] at st)
        (try clear hc); have hc := st.facts; (try simp only [nfl, nft, elI, elF, Nat.reduceAdd] at hc)
        go_enter Tryd.func9, Tryd.ntmps9
        go_wp2_with ((first
              | ((with_reducible refine wl_box ?_ (fun K hK => ?_)); rfl; refine owp_box (o := ⟨some 2, _, _, _, _, _⟩) rfl st ?_; apply Exists.intro; refine ⟨?_, ?_⟩; (focus (go_simp; try rfl)); (clear st; intro b2 w hb st; clear hb))
              | ((with_reducible refine wl_box ?_ (fun K hK => ?_)); rfl; refine owp_box (o := ⟨some 3, _, _, _, _, _⟩) rfl st ?_; apply Exists.intro; refine ⟨?_, ?_⟩; (focus (go_simp; try rfl)); (clear st; intro b3 w hb st; clear hb))); (try simp only [nsl, Value.cells, unB] at st); (try clear hc); have hc := st.facts; (try simp only [nfl, nft, elI, elF, Nat.reduceAdd] at hc))
        go_ret
        exact ⟨by rw [HF.out] <;> rfl, st.ext0⟩
    · have HF : Hid (rv = false) := Lib.hid (by rw [HV.out, decide_eq_false h2]; simp)
      have hkb : (k == k2) = false := by simpa using h2
      clear HV
      subst h1
      clear h2
      (try simp only [nsl, Value.cells, unB] at st)
      (try clear hc); have hc := st.facts; (try simp only [nfl, nft, elI, elF, Nat.reduceAdd] at hc)
      go_enter Tryd.func9, Tryd.ntmps9
      go_wp2_with ((first
            | ((with_reducible refine wl_box ?_ (fun K hK => ?_)); rfl; refine owp_box (o := ⟨some 2, _, _, _, _, _⟩) rfl st ?_; apply Exists.intro; refine ⟨?_, ?_⟩; (focus (go_simp; try rfl)); (clear st; intro b2 w hb st; clear hb))
            | ((with_reducible refine wl_box ?_ (fun K hK => ?_)); rfl; refine owp_box (o := ⟨some 3, _, _, _, _, _⟩) rfl st ?_; apply Exists.intro; refine ⟨?_, ?_⟩; (focus (go_simp; try rfl)); (clear st; intro b3 w hb st; clear hb))); (try simp only [nsl, Value.cells, unB] at st); (try clear hc); have hc := st.facts; (try simp only [nfl, nft, elI, elF, Nat.reduceAdd] at hc))
      go_ret
      exact ⟨by rw [HF.out] <;> rfl, st.ext0⟩
  · have HF : Hid (rv = false) := Lib.hid (by rw [HV.out, decide_eq_false h1]; simp)
    have hob : (op == op2) = false := by simpa using h1
    clear h1 HV
    (try simp only [nsl, Value.cells, unB] at st)
    (try clear hc); have hc := st.facts; (try simp only [nfl, nft, elI, elF, Nat.reduceAdd] at hc)
    go_enter Tryd.func9, Tryd.ntmps9
    go_wp2_with ((first
          | ((with_reducible refine wl_box ?_ (fun K hK => ?_)); rfl; refine owp_box (o := ⟨some 2, _, _, _, _, _⟩) rfl st ?_; apply Exists.intro; refine ⟨?_, ?_⟩; (focus (go_simp; try rfl)); (clear st; intro b2 w hb st; clear hb))
          | ((with_reducible refine wl_box ?_ (fun K hK => ?_)); rfl; refine owp_box (o := ⟨some 3, _, _, _, _, _⟩) rfl st ?_; apply Exists.intro; refine ⟨?_, ?_⟩; (focus (go_simp; try rfl)); (clear st; intro b3 w hb st; clear hb))); (try simp only [nsl, Value.cells, unB] at st); (try clear hc); have hc := st.facts; (try simp only [nfl, nft, elI, elF, Nat.reduceAdd] at hc))
    go_ret
    exact ⟨by rw [HF.out] <;> rfl, st.ext0⟩
end Go.Proofs.YtnemipgmkenemaaDoor

namespace Go.Proofs.YtnemipgmkenemaaDoor
set_option linter.unusedSimpArgs false
set_option linter.unusedVariables false
open Go Go.RowKit
end Go.Proofs.YtnemipgmkenemaaDoor

namespace Go.Proofs.YtnemipgmkenemaaDoor
set_option linter.unusedSimpArgs false
set_option linter.unusedVariables false
open Go Go.RowKit
theorem well_parts {op k : Int} {r : Role} {kids : List Fo} (h : (Fo.mk op k r kids).well = true) : nodeR op k r kids.length = true ∧ kids.length ≤ 8 ∧ ∀ x ∈ kids, x.well = true := by
  rw [Fo.well, Bool.and_eq_true, Bool.and_eq_true, decide_eq_true_eq, wellL_all, List.all_eq_true] at h
  exact ⟨h.1.1, h.1.2, h.2⟩
theorem node_op {op k : Int} {r : Role} {n : Nat} (h : nodeR op k r n = true) : (op = 1 ∧ roleR r = true ∧ n = 0 ∧ k = 0) ∨ ((op = 2 ∨ op = 3) ∧ r = ([], []) ∧ k = 0) ∨ (op = 4 ∧ r = ([], []) ∧ 0 ≤ k ∧ k ≤ (n : Int) ∧ 1 ≤ n) := by
  unfold nodeR at h
  split at h
  · rename_i o1
    simp only [Bool.and_eq_true, decide_eq_true_eq] at h
    exact .inl ⟨o1, h.1.1, h.1.2, h.2⟩
  · split at h
    · rename_i o2
      simp only [Bool.and_eq_true, decide_eq_true_eq] at h
      exact .inr (.inl ⟨o2, h.1, h.2⟩)
    · simp only [Bool.and_eq_true, decide_eq_true_eq] at h
      exact .inr (.inr ⟨h.1.1.1.1, h.1.1.1.2, h.1.1.2, h.1.2, h.2⟩)
end Go.Proofs.YtnemipgmkenemaaDoor

namespace Go.Proofs.YtnemipgmkenemaaDoor
set_option linter.unusedSimpArgs false
set_option linter.unusedVariables false
open Go Go.RowKit
def headF (op k : Int) : List UInt8 := if op = 2 then [97, 108, 108] else if op = 3 then [115, 111, 109, 101] else [97, 116, 32] ++ Lib.decDigits k.toNat
mutual
def Fo.text : Fo → List UInt8
  | .mk op k r kids => if op = 1 then roleT r else headF op k ++ [40] ++ Lib.join (textL kids) [44, 32] ++ [41]
def textL : List Fo → List (List UInt8)
  | [] => []
  | x :: l => x.text :: textL l
end
theorem textL_eq : ∀ l : List Fo, textL l = l.map Fo.text
  | [] => rfl
  | x :: l => by rw [textL, textL_eq l]; rfl
theorem textL_snoc (l : List Fm) (j : Nat) (h : j < l.length) : textL ((l.take (j + 1)).map Fm.strip) = textL ((l.take j).map Fm.strip) ++ [l[j].strip.text] := by
  rw [textL_eq, textL_eq, map_snoc_strip l j h, List.map_append]; rfl
theorem joinTail_len (sep : List UInt8) : ∀ (r : List (List UInt8)), (Lib.joinTail sep r).length = (r.map fun x => sep.length + x.length).sum
  | [] => rfl
  | x :: r => by
    have := joinTail_len sep r
    unfold Lib.joinTail at *
    rw [List.map_cons, List.flatten_cons, List.length_append, this]
    simp
theorem join_le (l : List (List UInt8)) : (Lib.join l [44, 32]).length ≤ (l.map fun x => 2 + x.length).sum := by
  cases l with
  | nil => simp [Lib.join_nil]
  | cons x r =>
    rw [Lib.join_cons, List.length_append, joinTail_len]
    simp
theorem dig_one : ∀ n : Nat, n < 10 → Lib.decDigits n = [UInt8.ofNat (48 + n)] := by
  intro n hn
  match n, hn with
  | 0, _ => first | rfl | decide | simp [Lib.decDigits]
  | 1, _ => first | rfl | decide | simp [Lib.decDigits]
  | 2, _ => first | rfl | decide | simp [Lib.decDigits]
  | 3, _ => first | rfl | decide | simp [Lib.decDigits]
  | 4, _ => first | rfl | decide | simp [Lib.decDigits]
  | 5, _ => first | rfl | decide | simp [Lib.decDigits]
  | 6, _ => first | rfl | decide | simp [Lib.decDigits]
  | 7, _ => first | rfl | decide | simp [Lib.decDigits]
  | 8, _ => first | rfl | decide | simp [Lib.decDigits]
  | 9, _ => first | rfl | decide | simp [Lib.decDigits]
theorem text_sum : ∀ (l : List Fo), (∀ x ∈ l, x.text.length + 2 ≤ 64 * x.nodes) → (((textL l).map fun x => 2 + x.length)).sum ≤ 64 * nodesL l
  | [], _ => by simp [textL, nodesL]
  | x :: l, h => by
    have h1 := h x (by simp)
    have h2 := text_sum l (fun y hy => h y (List.mem_cons_of_mem _ hy))
    rw [textL, List.map_cons, List.sum_cons, nodesL]
    omega
theorem headF_len {op k : Int} (h : op = 2 ∨ op = 3 ∨ (op = 4 ∧ 0 ≤ k ∧ k ≤ 8)) : (headF op k).length ≤ 4 := by
  unfold headF
  rcases h with rfl | rfl | ⟨rfl, h1, h2⟩
  · simp
  · simp
  · rw [if_neg (by decide), if_neg (by decide), dig_one _ (by omega)]; simp
theorem text_len (f : Fo) : f.well = true → f.text.length + 2 ≤ 64 * f.nodes := by
  refine Fo.ind (P := fun f => f.well = true → f.text.length + 2 ≤ 64 * f.nodes) (fun op k r kids ih h => ?_) f
  obtain ⟨h1, h2, h3⟩ := well_parts h
  rw [Fo.text, Fo.nodes]
  rcases node_op h1 with ⟨rfl, hr, _, _⟩ | ⟨o, rfl, rfl⟩ | ⟨rfl, rfl, k0, kn, _⟩
  · rw [if_pos rfl]
    obtain ⟨o, d⟩ := r
    have hr' : nameR o = true ∧ nameR d = true := by simpa [roleR] using hr
    have h1 := (nameR_len hr'.1).2
    have h2 := (nameR_len hr'.2).2
    unfold roleT
    simp only [List.length_append, List.length_singleton]
    omega
  · have hs := text_sum kids (fun x hx => ih x hx (h3 x hx))
    have hj := join_le (textL kids)
    have hh := headF_len (op := op) (k := 0) (by omega)
    rw [if_neg (by omega)]
    simp only [List.length_append, List.length_singleton]
    omega
  · have hs := text_sum kids (fun x hx => ih x hx (h3 x hx))
    have hj := join_le (textL kids)
    have hh := headF_len (op := 4) (k := k) (by omega)
    rw [if_neg (by omega)]
    simp only [List.length_append, List.length_singleton]
    omega
theorem joinS_any (a : Option Addr) (n c : Nat) (ts : List Tok) (W : World) (h : Fl W a n ts) (hc : n ≤ c) (hn : n ≤ 1000000) (hl : (Lib.join ts [44, 32]).length ≤ 1000000000) :
    Calls Tryd.prog 25 #[.slice a n c, .string ⟨#[44, 32]⟩] W fun e w' => e = .returned (S (Lib.join ts [44, 32])) ∧ Ext W w' := by
  rcases Nat.eq_zero_or_pos n with h0 | h0
  · subst h0
    obtain rfl : ts = [] := List.eq_nil_of_length_eq_zero h.1.symm
    refine (Tryd.strings_Join_none a c ⟨#[44, 32]⟩ W).mono ?_
    rintro e w' ⟨rfl, rfl⟩
    exact ⟨rfl, Ext.refl _⟩
  · obtain ⟨b, off, rfl, hcell⟩ := h.str h0
    have hmap : ((ts.map fun t => (⟨t.toArray⟩ : ByteArray)).map fun x => x.data.toList) = ts := by
      rw [List.map_map]; exact List.map_id'' (fun t => rfl) ts
    have hx : 0 < ts.length := by have := h.1; omega
    have hb : b < W.heap.size := World.block_lt_of_cell? W ⟨b, off + 0, none⟩ (hcell 0 _ (List.getElem?_eq_getElem hx))
    have hj := Tryd.strings_Join b off c (ts.map fun t => (⟨t.toArray⟩ : ByteArray)) ⟨#[44, 32]⟩ W (fun j x hx => by
      rw [List.getElem?_map] at hx
      cases hq : ts[j]? with
      | none => rw [hq] at hx; cases hx
      | some t => rw [hq] at hx; injection hx with hx; rw [← hx]; exact hcell j t hq) hb (by rw [List.length_map, ← h.1]; omega) (by rw [List.length_map, ← h.1]; exact hc) (by rw [hmap]; exact Nat.le_trans hl (by decide))
    rw [hmap, List.length_map, ← h.1] at hj
    refine hj.mono ?_
    rintro e w' ⟨rfl, hb⟩
    exact ⟨rfl, Ext.of_below hb⟩
end Go.Proofs.YtnemipgmkenemaaDoor

namespace Go.Proofs.YtnemipgmkenemaaDoor
set_option linter.unusedSimpArgs false
set_option linter.unusedVariables false
open Go Go.RowKit
set_option maxRecDepth 100000 in
set_option maxHeartbeats 8000000 in
theorem told_any (f : Fm) : ∀ W, FmOk W f → f.strip.well = true → f.strip.nodes ≤ 1000 →
    Calls Tryd.prog 15 #[fmV f] W fun e w' => e = .returned (S f.strip.text) ∧ Ext W w' := by
  induction f using Fm.ind
  rename_i op k r a n c kids ih
  intro W hok hw hnd
  rw [strip_mk] at *
  rw [Fo.nodes] at hnd
  have HJL : Hid ((Lib.join (textL (kids.map Fm.strip)) [44, 32]).length ≤ 100000) := Lib.hid (by
    have h1 := join_le (textL (kids.map Fm.strip))
    have h2 := text_sum (kids.map Fm.strip) (fun x hx => text_len x ((well_parts hw).2.2 x hx))
    omega)
  have HND : Hid (∀ x ∈ kids, x.strip.nodes ≤ 1000) := Lib.hid (fun x hx => by have := nodesL_mem _ _ (List.mem_map_of_mem (f := Fm.strip) hx); omega)
  obtain ⟨h1, h2, h3⟩ := well_parts hw
  rw [List.length_map] at h1 h2
  have hn := hok.fl.1
  rw [← hn] at h1 h2
  have HN : Hid (n = kids.length) := Lib.hid hn
  have H := Lib.hid hok
  have HI := Lib.hid ih
  have HWK := Lib.hid h3
  have happ := ba_append
  have st := Own.startOld W
  obtain ⟨res, hres⟩ : ∃ q, (Fo.mk op k r (kids.map Fm.strip)).text = q := ⟨_, rfl⟩
  have HRES := Lib.hid hres
  rw [hres]
  clear hres hn hok ih h3 hw hnd
  rcases node_op h1 with ⟨rfl, hr, rfl, rfl⟩ | ⟨o23, rfl, rfl⟩ | ⟨rfl, rfl, hk0, hkq, hnq⟩
  · obtain ⟨o, d⟩ := r
    have hr' : nameR o = true ∧ nameR d = true := by simpa [roleR] using hr
    have l1 := (nameR_len hr'.1).2
    have l2 := (nameR_len hr'.2).2
    have HT := Lib.hid (fun W' => roleText_any (o, d) W' (by simp only; omega))
    have HR : Hid (roleT (o, d) = res) := Lib.hid (by rw [← HRES.out, Fo.text, if_pos rfl])
    rw [HR.out] at HT
    unfold rV S at HT
    clear hr hr' h1
    unfold fmV S
    simp only at HT ⊢
    (try simp only [nsl, Value.cells, unB] at st)
    (try clear hc); have hc := st.facts; (try simp only [nfl, nft, Nat.reduceAdd] at hc)
    go_enter Tryd.func15, Tryd.ntmps15
    go_wp2_with ((first
          | ((with_reducible refine wl_box ?_ (fun K hK => ?_)); rfl; refine owp_box (o := ⟨some 1, _, _, _, _, _⟩) rfl st ?_; apply Exists.intro; refine ⟨?_, ?_⟩; (focus (go_simp; try rfl)); (clear st; intro b1 w hb st; clear hb))
          | ((with_reducible refine wl_alloc ?_ (fun K hK => ?_)); rfl; refine owp_alloc (o := ⟨some 6, _, _, _, _, _⟩) rfl st ?_; apply Exists.intro; apply Exists.intro; refine ⟨?_, ?_⟩; (focus (first | (go_simp; done) | (go_simp; rfl))); (clear st; intro b6 w hb st; clear hb))
          | ((with_reducible refine wl_store ?_ (fun K hK => ?_)); rfl; refine owp_store rfl st ?_; apply Exists.intro; apply Exists.intro; refine ⟨?_, ?_, ?_⟩; (focus (go_simp; try rfl)); (focus (go_simp; try rfl)); (first | (with_reducible refine ⟨0, _, _, _, _, get0, rfl, rfl, ?_, ?_, ?_, ?_⟩) | (with_reducible refine ⟨1, _, _, _, _, get1, rfl, rfl, ?_, ?_, ?_, ?_⟩) | (with_reducible refine ⟨2, _, _, _, _, get2, rfl, rfl, ?_, ?_, ?_, ?_⟩) | (with_reducible refine ⟨3, _, _, _, _, get3, rfl, rfl, ?_, ?_, ?_, ?_⟩) | (with_reducible refine ⟨4, _, _, _, _, get4, rfl, rfl, ?_, ?_, ?_, ?_⟩) | (with_reducible refine ⟨5, _, _, _, _, get5, rfl, rfl, ?_, ?_, ?_, ?_⟩)); (kernel_rfl); (simp [Value.cells]); (rfl); (clear st; intro w st))
          | ((with_reducible refine wl_buildSlice ?_ (fun K hK => ?_)); rfl; refine owp_buildSlice (o := ⟨some 32, _, _, _, _, _⟩) rfl st ?_; apply Exists.intro; apply Exists.intro; apply Exists.intro; apply Exists.intro; refine ⟨?_, ?_⟩; (focus (go_simp; (first | done | exact ⟨⟨rfl, rfl⟩, rfl⟩ | rfl))); (clear st; intro b32 w hb st; clear hb))); (try simp only [nsl, Value.cells, unB] at st); (try clear hc); have hc := st.facts; (try simp only [nfl, nft, Nat.reduceAdd] at hc))
    refine (HT.out _).mono ?_
    rintro en w ⟨rfl, hx⟩
    replace st := st.ext hx
    clear hx
    (try clear hc); have hc := st.facts; (try simp only [nfl, nft, Nat.reduceAdd] at hc)
    go_wp2_with ((first
          | ((with_reducible refine wl_box ?_ (fun K hK => ?_)); rfl; refine owp_box (o := ⟨some 1, _, _, _, _, _⟩) rfl st ?_; apply Exists.intro; refine ⟨?_, ?_⟩; (focus (go_simp; try rfl)); (clear st; intro b1 w hb st; clear hb))
          | ((with_reducible refine wl_alloc ?_ (fun K hK => ?_)); rfl; refine owp_alloc (o := ⟨some 6, _, _, _, _, _⟩) rfl st ?_; apply Exists.intro; apply Exists.intro; refine ⟨?_, ?_⟩; (focus (first | (go_simp; done) | (go_simp; rfl))); (clear st; intro b6 w hb st; clear hb))
          | ((with_reducible refine wl_store ?_ (fun K hK => ?_)); rfl; refine owp_store rfl st ?_; apply Exists.intro; apply Exists.intro; refine ⟨?_, ?_, ?_⟩; (focus (go_simp; try rfl)); (focus (go_simp; try rfl)); (first | (with_reducible refine ⟨0, _, _, _, _, get0, rfl, rfl, ?_, ?_, ?_, ?_⟩) | (with_reducible refine ⟨1, _, _, _, _, get1, rfl, rfl, ?_, ?_, ?_, ?_⟩) | (with_reducible refine ⟨2, _, _, _, _, get2, rfl, rfl, ?_, ?_, ?_, ?_⟩) | (with_reducible refine ⟨3, _, _, _, _, get3, rfl, rfl, ?_, ?_, ?_, ?_⟩) | (with_reducible refine ⟨4, _, _, _, _, get4, rfl, rfl, ?_, ?_, ?_, ?_⟩) | (with_reducible refine ⟨5, _, _, _, _, get5, rfl, rfl, ?_, ?_, ?_, ?_⟩)); (kernel_rfl); (simp [Value.cells]); (rfl); (clear st; intro w st))
          | ((with_reducible refine wl_buildSlice ?_ (fun K hK => ?_)); rfl; refine owp_buildSlice (o := ⟨some 32, _, _, _, _, _⟩) rfl st ?_; apply Exists.intro; apply Exists.intro; apply Exists.intro; apply Exists.intro; refine ⟨?_, ?_⟩; (focus (go_simp; (first | done | exact ⟨⟨rfl, rfl⟩, rfl⟩ | rfl))); (clear st; intro b32 w hb st; clear hb))); (try simp only [nsl, Value.cells, unB] at st); (try clear hc); have hc := st.facts; (try simp only [nfl, nft, Nat.reduceAdd] at hc))
    go_ret
    exact ⟨rfl, st.ext0⟩
  · rcases o23 with rfl | rfl
    · have HR : Hid ([97, 108, 108] ++ [40] ++ Lib.join (textL (kids.map Fm.strip)) [44, 32] ++ [41] = res) := Lib.hid (by rw [← HRES.out, Fo.text, if_neg (by decide)]; rfl)
      clear h1 HRES
      unfold fmV S
      simp only
      (try simp only [nsl, Value.cells, unB] at st)
      (try clear hc); have hc := st.facts; (try simp only [nfl, nft, Nat.reduceAdd] at hc)
      go_enter Tryd.func15, Tryd.ntmps15
      go_wp2_with ((first
            | ((with_reducible refine wl_box ?_ (fun K hK => ?_)); rfl; refine owp_box (o := ⟨some 1, _, _, _, _, _⟩) rfl st ?_; apply Exists.intro; refine ⟨?_, ?_⟩; (focus (go_simp; try rfl)); (clear st; intro b1 w hb st; clear hb))
            | ((with_reducible refine wl_alloc ?_ (fun K hK => ?_)); rfl; refine owp_alloc (o := ⟨some 6, _, _, _, _, _⟩) rfl st ?_; apply Exists.intro; apply Exists.intro; refine ⟨?_, ?_⟩; (focus (first | (go_simp; done) | (go_simp; rfl))); (clear st; intro b6 w hb st; clear hb))
            | ((with_reducible refine wl_store ?_ (fun K hK => ?_)); rfl; refine owp_store rfl st ?_; apply Exists.intro; apply Exists.intro; refine ⟨?_, ?_, ?_⟩; (focus (go_simp; try rfl)); (focus (go_simp; try rfl)); (first | (with_reducible refine ⟨0, _, _, _, _, get0, rfl, rfl, ?_, ?_, ?_, ?_⟩) | (with_reducible refine ⟨1, _, _, _, _, get1, rfl, rfl, ?_, ?_, ?_, ?_⟩) | (with_reducible refine ⟨2, _, _, _, _, get2, rfl, rfl, ?_, ?_, ?_, ?_⟩) | (with_reducible refine ⟨3, _, _, _, _, get3, rfl, rfl, ?_, ?_, ?_, ?_⟩) | (with_reducible refine ⟨4, _, _, _, _, get4, rfl, rfl, ?_, ?_, ?_, ?_⟩) | (with_reducible refine ⟨5, _, _, _, _, get5, rfl, rfl, ?_, ?_, ?_, ?_⟩)); (kernel_rfl); (simp [Value.cells]); (rfl); (clear st; intro w st))
            | ((with_reducible refine wl_buildSlice ?_ (fun K hK => ?_)); rfl; refine owp_buildSlice (o := ⟨some 32, _, _, _, _, _⟩) rfl st ?_; apply Exists.intro; apply Exists.intro; apply Exists.intro; apply Exists.intro; refine ⟨?_, ?_⟩; (focus (go_simp; (first | done | exact ⟨⟨rfl, rfl⟩, rfl⟩ | rfl))); (clear st; intro b32 w hb st; clear hb))); (try simp only [nsl, Value.cells, unB] at st); (try clear hc); have hc := st.facts; (try simp only [nfl, nft, Nat.reduceAdd] at hc))
      replace st := st.row_nil 9 1
      simp only [List.cons_append, List.nil_append] at st
      (try simp only [nsl, Value.cells, unB] at st)
      (try clear hc); have hc := st.facts; (try simp only [nfl, nft, Nat.reduceAdd] at hc)
      go_loopg [4, 25] n (fun q v i wr => ∃ (j : Nat) (fa : Option Addr) (fc : Nat), j ≤ n ∧ q = n - j ∧ i = .int .i64 (j : Int) ∧ v = .slice fa j fc ∧ Own (fun _ => False) (fun _ => True) W [oldI W, blkI b1 [.int .i64 2, .int .i64 0, .string ⟨#[]⟩, .string ⟨#[]⟩, .slice a n c], rowI 9 1 (.slice fa j fc) j (cellsL (textL ((kids.take j).map Fm.strip)))] wr)
      case atStart => exact ⟨0, none, 0, by omega, by omega, rfl, rfl, by simpa [cellsL, textL] using st⟩
      case round =>
        obtain ⟨j, fa, fc, hj, rfl, rfl, rfl, st'⟩ := hrel
        clear st hc
        have st := st'
        clear st'
        by_cases hjn : j < n
        · obtain ⟨b, off, ha, hcell⟩ := (st.oldFl (i := 0) get0 H.out.fl).fm (by omega)
          have hjl : j < kids.length := by have := HN.out; omega
          have hgt := List.getElem?_eq_getElem hjl
          have HTK : Hid (cellsL (textL ((kids.take (j + 1)).map Fm.strip)) = cellsL (textL ((kids.take j).map Fm.strip)) ++ [S kids[j].strip.text]) := Lib.hid (by rw [textL_snoc kids j hjl, cellsL_append]; rfl)
          have HC := Lib.hid (fun W' (hx : Ext W W') => HI.out _ (List.getElem_mem hjl) W' ((H.out.kids _ (List.getElem_mem hjl)).ext hx) (HWK.out _ (List.mem_map_of_mem (f := Fm.strip) (List.getElem_mem hjl))) (HND.out _ (List.getElem_mem hjl)))
          generalize kids[j] = x at *
          obtain ⟨tx, htx⟩ : ∃ t, x.strip.text = t := ⟨_, rfl⟩
          rw [htx] at HC HTK
          obtain ⟨op', k', ⟨o', d'⟩, a', n', c', kids'⟩ := x
          obtain ⟨r0, r1, r2, r3, r4⟩ := hcell j op' k' (o', d') a' n' c' kids' hgt
          subst ha
          unfold fmV S at HC
          unfold S at r2 r3 HTK
          simp only at r2 r3 HC
          clear hcell hgt hjl htx
          (try simp only [nsl, Value.cells, unB] at st)
          (try clear hc); have hc := st.facts; (try simp only [nfl, nft, Nat.reduceAdd] at hc)
          go_wp2_with ((first
                | ((with_reducible refine wl_box ?_ (fun K hK => ?_)); rfl; refine owp_box (o := ⟨some 1, _, _, _, _, _⟩) rfl st ?_; apply Exists.intro; refine ⟨?_, ?_⟩; (focus (go_simp; try rfl)); (clear st; intro b1 w hb st; clear hb))
                | ((with_reducible refine wl_alloc ?_ (fun K hK => ?_)); rfl; refine owp_alloc (o := ⟨some 6, _, _, _, _, _⟩) rfl st ?_; apply Exists.intro; apply Exists.intro; refine ⟨?_, ?_⟩; (focus (first | (go_simp; done) | (go_simp; rfl))); (clear st; intro b6 w hb st; clear hb))
                | ((with_reducible refine wl_store ?_ (fun K hK => ?_)); rfl; refine owp_store rfl st ?_; apply Exists.intro; apply Exists.intro; refine ⟨?_, ?_, ?_⟩; (focus (go_simp; try rfl)); (focus (go_simp; try rfl)); (first | (with_reducible refine ⟨0, _, _, _, _, get0, rfl, rfl, ?_, ?_, ?_, ?_⟩) | (with_reducible refine ⟨1, _, _, _, _, get1, rfl, rfl, ?_, ?_, ?_, ?_⟩) | (with_reducible refine ⟨2, _, _, _, _, get2, rfl, rfl, ?_, ?_, ?_, ?_⟩) | (with_reducible refine ⟨3, _, _, _, _, get3, rfl, rfl, ?_, ?_, ?_, ?_⟩) | (with_reducible refine ⟨4, _, _, _, _, get4, rfl, rfl, ?_, ?_, ?_, ?_⟩) | (with_reducible refine ⟨5, _, _, _, _, get5, rfl, rfl, ?_, ?_, ?_, ?_⟩)); (kernel_rfl); (simp [Value.cells]); (rfl); (clear st; intro w st))
                | ((with_reducible refine wl_buildSlice ?_ (fun K hK => ?_)); rfl; refine owp_buildSlice (o := ⟨some 32, _, _, _, _, _⟩) rfl st ?_; apply Exists.intro; apply Exists.intro; apply Exists.intro; apply Exists.intro; refine ⟨?_, ?_⟩; (focus (go_simp; (first | done | exact ⟨⟨rfl, rfl⟩, rfl⟩ | rfl))); (clear st; intro b32 w hb st; clear hb))); (try simp only [nsl, Value.cells, unB] at st); (try clear hc); have hc := st.facts; (try simp only [nfl, nft, Nat.reduceAdd] at hc))
          refine (HC.out _ st.ext0).mono ?_
          rintro en w ⟨rfl, hx⟩
          replace st := st.ext hx
          clear hx
          (try clear hc); have hc := st.facts; (try simp only [nfl, nft, Nat.reduceAdd] at hc)
          go_wp2_with (first
              | ((with_reducible refine wl_append ?_ (fun K hK => ?_)); (rfl); (obtain ⟨inf, hinf, hz0, hz1, hz2⟩ := strInfo); (refine owp_append rfl st 2 get2 Tryd.underlying49 hinf hz0 hz1 hz2 rfl (by decide) rfl rfl ((st.blk (i := 4) get4).flat rfl) (by first | exact cellsL_all _ | simp [Value.oneCell']) (by simp only [maxLen]; omega) (by omega) ?_); (clear hinf hz0 hz1 hz2 inf); (clear st; intro v' w st); (obtain ⟨va', vc', rfl⟩ := own_slice (st.row (i := 2) get2)); (try simp only [nsl, Value.cells, unB] at st); (try simp only [Nat.zero_add] at st); (try clear hc); have hc := st.facts; (try simp only [nfl, nft, Nat.reduceAdd] at hc))
              | ((first
                | ((with_reducible refine wl_box ?_ (fun K hK => ?_)); rfl; refine owp_box (o := ⟨some 1, _, _, _, _, _⟩) rfl st ?_; apply Exists.intro; refine ⟨?_, ?_⟩; (focus (go_simp; try rfl)); (clear st; intro b1 w hb st; clear hb))
                | ((with_reducible refine wl_alloc ?_ (fun K hK => ?_)); rfl; refine owp_alloc (o := ⟨some 6, _, _, _, _, _⟩) rfl st ?_; apply Exists.intro; apply Exists.intro; refine ⟨?_, ?_⟩; (focus (first | (go_simp; done) | (go_simp; rfl))); (clear st; intro b6 w hb st; clear hb))
                | ((with_reducible refine wl_store ?_ (fun K hK => ?_)); rfl; refine owp_store rfl st ?_; apply Exists.intro; apply Exists.intro; refine ⟨?_, ?_, ?_⟩; (focus (go_simp; try rfl)); (focus (go_simp; try rfl)); (first | (with_reducible refine ⟨0, _, _, _, _, get0, rfl, rfl, ?_, ?_, ?_, ?_⟩) | (with_reducible refine ⟨1, _, _, _, _, get1, rfl, rfl, ?_, ?_, ?_, ?_⟩) | (with_reducible refine ⟨2, _, _, _, _, get2, rfl, rfl, ?_, ?_, ?_, ?_⟩) | (with_reducible refine ⟨3, _, _, _, _, get3, rfl, rfl, ?_, ?_, ?_, ?_⟩) | (with_reducible refine ⟨4, _, _, _, _, get4, rfl, rfl, ?_, ?_, ?_, ?_⟩) | (with_reducible refine ⟨5, _, _, _, _, get5, rfl, rfl, ?_, ?_, ?_, ?_⟩)); (kernel_rfl); (simp [Value.cells]); (rfl); (clear st; intro w st))
                | ((with_reducible refine wl_buildSlice ?_ (fun K hK => ?_)); rfl; refine owp_buildSlice (o := ⟨some 32, _, _, _, _, _⟩) rfl st ?_; apply Exists.intro; apply Exists.intro; apply Exists.intro; apply Exists.intro; refine ⟨?_, ?_⟩; (focus (go_simp; (first | done | exact ⟨⟨rfl, rfl⟩, rfl⟩ | rfl))); (clear st; intro b32 w hb st; clear hb))); (try simp only [nsl, Value.cells, unB] at st); (try clear hc); have hc := st.facts; (try simp only [nfl, nft, Nat.reduceAdd] at hc)))
          have st' := st.keep [0, 1, 2] (by decide) (by simp)
          go_roundg (n - (j + 1))
          case measure => omega
          case rel => exact ⟨j + 1, va', vc', by omega, by omega, by go_num, rfl, by rw [HTK.out]; simpa [pick] using st'⟩
        · obtain rfl : j = n := by omega
          rw [List.take_of_length_le (by have := HN.out; omega)] at st
          obtain ⟨hcap, hfl⟩ := rowFl' (α := Tok) st (i := 2) get2
          have HJN := Lib.hid (fun W' (hx : Fl W' fa j (textL (kids.map Fm.strip))) => joinS_any fa j fc _ W' hx hcap.1 (by omega) (by have := HJL.out; omega))
          have HJL2 := HJL.out
          generalize Lib.join (textL (kids.map Fm.strip)) [44, 32] = jt at *
          unfold S at HJN
          clear hcap hfl
          (try simp only [nsl, Value.cells, unB] at st)
          (try clear hc); have hc := st.facts; (try simp only [nfl, nft, Nat.reduceAdd] at hc)
          go_wp2_with ((first
                | ((with_reducible refine wl_box ?_ (fun K hK => ?_)); rfl; refine owp_box (o := ⟨some 1, _, _, _, _, _⟩) rfl st ?_; apply Exists.intro; refine ⟨?_, ?_⟩; (focus (go_simp; try rfl)); (clear st; intro b1 w hb st; clear hb))
                | ((with_reducible refine wl_alloc ?_ (fun K hK => ?_)); rfl; refine owp_alloc (o := ⟨some 6, _, _, _, _, _⟩) rfl st ?_; apply Exists.intro; apply Exists.intro; refine ⟨?_, ?_⟩; (focus (first | (go_simp; done) | (go_simp; rfl))); (clear st; intro b6 w hb st; clear hb))
                | ((with_reducible refine wl_store ?_ (fun K hK => ?_)); rfl; refine owp_store rfl st ?_; apply Exists.intro; apply Exists.intro; refine ⟨?_, ?_, ?_⟩; (focus (go_simp; try rfl)); (focus (go_simp; try rfl)); (first | (with_reducible refine ⟨0, _, _, _, _, get0, rfl, rfl, ?_, ?_, ?_, ?_⟩) | (with_reducible refine ⟨1, _, _, _, _, get1, rfl, rfl, ?_, ?_, ?_, ?_⟩) | (with_reducible refine ⟨2, _, _, _, _, get2, rfl, rfl, ?_, ?_, ?_, ?_⟩) | (with_reducible refine ⟨3, _, _, _, _, get3, rfl, rfl, ?_, ?_, ?_, ?_⟩) | (with_reducible refine ⟨4, _, _, _, _, get4, rfl, rfl, ?_, ?_, ?_, ?_⟩) | (with_reducible refine ⟨5, _, _, _, _, get5, rfl, rfl, ?_, ?_, ?_, ?_⟩)); (kernel_rfl); (simp [Value.cells]); (rfl); (clear st; intro w st))
                | ((with_reducible refine wl_buildSlice ?_ (fun K hK => ?_)); rfl; refine owp_buildSlice (o := ⟨some 32, _, _, _, _, _⟩) rfl st ?_; apply Exists.intro; apply Exists.intro; apply Exists.intro; apply Exists.intro; refine ⟨?_, ?_⟩; (focus (go_simp; (first | done | exact ⟨⟨rfl, rfl⟩, rfl⟩ | rfl))); (clear st; intro b32 w hb st; clear hb))); (try simp only [nsl, Value.cells, unB] at st); (try clear hc); have hc := st.facts; (try simp only [nfl, nft, Nat.reduceAdd] at hc))
          replace st := st.rowToFl (α := Tok) (i := 2) get2
          simp only [List.set] at st
          refine (HJN.out _ (st.flAt (i := 2) get2)).mono ?_
          rintro en w ⟨rfl, hx⟩
          replace st := st.ext hx
          clear hx
          (try clear hc); have hc := st.facts; (try simp only [nfl, nft, Nat.reduceAdd] at hc)
          go_wp2_with ((first
                | ((with_reducible refine wl_box ?_ (fun K hK => ?_)); rfl; refine owp_box (o := ⟨some 1, _, _, _, _, _⟩) rfl st ?_; apply Exists.intro; refine ⟨?_, ?_⟩; (focus (go_simp; try rfl)); (clear st; intro b1 w hb st; clear hb))
                | ((with_reducible refine wl_alloc ?_ (fun K hK => ?_)); rfl; refine owp_alloc (o := ⟨some 6, _, _, _, _, _⟩) rfl st ?_; apply Exists.intro; apply Exists.intro; refine ⟨?_, ?_⟩; (focus (first | (go_simp; done) | (go_simp; rfl))); (clear st; intro b6 w hb st; clear hb))
                | ((with_reducible refine wl_store ?_ (fun K hK => ?_)); rfl; refine owp_store rfl st ?_; apply Exists.intro; apply Exists.intro; refine ⟨?_, ?_, ?_⟩; (focus (go_simp; try rfl)); (focus (go_simp; try rfl)); (first | (with_reducible refine ⟨0, _, _, _, _, get0, rfl, rfl, ?_, ?_, ?_, ?_⟩) | (with_reducible refine ⟨1, _, _, _, _, get1, rfl, rfl, ?_, ?_, ?_, ?_⟩) | (with_reducible refine ⟨2, _, _, _, _, get2, rfl, rfl, ?_, ?_, ?_, ?_⟩) | (with_reducible refine ⟨3, _, _, _, _, get3, rfl, rfl, ?_, ?_, ?_, ?_⟩) | (with_reducible refine ⟨4, _, _, _, _, get4, rfl, rfl, ?_, ?_, ?_, ?_⟩) | (with_reducible refine ⟨5, _, _, _, _, get5, rfl, rfl, ?_, ?_, ?_, ?_⟩)); (kernel_rfl); (simp [Value.cells]); (rfl); (clear st; intro w st))
                | ((with_reducible refine wl_buildSlice ?_ (fun K hK => ?_)); rfl; refine owp_buildSlice (o := ⟨some 32, _, _, _, _, _⟩) rfl st ?_; apply Exists.intro; apply Exists.intro; apply Exists.intro; apply Exists.intro; refine ⟨?_, ?_⟩; (focus (go_simp; (first | done | exact ⟨⟨rfl, rfl⟩, rfl⟩ | rfl))); (clear st; intro b32 w hb st; clear hb))); (try simp only [nsl, Value.cells, unB] at st); (try clear hc); have hc := st.facts; (try simp only [nfl, nft, Nat.reduceAdd] at hc))
          go_ret
          exact ⟨by rw [← HR.out]; simp [S], st.ext0⟩
    · have HR : Hid ([115, 111, 109, 101] ++ [40] ++ Lib.join (textL (kids.map Fm.strip)) [44, 32] ++ [41] = res) := Lib.hid (by rw [← HRES.out, Fo.text, if_neg (by decide)]; rfl)
      clear h1 HRES
      unfold fmV S
      simp only
      (try simp only [nsl, Value.cells, unB] at st)
      (try clear hc); have hc := st.facts; (try simp only [nfl, nft, Nat.reduceAdd] at hc)
      go_enter Tryd.func15, Tryd.ntmps15
      go_wp2_with ((first
            | ((with_reducible refine wl_box ?_ (fun K hK => ?_)); rfl; refine owp_box (o := ⟨some 1, _, _, _, _, _⟩) rfl st ?_; apply Exists.intro; refine ⟨?_, ?_⟩; (focus (go_simp; try rfl)); (clear st; intro b1 w hb st; clear hb))
            | ((with_reducible refine wl_alloc ?_ (fun K hK => ?_)); rfl; refine owp_alloc (o := ⟨some 6, _, _, _, _, _⟩) rfl st ?_; apply Exists.intro; apply Exists.intro; refine ⟨?_, ?_⟩; (focus (first | (go_simp; done) | (go_simp; rfl))); (clear st; intro b6 w hb st; clear hb))
            | ((with_reducible refine wl_store ?_ (fun K hK => ?_)); rfl; refine owp_store rfl st ?_; apply Exists.intro; apply Exists.intro; refine ⟨?_, ?_, ?_⟩; (focus (go_simp; try rfl)); (focus (go_simp; try rfl)); (first | (with_reducible refine ⟨0, _, _, _, _, get0, rfl, rfl, ?_, ?_, ?_, ?_⟩) | (with_reducible refine ⟨1, _, _, _, _, get1, rfl, rfl, ?_, ?_, ?_, ?_⟩) | (with_reducible refine ⟨2, _, _, _, _, get2, rfl, rfl, ?_, ?_, ?_, ?_⟩) | (with_reducible refine ⟨3, _, _, _, _, get3, rfl, rfl, ?_, ?_, ?_, ?_⟩) | (with_reducible refine ⟨4, _, _, _, _, get4, rfl, rfl, ?_, ?_, ?_, ?_⟩) | (with_reducible refine ⟨5, _, _, _, _, get5, rfl, rfl, ?_, ?_, ?_, ?_⟩)); (kernel_rfl); (simp [Value.cells]); (rfl); (clear st; intro w st))
            | ((with_reducible refine wl_buildSlice ?_ (fun K hK => ?_)); rfl; refine owp_buildSlice (o := ⟨some 32, _, _, _, _, _⟩) rfl st ?_; apply Exists.intro; apply Exists.intro; apply Exists.intro; apply Exists.intro; refine ⟨?_, ?_⟩; (focus (go_simp; (first | done | exact ⟨⟨rfl, rfl⟩, rfl⟩ | rfl))); (clear st; intro b32 w hb st; clear hb))); (try simp only [nsl, Value.cells, unB] at st); (try clear hc); have hc := st.facts; (try simp only [nfl, nft, Nat.reduceAdd] at hc))
      replace st := st.row_nil 9 1
      simp only [List.cons_append, List.nil_append] at st
      (try simp only [nsl, Value.cells, unB] at st)
      (try clear hc); have hc := st.facts; (try simp only [nfl, nft, Nat.reduceAdd] at hc)
      go_loopg [4, 25] n (fun q v i wr => ∃ (j : Nat) (fa : Option Addr) (fc : Nat), j ≤ n ∧ q = n - j ∧ i = .int .i64 (j : Int) ∧ v = .slice fa j fc ∧ Own (fun _ => False) (fun _ => True) W [oldI W, blkI b1 [.int .i64 3, .int .i64 0, .string ⟨#[]⟩, .string ⟨#[]⟩, .slice a n c], rowI 9 1 (.slice fa j fc) j (cellsL (textL ((kids.take j).map Fm.strip)))] wr)
      case atStart => exact ⟨0, none, 0, by omega, by omega, rfl, rfl, by simpa [cellsL, textL] using st⟩
      case round =>
        obtain ⟨j, fa, fc, hj, rfl, rfl, rfl, st'⟩ := hrel
        clear st hc
        have st := st'
        clear st'
        by_cases hjn : j < n
        · obtain ⟨b, off, ha, hcell⟩ := (st.oldFl (i := 0) get0 H.out.fl).fm (by omega)
          have hjl : j < kids.length := by have := HN.out; omega
          have hgt := List.getElem?_eq_getElem hjl
          have HTK : Hid (cellsL (textL ((kids.take (j + 1)).map Fm.strip)) = cellsL (textL ((kids.take j).map Fm.strip)) ++ [S kids[j].strip.text]) := Lib.hid (by rw [textL_snoc kids j hjl, cellsL_append]; rfl)
          have HC := Lib.hid (fun W' (hx : Ext W W') => HI.out _ (List.getElem_mem hjl) W' ((H.out.kids _ (List.getElem_mem hjl)).ext hx) (HWK.out _ (List.mem_map_of_mem (f := Fm.strip) (List.getElem_mem hjl))) (HND.out _ (List.getElem_mem hjl)))
          generalize kids[j] = x at *
          obtain ⟨tx, htx⟩ : ∃ t, x.strip.text = t := ⟨_, rfl⟩
          rw [htx] at HC HTK
          obtain ⟨op', k', ⟨o', d'⟩, a', n', c', kids'⟩ := x
          obtain ⟨r0, r1, r2, r3, r4⟩ := hcell j op' k' (o', d') a' n' c' kids' hgt
          subst ha
          unfold fmV S at HC
          unfold S at r2 r3 HTK
          simp only at r2 r3 HC
          clear hcell hgt hjl htx
          (try simp only [nsl, Value.cells, unB] at st)
          (try clear hc); have hc := st.facts; (try simp only [nfl, nft, Nat.reduceAdd] at hc)
          go_wp2_with ((first
                | ((with_reducible refine wl_box ?_ (fun K hK => ?_)); rfl; refine owp_box (o := ⟨some 1, _, _, _, _, _⟩) rfl st ?_; apply Exists.intro; refine ⟨?_, ?_⟩; (focus (go_simp; try rfl)); (clear st; intro b1 w hb st; clear hb))
                | ((with_reducible refine wl_alloc ?_ (fun K hK => ?_)); rfl; refine owp_alloc (o := ⟨some 6, _, _, _, _, _⟩) rfl st ?_; apply Exists.intro; apply Exists.intro; refine ⟨?_, ?_⟩; (focus (first | (go_simp; done) | (go_simp; rfl))); (clear st; intro b6 w hb st; clear hb))
                | ((with_reducible refine wl_store ?_ (fun K hK => ?_)); rfl; refine owp_store rfl st ?_; apply Exists.intro; apply Exists.intro; refine ⟨?_, ?_, ?_⟩; (focus (go_simp; try rfl)); (focus (go_simp; try rfl)); (first | (with_reducible refine ⟨0, _, _, _, _, get0, rfl, rfl, ?_, ?_, ?_, ?_⟩) | (with_reducible refine ⟨1, _, _, _, _, get1, rfl, rfl, ?_, ?_, ?_, ?_⟩) | (with_reducible refine ⟨2, _, _, _, _, get2, rfl, rfl, ?_, ?_, ?_, ?_⟩) | (with_reducible refine ⟨3, _, _, _, _, get3, rfl, rfl, ?_, ?_, ?_, ?_⟩) | (with_reducible refine ⟨4, _, _, _, _, get4, rfl, rfl, ?_, ?_, ?_, ?_⟩) | (with_reducible refine ⟨5, _, _, _, _, get5, rfl, rfl, ?_, ?_, ?_, ?_⟩)); (kernel_rfl); (simp [Value.cells]); (rfl); (clear st; intro w st))
                | ((with_reducible refine wl_buildSlice ?_ (fun K hK => ?_)); rfl; refine owp_buildSlice (o := ⟨some 32, _, _, _, _, _⟩) rfl st ?_; apply Exists.intro; apply Exists.intro; apply Exists.intro; apply Exists.intro; refine ⟨?_, ?_⟩; (focus (go_simp; (first | done | exact ⟨⟨rfl, rfl⟩, rfl⟩ | rfl))); (clear st; intro b32 w hb st; clear hb))); (try simp only [nsl, Value.cells, unB] at st); (try clear hc); have hc := st.facts; (try simp only [nfl, nft, Nat.reduceAdd] at hc))
          refine (HC.out _ st.ext0).mono ?_
          rintro en w ⟨rfl, hx⟩
          replace st := st.ext hx
          clear hx
          (try clear hc); have hc := st.facts; (try simp only [nfl, nft, Nat.reduceAdd] at hc)
          go_wp2_with (first
              | ((with_reducible refine wl_append ?_ (fun K hK => ?_)); (rfl); (obtain ⟨inf, hinf, hz0, hz1, hz2⟩ := strInfo); (refine owp_append rfl st 2 get2 Tryd.underlying49 hinf hz0 hz1 hz2 rfl (by decide) rfl rfl ((st.blk (i := 4) get4).flat rfl) (by first | exact cellsL_all _ | simp [Value.oneCell']) (by simp only [maxLen]; omega) (by omega) ?_); (clear hinf hz0 hz1 hz2 inf); (clear st; intro v' w st); (obtain ⟨va', vc', rfl⟩ := own_slice (st.row (i := 2) get2)); (try simp only [nsl, Value.cells, unB] at st); (try simp only [Nat.zero_add] at st); (try clear hc); have hc := st.facts; (try simp only [nfl, nft, Nat.reduceAdd] at hc))
              | ((first
                | ((with_reducible refine wl_box ?_ (fun K hK => ?_)); rfl; refine owp_box (o := ⟨some 1, _, _, _, _, _⟩) rfl st ?_; apply Exists.intro; refine ⟨?_, ?_⟩; (focus (go_simp; try rfl)); (clear st; intro b1 w hb st; clear hb))
                | ((with_reducible refine wl_alloc ?_ (fun K hK => ?_)); rfl; refine owp_alloc (o := ⟨some 6, _, _, _, _, _⟩) rfl st ?_; apply Exists.intro; apply Exists.intro; refine ⟨?_, ?_⟩; (focus (first | (go_simp; done) | (go_simp; rfl))); (clear st; intro b6 w hb st; clear hb))
                | ((with_reducible refine wl_store ?_ (fun K hK => ?_)); rfl; refine owp_store rfl st ?_; apply Exists.intro; apply Exists.intro; refine ⟨?_, ?_, ?_⟩; (focus (go_simp; try rfl)); (focus (go_simp; try rfl)); (first | (with_reducible refine ⟨0, _, _, _, _, get0, rfl, rfl, ?_, ?_, ?_, ?_⟩) | (with_reducible refine ⟨1, _, _, _, _, get1, rfl, rfl, ?_, ?_, ?_, ?_⟩) | (with_reducible refine ⟨2, _, _, _, _, get2, rfl, rfl, ?_, ?_, ?_, ?_⟩) | (with_reducible refine ⟨3, _, _, _, _, get3, rfl, rfl, ?_, ?_, ?_, ?_⟩) | (with_reducible refine ⟨4, _, _, _, _, get4, rfl, rfl, ?_, ?_, ?_, ?_⟩) | (with_reducible refine ⟨5, _, _, _, _, get5, rfl, rfl, ?_, ?_, ?_, ?_⟩)); (kernel_rfl); (simp [Value.cells]); (rfl); (clear st; intro w st))
                | ((with_reducible refine wl_buildSlice ?_ (fun K hK => ?_)); rfl; refine owp_buildSlice (o := ⟨some 32, _, _, _, _, _⟩) rfl st ?_; apply Exists.intro; apply Exists.intro; apply Exists.intro; apply Exists.intro; refine ⟨?_, ?_⟩; (focus (go_simp; (first | done | exact ⟨⟨rfl, rfl⟩, rfl⟩ | rfl))); (clear st; intro b32 w hb st; clear hb))); (try simp only [nsl, Value.cells, unB] at st); (try clear hc); have hc := st.facts; (try simp only [nfl, nft, Nat.reduceAdd] at hc)))
          have st' := st.keep [0, 1, 2] (by decide) (by simp)
          go_roundg (n - (j + 1))
          case measure => omega
          case rel => exact ⟨j + 1, va', vc', by omega, by omega, by go_num, rfl, by rw [HTK.out]; simpa [pick] using st'⟩
        · obtain rfl : j = n := by omega
          rw [List.take_of_length_le (by have := HN.out; omega)] at st
          obtain ⟨hcap, hfl⟩ := rowFl' (α := Tok) st (i := 2) get2
          have HJN := Lib.hid (fun W' (hx : Fl W' fa j (textL (kids.map Fm.strip))) => joinS_any fa j fc _ W' hx hcap.1 (by omega) (by have := HJL.out; omega))
          have HJL2 := HJL.out
          generalize Lib.join (textL (kids.map Fm.strip)) [44, 32] = jt at *
          unfold S at HJN
          clear hcap hfl
          (try simp only [nsl, Value.cells, unB] at st)
          (try clear hc); have hc := st.facts; (try simp only [nfl, nft, Nat.reduceAdd] at hc)
          go_wp2_with ((first
                | ((with_reducible refine wl_box ?_ (fun K hK => ?_)); rfl; refine owp_box (o := ⟨some 1, _, _, _, _, _⟩) rfl st ?_; apply Exists.intro; refine ⟨?_, ?_⟩; (focus (go_simp; try rfl)); (clear st; intro b1 w hb st; clear hb))
                | ((with_reducible refine wl_alloc ?_ (fun K hK => ?_)); rfl; refine owp_alloc (o := ⟨some 6, _, _, _, _, _⟩) rfl st ?_; apply Exists.intro; apply Exists.intro; refine ⟨?_, ?_⟩; (focus (first | (go_simp; done) | (go_simp; rfl))); (clear st; intro b6 w hb st; clear hb))
                | ((with_reducible refine wl_store ?_ (fun K hK => ?_)); rfl; refine owp_store rfl st ?_; apply Exists.intro; apply Exists.intro; refine ⟨?_, ?_, ?_⟩; (focus (go_simp; try rfl)); (focus (go_simp; try rfl)); (first | (with_reducible refine ⟨0, _, _, _, _, get0, rfl, rfl, ?_, ?_, ?_, ?_⟩) | (with_reducible refine ⟨1, _, _, _, _, get1, rfl, rfl, ?_, ?_, ?_, ?_⟩) | (with_reducible refine ⟨2, _, _, _, _, get2, rfl, rfl, ?_, ?_, ?_, ?_⟩) | (with_reducible refine ⟨3, _, _, _, _, get3, rfl, rfl, ?_, ?_, ?_, ?_⟩) | (with_reducible refine ⟨4, _, _, _, _, get4, rfl, rfl, ?_, ?_, ?_, ?_⟩) | (with_reducible refine ⟨5, _, _, _, _, get5, rfl, rfl, ?_, ?_, ?_, ?_⟩)); (kernel_rfl); (simp [Value.cells]); (rfl); (clear st; intro w st))
                | ((with_reducible refine wl_buildSlice ?_ (fun K hK => ?_)); rfl; refine owp_buildSlice (o := ⟨some 32, _, _, _, _, _⟩) rfl st ?_; apply Exists.intro; apply Exists.intro; apply Exists.intro; apply Exists.intro; refine ⟨?_, ?_⟩; (focus (go_simp; (first | done | exact ⟨⟨rfl, rfl⟩, rfl⟩ | rfl))); (clear st; intro b32 w hb st; clear hb))); (try simp only [nsl, Value.cells, unB] at st); (try clear hc); have hc := st.facts; (try simp only [nfl, nft, Nat.reduceAdd] at hc))
          replace st := st.rowToFl (α := Tok) (i := 2) get2
          simp only [List.set] at st
          refine (HJN.out _ (st.flAt (i := 2) get2)).mono ?_
          rintro en w ⟨rfl, hx⟩
          replace st := st.ext hx
          clear hx
          (try clear hc); have hc := st.facts; (try simp only [nfl, nft, Nat.reduceAdd] at hc)
          go_wp2_with ((first
                | ((with_reducible refine wl_box ?_ (fun K hK => ?_)); rfl; refine owp_box (o := ⟨some 1, _, _, _, _, _⟩) rfl st ?_; apply Exists.intro; refine ⟨?_, ?_⟩; (focus (go_simp; try rfl)); (clear st; intro b1 w hb st; clear hb))
                | ((with_reducible refine wl_alloc ?_ (fun K hK => ?_)); rfl; refine owp_alloc (o := ⟨some 6, _, _, _, _, _⟩) rfl st ?_; apply Exists.intro; apply Exists.intro; refine ⟨?_, ?_⟩; (focus (first | (go_simp; done) | (go_simp; rfl))); (clear st; intro b6 w hb st; clear hb))
                | ((with_reducible refine wl_store ?_ (fun K hK => ?_)); rfl; refine owp_store rfl st ?_; apply Exists.intro; apply Exists.intro; refine ⟨?_, ?_, ?_⟩; (focus (go_simp; try rfl)); (focus (go_simp; try rfl)); (first | (with_reducible refine ⟨0, _, _, _, _, get0, rfl, rfl, ?_, ?_, ?_, ?_⟩) | (with_reducible refine ⟨1, _, _, _, _, get1, rfl, rfl, ?_, ?_, ?_, ?_⟩) | (with_reducible refine ⟨2, _, _, _, _, get2, rfl, rfl, ?_, ?_, ?_, ?_⟩) | (with_reducible refine ⟨3, _, _, _, _, get3, rfl, rfl, ?_, ?_, ?_, ?_⟩) | (with_reducible refine ⟨4, _, _, _, _, get4, rfl, rfl, ?_, ?_, ?_, ?_⟩) | (with_reducible refine ⟨5, _, _, _, _, get5, rfl, rfl, ?_, ?_, ?_, ?_⟩)); (kernel_rfl); (simp [Value.cells]); (rfl); (clear st; intro w st))
                | ((with_reducible refine wl_buildSlice ?_ (fun K hK => ?_)); rfl; refine owp_buildSlice (o := ⟨some 32, _, _, _, _, _⟩) rfl st ?_; apply Exists.intro; apply Exists.intro; apply Exists.intro; apply Exists.intro; refine ⟨?_, ?_⟩; (focus (go_simp; (first | done | exact ⟨⟨rfl, rfl⟩, rfl⟩ | rfl))); (clear st; intro b32 w hb st; clear hb))); (try simp only [nsl, Value.cells, unB] at st); (try clear hc); have hc := st.facts; (try simp only [nfl, nft, Nat.reduceAdd] at hc))
          go_ret
          exact ⟨by rw [← HR.out]; simp [S], st.ext0⟩
  · obtain ⟨kq, rfl⟩ : ∃ q : Nat, k = q := ⟨k.toNat, by omega⟩
    have HI2 := Lib.hid (fun w => Tryd.strconv_Itoa_small kq (by omega) w)
    have HR : Hid ([97, 116, 32] ++ Lib.decDigits kq ++ [40] ++ Lib.join (textL (kids.map Fm.strip)) [44, 32] ++ [41] = res) := Lib.hid (by rw [← HRES.out, Fo.text, if_neg (by decide)]; rfl)
    have hdl : (Lib.decDigits kq).length ≤ 1 := by rw [dig_one kq (by omega)]; simp
    generalize Lib.decDigits kq = dg at *
    clear h1 HRES hk0 hkq hnq
    unfold fmV S
    simp only
    (try simp only [nsl, Value.cells, unB] at st)
    (try clear hc); have hc := st.facts; (try simp only [nfl, nft, Nat.reduceAdd] at hc)
    go_enter Tryd.func15, Tryd.ntmps15
    go_wp2_with ((first
          | ((with_reducible refine wl_box ?_ (fun K hK => ?_)); rfl; refine owp_box (o := ⟨some 1, _, _, _, _, _⟩) rfl st ?_; apply Exists.intro; refine ⟨?_, ?_⟩; (focus (go_simp; try rfl)); (clear st; intro b1 w hb st; clear hb))
          | ((with_reducible refine wl_alloc ?_ (fun K hK => ?_)); rfl; refine owp_alloc (o := ⟨some 6, _, _, _, _, _⟩) rfl st ?_; apply Exists.intro; apply Exists.intro; refine ⟨?_, ?_⟩; (focus (first | (go_simp; done) | (go_simp; rfl))); (clear st; intro b6 w hb st; clear hb))
          | ((with_reducible refine wl_store ?_ (fun K hK => ?_)); rfl; refine owp_store rfl st ?_; apply Exists.intro; apply Exists.intro; refine ⟨?_, ?_, ?_⟩; (focus (go_simp; try rfl)); (focus (go_simp; try rfl)); (first | (with_reducible refine ⟨0, _, _, _, _, get0, rfl, rfl, ?_, ?_, ?_, ?_⟩) | (with_reducible refine ⟨1, _, _, _, _, get1, rfl, rfl, ?_, ?_, ?_, ?_⟩) | (with_reducible refine ⟨2, _, _, _, _, get2, rfl, rfl, ?_, ?_, ?_, ?_⟩) | (with_reducible refine ⟨3, _, _, _, _, get3, rfl, rfl, ?_, ?_, ?_, ?_⟩) | (with_reducible refine ⟨4, _, _, _, _, get4, rfl, rfl, ?_, ?_, ?_, ?_⟩) | (with_reducible refine ⟨5, _, _, _, _, get5, rfl, rfl, ?_, ?_, ?_, ?_⟩)); (kernel_rfl); (simp [Value.cells]); (rfl); (clear st; intro w st))
          | ((with_reducible refine wl_buildSlice ?_ (fun K hK => ?_)); rfl; refine owp_buildSlice (o := ⟨some 32, _, _, _, _, _⟩) rfl st ?_; apply Exists.intro; apply Exists.intro; apply Exists.intro; apply Exists.intro; refine ⟨?_, ?_⟩; (focus (go_simp; (first | done | exact ⟨⟨rfl, rfl⟩, rfl⟩ | rfl))); (clear st; intro b32 w hb st; clear hb))); (try simp only [nsl, Value.cells, unB] at st); (try clear hc); have hc := st.facts; (try simp only [nfl, nft, Nat.reduceAdd] at hc))
    refine (HI2.out _).mono ?_
    rintro en w'' ⟨rfl, rfl⟩
    go_wp2_with ((first
          | ((with_reducible refine wl_box ?_ (fun K hK => ?_)); rfl; refine owp_box (o := ⟨some 1, _, _, _, _, _⟩) rfl st ?_; apply Exists.intro; refine ⟨?_, ?_⟩; (focus (go_simp; try rfl)); (clear st; intro b1 w hb st; clear hb))
          | ((with_reducible refine wl_alloc ?_ (fun K hK => ?_)); rfl; refine owp_alloc (o := ⟨some 6, _, _, _, _, _⟩) rfl st ?_; apply Exists.intro; apply Exists.intro; refine ⟨?_, ?_⟩; (focus (first | (go_simp; done) | (go_simp; rfl))); (clear st; intro b6 w hb st; clear hb))
          | ((with_reducible refine wl_store ?_ (fun K hK => ?_)); rfl; refine owp_store rfl st ?_; apply Exists.intro; apply Exists.intro; refine ⟨?_, ?_, ?_⟩; (focus (go_simp; try rfl)); (focus (go_simp; try rfl)); (first | (with_reducible refine ⟨0, _, _, _, _, get0, rfl, rfl, ?_, ?_, ?_, ?_⟩) | (with_reducible refine ⟨1, _, _, _, _, get1, rfl, rfl, ?_, ?_, ?_, ?_⟩) | (with_reducible refine ⟨2, _, _, _, _, get2, rfl, rfl, ?_, ?_, ?_, ?_⟩) | (with_reducible refine ⟨3, _, _, _, _, get3, rfl, rfl, ?_, ?_, ?_, ?_⟩) | (with_reducible refine ⟨4, _, _, _, _, get4, rfl, rfl, ?_, ?_, ?_, ?_⟩) | (with_reducible refine ⟨5, _, _, _, _, get5, rfl, rfl, ?_, ?_, ?_, ?_⟩)); (kernel_rfl); (simp [Value.cells]); (rfl); (clear st; intro w st))
          | ((with_reducible refine wl_buildSlice ?_ (fun K hK => ?_)); rfl; refine owp_buildSlice (o := ⟨some 32, _, _, _, _, _⟩) rfl st ?_; apply Exists.intro; apply Exists.intro; apply Exists.intro; apply Exists.intro; refine ⟨?_, ?_⟩; (focus (go_simp; (first | done | exact ⟨⟨rfl, rfl⟩, rfl⟩ | rfl))); (clear st; intro b32 w hb st; clear hb))); (try simp only [nsl, Value.cells, unB] at st); (try clear hc); have hc := st.facts; (try simp only [nfl, nft, Nat.reduceAdd] at hc))
    replace st := st.row_nil 9 1
    simp only [List.cons_append, List.nil_append] at st
    (try simp only [nsl, Value.cells, unB] at st)
    (try clear hc); have hc := st.facts; (try simp only [nfl, nft, Nat.reduceAdd] at hc)
    go_loopg [4, 25] n (fun q v i wr => ∃ (j : Nat) (fa : Option Addr) (fc : Nat), j ≤ n ∧ q = n - j ∧ i = .int .i64 (j : Int) ∧ v = .slice fa j fc ∧ Own (fun _ => False) (fun _ => True) W [oldI W, blkI b1 [.int .i64 4, .int .i64 (kq : Int), .string ⟨#[]⟩, .string ⟨#[]⟩, .slice a n c], rowI 9 1 (.slice fa j fc) j (cellsL (textL ((kids.take j).map Fm.strip)))] wr)
    case atStart => exact ⟨0, none, 0, by omega, by omega, rfl, rfl, by simpa [cellsL, textL] using st⟩
    case round =>
      obtain ⟨j, fa, fc, hj, rfl, rfl, rfl, st'⟩ := hrel
      clear st hc
      have st := st'
      clear st'
      by_cases hjn : j < n
      · obtain ⟨b, off, ha, hcell⟩ := (st.oldFl (i := 0) get0 H.out.fl).fm (by omega)
        have hjl : j < kids.length := by have := HN.out; omega
        have hgt := List.getElem?_eq_getElem hjl
        have HTK : Hid (cellsL (textL ((kids.take (j + 1)).map Fm.strip)) = cellsL (textL ((kids.take j).map Fm.strip)) ++ [S kids[j].strip.text]) := Lib.hid (by rw [textL_snoc kids j hjl, cellsL_append]; rfl)
        have HC := Lib.hid (fun W' (hx : Ext W W') => HI.out _ (List.getElem_mem hjl) W' ((H.out.kids _ (List.getElem_mem hjl)).ext hx) (HWK.out _ (List.mem_map_of_mem (f := Fm.strip) (List.getElem_mem hjl))) (HND.out _ (List.getElem_mem hjl)))
        generalize kids[j] = x at *
        obtain ⟨tx, htx⟩ : ∃ t, x.strip.text = t := ⟨_, rfl⟩
        rw [htx] at HC HTK
        obtain ⟨op', k', ⟨o', d'⟩, a', n', c', kids'⟩ := x
        obtain ⟨r0, r1, r2, r3, r4⟩ := hcell j op' k' (o', d') a' n' c' kids' hgt
        subst ha
        unfold fmV S at HC
        unfold S at r2 r3 HTK
        simp only at r2 r3 HC
        clear hcell hgt hjl htx
        (try simp only [nsl, Value.cells, unB] at st)
        (try clear hc); have hc := st.facts; (try simp only [nfl, nft, Nat.reduceAdd] at hc)
        go_wp2_with ((first
              | ((with_reducible refine wl_box ?_ (fun K hK => ?_)); rfl; refine owp_box (o := ⟨some 1, _, _, _, _, _⟩) rfl st ?_; apply Exists.intro; refine ⟨?_, ?_⟩; (focus (go_simp; try rfl)); (clear st; intro b1 w hb st; clear hb))
              | ((with_reducible refine wl_alloc ?_ (fun K hK => ?_)); rfl; refine owp_alloc (o := ⟨some 6, _, _, _, _, _⟩) rfl st ?_; apply Exists.intro; apply Exists.intro; refine ⟨?_, ?_⟩; (focus (first | (go_simp; done) | (go_simp; rfl))); (clear st; intro b6 w hb st; clear hb))
              | ((with_reducible refine wl_store ?_ (fun K hK => ?_)); rfl; refine owp_store rfl st ?_; apply Exists.intro; apply Exists.intro; refine ⟨?_, ?_, ?_⟩; (focus (go_simp; try rfl)); (focus (go_simp; try rfl)); (first | (with_reducible refine ⟨0, _, _, _, _, get0, rfl, rfl, ?_, ?_, ?_, ?_⟩) | (with_reducible refine ⟨1, _, _, _, _, get1, rfl, rfl, ?_, ?_, ?_, ?_⟩) | (with_reducible refine ⟨2, _, _, _, _, get2, rfl, rfl, ?_, ?_, ?_, ?_⟩) | (with_reducible refine ⟨3, _, _, _, _, get3, rfl, rfl, ?_, ?_, ?_, ?_⟩) | (with_reducible refine ⟨4, _, _, _, _, get4, rfl, rfl, ?_, ?_, ?_, ?_⟩) | (with_reducible refine ⟨5, _, _, _, _, get5, rfl, rfl, ?_, ?_, ?_, ?_⟩)); (kernel_rfl); (simp [Value.cells]); (rfl); (clear st; intro w st))
              | ((with_reducible refine wl_buildSlice ?_ (fun K hK => ?_)); rfl; refine owp_buildSlice (o := ⟨some 32, _, _, _, _, _⟩) rfl st ?_; apply Exists.intro; apply Exists.intro; apply Exists.intro; apply Exists.intro; refine ⟨?_, ?_⟩; (focus (go_simp; (first | done | exact ⟨⟨rfl, rfl⟩, rfl⟩ | rfl))); (clear st; intro b32 w hb st; clear hb))); (try simp only [nsl, Value.cells, unB] at st); (try clear hc); have hc := st.facts; (try simp only [nfl, nft, Nat.reduceAdd] at hc))
        refine (HC.out _ st.ext0).mono ?_
        rintro en w ⟨rfl, hx⟩
        replace st := st.ext hx
        clear hx
        (try clear hc); have hc := st.facts; (try simp only [nfl, nft, Nat.reduceAdd] at hc)
        go_wp2_with (first
            | ((with_reducible refine wl_append ?_ (fun K hK => ?_)); (rfl); (obtain ⟨inf, hinf, hz0, hz1, hz2⟩ := strInfo); (refine owp_append rfl st 2 get2 Tryd.underlying49 hinf hz0 hz1 hz2 rfl (by decide) rfl rfl ((st.blk (i := 4) get4).flat rfl) (by first | exact cellsL_all _ | simp [Value.oneCell']) (by simp only [maxLen]; omega) (by omega) ?_); (clear hinf hz0 hz1 hz2 inf); (clear st; intro v' w st); (obtain ⟨va', vc', rfl⟩ := own_slice (st.row (i := 2) get2)); (try simp only [nsl, Value.cells, unB] at st); (try simp only [Nat.zero_add] at st); (try clear hc); have hc := st.facts; (try simp only [nfl, nft, Nat.reduceAdd] at hc))
            | ((first
              | ((with_reducible refine wl_box ?_ (fun K hK => ?_)); rfl; refine owp_box (o := ⟨some 1, _, _, _, _, _⟩) rfl st ?_; apply Exists.intro; refine ⟨?_, ?_⟩; (focus (go_simp; try rfl)); (clear st; intro b1 w hb st; clear hb))
              | ((with_reducible refine wl_alloc ?_ (fun K hK => ?_)); rfl; refine owp_alloc (o := ⟨some 6, _, _, _, _, _⟩) rfl st ?_; apply Exists.intro; apply Exists.intro; refine ⟨?_, ?_⟩; (focus (first | (go_simp; done) | (go_simp; rfl))); (clear st; intro b6 w hb st; clear hb))
              | ((with_reducible refine wl_store ?_ (fun K hK => ?_)); rfl; refine owp_store rfl st ?_; apply Exists.intro; apply Exists.intro; refine ⟨?_, ?_, ?_⟩; (focus (go_simp; try rfl)); (focus (go_simp; try rfl)); (first | (with_reducible refine ⟨0, _, _, _, _, get0, rfl, rfl, ?_, ?_, ?_, ?_⟩) | (with_reducible refine ⟨1, _, _, _, _, get1, rfl, rfl, ?_, ?_, ?_, ?_⟩) | (with_reducible refine ⟨2, _, _, _, _, get2, rfl, rfl, ?_, ?_, ?_, ?_⟩) | (with_reducible refine ⟨3, _, _, _, _, get3, rfl, rfl, ?_, ?_, ?_, ?_⟩) | (with_reducible refine ⟨4, _, _, _, _, get4, rfl, rfl, ?_, ?_, ?_, ?_⟩) | (with_reducible refine ⟨5, _, _, _, _, get5, rfl, rfl, ?_, ?_, ?_, ?_⟩)); (kernel_rfl); (simp [Value.cells]); (rfl); (clear st; intro w st))
              | ((with_reducible refine wl_buildSlice ?_ (fun K hK => ?_)); rfl; refine owp_buildSlice (o := ⟨some 32, _, _, _, _, _⟩) rfl st ?_; apply Exists.intro; apply Exists.intro; apply Exists.intro; apply Exists.intro; refine ⟨?_, ?_⟩; (focus (go_simp; (first | done | exact ⟨⟨rfl, rfl⟩, rfl⟩ | rfl))); (clear st; intro b32 w hb st; clear hb))); (try simp only [nsl, Value.cells, unB] at st); (try clear hc); have hc := st.facts; (try simp only [nfl, nft, Nat.reduceAdd] at hc)))
        have st' := st.keep [0, 1, 2] (by decide) (by simp)
        go_roundg (n - (j + 1))
        case measure => omega
        case rel => exact ⟨j + 1, va', vc', by omega, by omega, by go_num, rfl, by rw [HTK.out]; simpa [pick] using st'⟩
      · obtain rfl : j = n := by omega
        rw [List.take_of_length_le (by have := HN.out; omega)] at st
        obtain ⟨hcap, hfl⟩ := rowFl' (α := Tok) st (i := 2) get2
        have HJN := Lib.hid (fun W' (hx : Fl W' fa j (textL (kids.map Fm.strip))) => joinS_any fa j fc _ W' hx hcap.1 (by omega) (by have := HJL.out; omega))
        have HJL2 := HJL.out
        generalize Lib.join (textL (kids.map Fm.strip)) [44, 32] = jt at *
        unfold S at HJN
        clear hcap hfl
        (try simp only [nsl, Value.cells, unB] at st)
        (try clear hc); have hc := st.facts; (try simp only [nfl, nft, Nat.reduceAdd] at hc)
        go_wp2_with ((first
              | ((with_reducible refine wl_box ?_ (fun K hK => ?_)); rfl; refine owp_box (o := ⟨some 1, _, _, _, _, _⟩) rfl st ?_; apply Exists.intro; refine ⟨?_, ?_⟩; (focus (go_simp; try rfl)); (clear st; intro b1 w hb st; clear hb))
              | ((with_reducible refine wl_alloc ?_ (fun K hK => ?_)); rfl; refine owp_alloc (o := ⟨some 6, _, _, _, _, _⟩) rfl st ?_; apply Exists.intro; apply Exists.intro; refine ⟨?_, ?_⟩; (focus (first | (go_simp; done) | (go_simp; rfl))); (clear st; intro b6 w hb st; clear hb))
              | ((with_reducible refine wl_store ?_ (fun K hK => ?_)); rfl; refine owp_store rfl st ?_; apply Exists.intro; apply Exists.intro; refine ⟨?_, ?_, ?_⟩; (focus (go_simp; try rfl)); (focus (go_simp; try rfl)); (first | (with_reducible refine ⟨0, _, _, _, _, get0, rfl, rfl, ?_, ?_, ?_, ?_⟩) | (with_reducible refine ⟨1, _, _, _, _, get1, rfl, rfl, ?_, ?_, ?_, ?_⟩) | (with_reducible refine ⟨2, _, _, _, _, get2, rfl, rfl, ?_, ?_, ?_, ?_⟩) | (with_reducible refine ⟨3, _, _, _, _, get3, rfl, rfl, ?_, ?_, ?_, ?_⟩) | (with_reducible refine ⟨4, _, _, _, _, get4, rfl, rfl, ?_, ?_, ?_, ?_⟩) | (with_reducible refine ⟨5, _, _, _, _, get5, rfl, rfl, ?_, ?_, ?_, ?_⟩)); (kernel_rfl); (simp [Value.cells]); (rfl); (clear st; intro w st))
              | ((with_reducible refine wl_buildSlice ?_ (fun K hK => ?_)); rfl; refine owp_buildSlice (o := ⟨some 32, _, _, _, _, _⟩) rfl st ?_; apply Exists.intro; apply Exists.intro; apply Exists.intro; apply Exists.intro; refine ⟨?_, ?_⟩; (focus (go_simp; (first | done | exact ⟨⟨rfl, rfl⟩, rfl⟩ | rfl))); (clear st; intro b32 w hb st; clear hb))); (try simp only [nsl, Value.cells, unB] at st); (try clear hc); have hc := st.facts; (try simp only [nfl, nft, Nat.reduceAdd] at hc))
        replace st := st.rowToFl (α := Tok) (i := 2) get2
        simp only [List.set] at st
        refine (HJN.out _ (st.flAt (i := 2) get2)).mono ?_
        rintro en w ⟨rfl, hx⟩
        replace st := st.ext hx
        clear hx
        (try clear hc); have hc := st.facts; (try simp only [nfl, nft, Nat.reduceAdd] at hc)
        go_wp2_with ((first
              | ((with_reducible refine wl_box ?_ (fun K hK => ?_)); rfl; refine owp_box (o := ⟨some 1, _, _, _, _, _⟩) rfl st ?_; apply Exists.intro; refine ⟨?_, ?_⟩; (focus (go_simp; try rfl)); (clear st; intro b1 w hb st; clear hb))
              | ((with_reducible refine wl_alloc ?_ (fun K hK => ?_)); rfl; refine owp_alloc (o := ⟨some 6, _, _, _, _, _⟩) rfl st ?_; apply Exists.intro; apply Exists.intro; refine ⟨?_, ?_⟩; (focus (first | (go_simp; done) | (go_simp; rfl))); (clear st; intro b6 w hb st; clear hb))
              | ((with_reducible refine wl_store ?_ (fun K hK => ?_)); rfl; refine owp_store rfl st ?_; apply Exists.intro; apply Exists.intro; refine ⟨?_, ?_, ?_⟩; (focus (go_simp; try rfl)); (focus (go_simp; try rfl)); (first | (with_reducible refine ⟨0, _, _, _, _, get0, rfl, rfl, ?_, ?_, ?_, ?_⟩) | (with_reducible refine ⟨1, _, _, _, _, get1, rfl, rfl, ?_, ?_, ?_, ?_⟩) | (with_reducible refine ⟨2, _, _, _, _, get2, rfl, rfl, ?_, ?_, ?_, ?_⟩) | (with_reducible refine ⟨3, _, _, _, _, get3, rfl, rfl, ?_, ?_, ?_, ?_⟩) | (with_reducible refine ⟨4, _, _, _, _, get4, rfl, rfl, ?_, ?_, ?_, ?_⟩) | (with_reducible refine ⟨5, _, _, _, _, get5, rfl, rfl, ?_, ?_, ?_, ?_⟩)); (kernel_rfl); (simp [Value.cells]); (rfl); (clear st; intro w st))
              | ((with_reducible refine wl_buildSlice ?_ (fun K hK => ?_)); rfl; refine owp_buildSlice (o := ⟨some 32, _, _, _, _, _⟩) rfl st ?_; apply Exists.intro; apply Exists.intro; apply Exists.intro; apply Exists.intro; refine ⟨?_, ?_⟩; (focus (go_simp; (first | done | exact ⟨⟨rfl, rfl⟩, rfl⟩ | rfl))); (clear st; intro b32 w hb st; clear hb))); (try simp only [nsl, Value.cells, unB] at st); (try clear hc); have hc := st.facts; (try simp only [nfl, nft, Nat.reduceAdd] at hc))
        go_ret
        exact ⟨by rw [← HR.out]; simp [S], st.ext0⟩
set_option maxRecDepth 100000 in
set_option maxHeartbeats 2000000 in
theorem text_any (f : Fm) (W : World) (h : FmOk W f) (hs : f.strip.nodes ≤ 1000000000) (hl : FoL 100000 f.strip) :
    Calls Tryd.prog 7 #[fmV f] W fun e w' => e = .returned (S (if foR f.strip = true then f.strip.text else [])) ∧ Ext W w' := by
  have HR := Lib.hid (fun W' (hx : Ext W W') => fmRight_any f W' (h.ext hx) hs hl)
  have HT := Lib.hid (fun W' (hx : Ext W W') (hr : foR f.strip = true) => told_any f W' (h.ext hx) (by unfold foR at hr; simp at hr; exact hr.2) (by unfold foR at hr; simp at hr; omega))
  obtain ⟨v, hv⟩ : ∃ v, foR f.strip = v := ⟨_, rfl⟩
  rw [hv] at HR HT ⊢
  generalize f.strip.text = tx at *
  clear h hs hl hv
  obtain ⟨op, k, ⟨o, d⟩, a, n, c, kids⟩ := f
  unfold fmV S at HR HT
  simp only at HR HT
  have st := Own.startOld W
  cases v with
  | true =>
    rw [if_pos rfl]
    unfold fmV S
    simp only
    (try simp only [nsl, Value.cells, unB] at st)
    (try clear hc); have hc := st.facts; (try simp only [nfl, nft, Nat.reduceAdd] at hc)
    go_enter Tryd.func7, Tryd.ntmps7
    go_wp2_with ((((with_reducible refine wl_box ?_ (fun K hK => ?_)); rfl; refine owp_box (o := ⟨some 1, _, _, _, _, _⟩) rfl st ?_; apply Exists.intro; refine ⟨?_, ?_⟩; (focus (go_simp; try rfl)); (clear st; intro b1 w hb st; clear hb))); (try simp only [nsl, Value.cells, unB] at st); (try clear hc); have hc := st.facts; (try simp only [nfl, nft, Nat.reduceAdd] at hc))
    refine (HR.out _ st.ext0).mono ?_
    rintro en w ⟨rfl, hx⟩
    replace st := st.ext hx
    clear hx
    (try clear hc); have hc := st.facts; (try simp only [nfl, nft, Nat.reduceAdd] at hc)
    go_wp2_with ((((with_reducible refine wl_box ?_ (fun K hK => ?_)); rfl; refine owp_box (o := ⟨some 1, _, _, _, _, _⟩) rfl st ?_; apply Exists.intro; refine ⟨?_, ?_⟩; (focus (go_simp; try rfl)); (clear st; intro b1 w hb st; clear hb))); (try simp only [nsl, Value.cells, unB] at st); (try clear hc); have hc := st.facts; (try simp only [nfl, nft, Nat.reduceAdd] at hc))
    refine (HT.out _ st.ext0 trivial).mono ?_
    rintro en w ⟨rfl, hx⟩
    replace st := st.ext hx
    clear hx
    (try clear hc); have hc := st.facts; (try simp only [nfl, nft, Nat.reduceAdd] at hc)
    go_wp2_with ((((with_reducible refine wl_box ?_ (fun K hK => ?_)); rfl; refine owp_box (o := ⟨some 1, _, _, _, _, _⟩) rfl st ?_; apply Exists.intro; refine ⟨?_, ?_⟩; (focus (go_simp; try rfl)); (clear st; intro b1 w hb st; clear hb))); (try simp only [nsl, Value.cells, unB] at st); (try clear hc); have hc := st.facts; (try simp only [nfl, nft, Nat.reduceAdd] at hc))
    go_ret
    exact ⟨rfl, st.ext0⟩
  | false =>
    rw [if_neg (by decide)]
    unfold fmV S
    simp only
    (try simp only [nsl, Value.cells, unB] at st)
    (try clear hc); have hc := st.facts; (try simp only [nfl, nft, Nat.reduceAdd] at hc)
    go_enter Tryd.func7, Tryd.ntmps7
    go_wp2_with ((((with_reducible refine wl_box ?_ (fun K hK => ?_)); rfl; refine owp_box (o := ⟨some 1, _, _, _, _, _⟩) rfl st ?_; apply Exists.intro; refine ⟨?_, ?_⟩; (focus (go_simp; try rfl)); (clear st; intro b1 w hb st; clear hb))); (try simp only [nsl, Value.cells, unB] at st); (try clear hc); have hc := st.facts; (try simp only [nfl, nft, Nat.reduceAdd] at hc))
    refine (HR.out _ st.ext0).mono ?_
    rintro en w ⟨rfl, hx⟩
    replace st := st.ext hx
    clear hx
    (try clear hc); have hc := st.facts; (try simp only [nfl, nft, Nat.reduceAdd] at hc)
    go_wp2_with ((((with_reducible refine wl_box ?_ (fun K hK => ?_)); rfl; refine owp_box (o := ⟨some 1, _, _, _, _, _⟩) rfl st ?_; apply Exists.intro; refine ⟨?_, ?_⟩; (focus (go_simp; try rfl)); (clear st; intro b1 w hb st; clear hb))); (try simp only [nsl, Value.cells, unB] at st); (try clear hc); have hc := st.facts; (try simp only [nfl, nft, Nat.reduceAdd] at hc))
    go_ret
    exact ⟨rfl, st.ext0⟩
end Go.Proofs.YtnemipgmkenemaaDoor

namespace Go.Proofs.YtnemipgmkenemaaDoor
set_option linter.unusedSimpArgs false
set_option linter.unusedVariables false
open Go Go.RowKit
def fA (o d : List UInt8) : Fo := .mk 1 0 (o, d) []
/-- a.r and (b.s or c.t) -/
def txt1 : List UInt8 := [97, 46, 114, 32, 97, 110, 100, 32, 40, 98, 46, 115, 32, 111, 114, 32, 99, 46, 116, 41]
def fo1 : Fo := .mk 2 0 ([], []) [fA [97] [114], .mk 3 0 ([], []) [fA [98] [115], fA [99] [116]]]
def txt2 : List UInt8 := [97, 46, 114, 32, 97, 110, 100]
def txt3 : List UInt8 := [32, 97, 116, 32, 49, 9, 40, 97, 46, 114, 44, 98, 46, 115, 41, 32]
def fo3 : Fo := .mk 4 1 ([], []) [fA [97] [114], fA [98] [115]]
def back1 : List UInt8 := [97, 108, 108, 40, 97, 46, 114, 44, 32, 115, 111, 109, 101, 40, 98, 46, 115, 44, 32, 99, 46, 116, 41, 41]
def back3 : List UInt8 := [97, 116, 32, 49, 40, 97, 46, 114, 44, 32, 98, 46, 115, 41]
theorem lx1 : Lx false txt1 [[97, 46, 114], tAnd, tOpen, [98, 46, 115], tOr, [99, 46, 116], tShut] :=
  .more (r := [32, 97, 110, 100, 32, 40, 98, 46, 115, 32, 111, 114, 32, 99, 46, 116, 41]) (by decide) (by decide) (.more (r := [32, 40, 98, 46, 115, 32, 111, 114, 32, 99, 46, 116, 41]) (by decide) (by decide) (.more (r := [98, 46, 115, 32, 111, 114, 32, 99, 46, 116, 41]) (by decide) (by decide) (.more (r := [32, 111, 114, 32, 99, 46, 116, 41]) (by decide) (by decide) (.more (r := [32, 99, 46, 116, 41]) (by decide) (by decide) (.more (r := [41]) (by decide) (by decide) (.more (r := []) (by decide) (by decide) (.done (by decide))))))))
theorem lx2 : Lx false txt2 [[97, 46, 114], tAnd] := .more (r := [32, 97, 110, 100]) (by decide) (by decide) (.more (r := []) (by decide) (by decide) (.done (by decide)))
theorem lx3 : Lx false txt3 [tAt, [49], tOpen, [97, 46, 114], tComma, [98, 46, 115], tShut] :=
  .more (r := [32, 49, 9, 40, 97, 46, 114, 44, 98, 46, 115, 41, 32]) (by decide) (by decide) (.more (r := [9, 40, 97, 46, 114, 44, 98, 46, 115, 41, 32]) (by decide) (by decide) (.more (r := [97, 46, 114, 44, 98, 46, 115, 41, 32]) (by decide) (by decide) (.more (r := [44, 98, 46, 115, 41, 32]) (by decide) (by decide) (.more (r := [98, 46, 115, 41, 32]) (by decide) (by decide) (.more (r := [41, 32]) (by decide) (by decide) (.more (r := [32]) (by decide) (by decide) (.done (by decide))))))))
set_option maxRecDepth 100000 in
theorem any1 : anyP false (oneP false 8) [[97, 46, 114], tAnd, tOpen, [98, 46, 115], tOr, [99, 46, 116], tShut] = some (fo1, []) := by kernel_rfl
set_option maxRecDepth 100000 in
theorem any2 : anyP false (oneP false 3) [[97, 46, 114], tAnd] = none := by kernel_rfl
set_option maxRecDepth 100000 in
theorem any3 : anyP false (oneP false 8) [tAt, [49], tOpen, [97, 46, 114], tComma, [98, 46, 115], tShut] = some (fo3, []) := by kernel_rfl
theorem foR1 : foR fo1 = true := by kernel_rfl
theorem foR3 : foR fo3 = true := by kernel_rfl
theorem told1 : fo1.text = back1 := by kernel_rfl
theorem told3 : fo3.text = back3 := by kernel_rfl
theorem pIs1 {f : Fo} {e : Int} (h : ParseIs txt1 f e) : f = fo1 ∧ e = 0 := by
  unfold ParseIs at h
  rw [if_neg (by decide)] at h
  have := h _ _ lx1
  rw [show [[97, 46, 114], tAnd, tOpen, [98, 46, 115], tOr, [99, 46, 116], tShut].length + 1 = 8 from rfl, any1] at this
  unfold parsedE at this
  simp only at this
  rw [if_pos foR1] at this
  exact Prod.mk.inj this
theorem pIs2 {f : Fo} {e : Int} (h : ParseIs txt2 f e) : f = zeroF ∧ e = 11 := by
  unfold ParseIs at h
  rw [if_neg (by decide)] at h
  have := h _ _ lx2
  rw [show [[97, 46, 114], tAnd].length + 1 = 3 from rfl, any2] at this
  exact Prod.mk.inj this
theorem pIs3 {f : Fo} {e : Int} (h : ParseIs txt3 f e) : f = fo3 ∧ e = 0 := by
  unfold ParseIs at h
  rw [if_neg (by decide)] at h
  have := h _ _ lx3
  rw [show [tAt, [49], tOpen, [97, 46, 114], tComma, [98, 46, 115], tShut].length + 1 = 8 from rfl, any3] at this
  unfold parsedE at this
  simp only at this
  rw [if_pos foR3] at this
  exact Prod.mk.inj this
theorem foRz : foR zeroF = false := by kernel_rfl
end Go.Proofs.YtnemipgmkenemaaDoor

namespace Go.Proofs.YtnemipgmkenemaaDoor
set_option linter.unusedSimpArgs false
set_option linter.unusedVariables false
open Go Go.RowKit
/-- The head's words. -/
def headTk (op k : Int) : List Tok := if op = 2 then [tAll] else if op = 3 then [tSome] else [tAt, Lib.decDigits k.toNat]
mutual
/-- The words of a formula's text. -/
def Fo.toks : Fo → List Tok
  | .mk op k r kids => if op = 1 then [roleT r] else headTk op k ++ [tOpen] ++ toksL kids ++ [tShut]
def toksL : List Fo → List Tok
  | [] => []
  | x :: l => x.toks ++ toksM l
/-- .. and those behind the first, each behind a comma. -/
def toksM : List Fo → List Tok
  | [] => []
  | x :: l => tComma :: (x.toks ++ toksM l)
end
def Ends (tl : List Tok) : Prop := nxT tl ≠ tAnd ∧ nxT tl ≠ tOr
theorem ends_nil : Ends [] := by constructor <;> decide
theorem ends_shut (l : List Tok) : Ends (tShut :: l) := ⟨by show tShut ≠ tAnd; decide, by show tShut ≠ tOr; decide⟩
theorem ends_comma (l : List Tok) : Ends (tComma :: l) := ⟨by show tComma ≠ tAnd; decide, by show tComma ≠ tOr; decide⟩
theorem join_ends {wd : Tok} {op : Int} {one : List Tok → PRes} {t tl : List Tok} {f : Fo} (h : one t = some (f, tl)) (he : nxT tl ≠ wd) : joinP false wd op one t = some (f, tl) := by
  rw [joinP_some h, moreP_end he]; rfl
theorem any_ends {one : List Tok → PRes} {t tl : List Tok} {f : Fo} (h : one t = some (f, tl)) (he : Ends tl) : anyP false one t = some (f, tl) :=
  join_ends (join_ends h he.1) he.2
theorem roleT_ne {r : Role} (hr : roleR r = true) : roleT r ≠ tOpen ∧ roleT r ≠ tAll ∧ roleT r ≠ tSome ∧ roleT r ≠ tAt := by
  have h := roleP_text r hr
  refine ⟨?_, ?_, ?_, ?_⟩ <;> intro e <;> rw [e] at h
  · have h0 : roleP tOpen = none := by decide +kernel
    rw [h0] at h; cases h
  · have h0 : roleP tAll = none := by decide +kernel
    rw [h0] at h; cases h
  · have h0 : roleP tSome = none := by decide +kernel
    rw [h0] at h; cases h
  · have h0 : roleP tAt = none := by decide +kernel
    rw [h0] at h; cases h
theorem stF' (t : List Tok) : stT false t = some t.tail := by unfold stT; rw [if_neg (by simp)]
theorem takeF' (w : Tok) (l : List Tok) : takeP false w (w :: l) = some l := by unfold takeP; rw [if_pos (show nxT (w :: l) = w from rfl), stF']; rfl
/-- The words behind the first kid's are read one by one. -/
theorem more_toks {one : List Tok → PRes} : ∀ (l : List Fo) (acc : List Fo) (tl : List Tok) (g : Nat), (∀ x ∈ l, ∀ t, Ends t → anyP false one (x.toks ++ t) = some (x, t)) → nxT tl ≠ tComma → Ends tl → l.length ≤ g →
    moreP false tComma (anyP false one) g acc (toksM l ++ tl) = some (acc ++ l, tl)
  | [], acc, tl, g, _, hc, _, _ => by rw [toksM, List.nil_append, moreP_end hc, List.append_nil]
  | x :: l, acc, tl, g, h, hc, he, hg => by
    obtain ⟨g, rfl⟩ : ∃ q, g = q + 1 := ⟨g - 1, by rw [List.length_cons] at hg; omega⟩
    have hx := h x (by simp) (toksM l ++ tl) (by
      cases l with
      | nil => exact he
      | cons y l => exact ends_comma _)
    rw [toksM, List.cons_append, List.append_assoc, moreP_some (show nxT (tComma :: (x.toks ++ (toksM l ++ tl))) = tComma from rfl) g acc (stF' _) hx, more_toks l (acc ++ [x]) tl g (fun y hy => h y (List.mem_cons_of_mem _ hy)) hc he (by rw [List.length_cons] at hg; omega)]
    simp
theorem toks_len1 : ∀ (l : List Fo), l.length ≤ (toksM l).length
  | [] => by simp
  | x :: l => by have := toks_len1 l; rw [toksM]; simp; omega
theorem toks_hd (f : Fo) (h : f.well = true) : ∃ w t, f.toks = w :: t ∧ w ≠ tShut := by
  obtain ⟨op, k, r, kids⟩ := f
  obtain ⟨h1, h2, h3⟩ := well_parts h
  rw [Fo.toks]
  split
  · rename_i o
    rcases node_op h1 with ⟨_, hr, _, _⟩ | ⟨q, _⟩ | ⟨q, _⟩
    · refine ⟨_, _, rfl, fun e => ?_⟩
      have h := roleP_text r hr
      rw [e] at h
      have h0 : roleP tShut = none := by decide +kernel
      rw [h0] at h; cases h
    · omega
    · omega
  · unfold headTk
    split
    · exact ⟨_, _, rfl, by decide⟩
    · split
      · exact ⟨_, _, rfl, by decide⟩
      · exact ⟨_, _, rfl, by decide⟩
theorem list_toks {one : List Tok → PRes} (l : List Fo) (tl : List Tok) (hw : ∀ x ∈ l, x.well = true) (h : ∀ x ∈ l, ∀ t, Ends t → anyP false one (x.toks ++ t) = some (x, t)) :
    listP false one ([tOpen] ++ toksL l ++ [tShut] ++ tl) = some (l, tl) := by
  cases l with
  | nil =>
    show listP false one (tOpen :: tShut :: tl) = _
    rw [listP_1 (takeF' _ _) rfl, stF']; rfl
  | cons x l =>
    have hx := h x (by simp) (toksM l ++ (tShut :: tl)) (by
      cases l with
      | nil => exact ends_shut _
      | cons y l => exact ends_comma _)
    have e : [tOpen] ++ toksL (x :: l) ++ [tShut] ++ tl = tOpen :: (x.toks ++ (toksM l ++ (tShut :: tl))) := by rw [toksL]; simp
    rw [e]
    obtain ⟨w, t, hwt, hne⟩ := toks_hd x (hw x (by simp))
    rw [listP_2 (takeF' _ _) (by rw [hwt]; exact hne), hx, Option.bind_some]
    simp only
    rw [more_toks l [x] (tShut :: tl) _ (fun y hy => h y (List.mem_cons_of_mem _ hy)) (by show tShut ≠ tComma; decide) (ends_shut _) (by have := toks_len1 l; rw [List.length_append]; omega)]
    rw [Option.bind_some]
    unfold lsEnd
    simp only
    rw [takeF']; rfl
theorem one_toks (f : Fo) : ∀ (F : Nat) (tl : List Tok), f.well = true → f.deep ≤ F → oneP false F (f.toks ++ tl) = some (f, tl) := by
  refine Fo.ind (P := fun f => ∀ (F : Nat) (tl : List Tok), f.well = true → f.deep ≤ F → oneP false F (f.toks ++ tl) = some (f, tl)) (fun op k r kids ih F tl hw hF => ?_) f
  obtain ⟨h1, h2, h3⟩ := well_parts hw
  rw [Fo.deep] at hF
  obtain ⟨F, rfl⟩ : ∃ q, F = q + 1 := ⟨F - 1, by omega⟩
  have hk : ∀ x ∈ kids, ∀ t, Ends t → anyP false (oneP false F) (x.toks ++ t) = some (x, t) := fun x hx t ht => any_ends (ih x hx F t (h3 x hx) (by have := deepL_mem kids x hx; omega)) ht
  rw [oneP, Fo.toks]
  rcases node_op h1 with ⟨rfl, hr, hn, rfl⟩ | ⟨o, rfl, rfl⟩ | ⟨rfl, rfl, k0, kn, hn⟩
  · obtain rfl : kids = [] := List.eq_nil_of_length_eq_zero hn
    obtain ⟨e1, e2, e3, e4⟩ := roleT_ne hr
    rw [if_pos rfl]
    show oneB false _ (roleT r :: tl) = _
    rw [oneB_role (t := roleT r :: tl) e1 e2 e3 e4, stF']
    show (roleP (roleT r)).bind _ = _
    rw [roleP_text r hr]; rfl
  · rcases o with rfl | rfl
    · rw [if_neg (by decide)]
      show oneB false _ (tAll :: ([tOpen] ++ toksL kids ++ [tShut] ++ tl)) = _
      rw [oneB_all (by show tAll ≠ tOpen; decide) rfl, stF', Option.bind_some]
      show (listP false _ ([tOpen] ++ toksL kids ++ [tShut] ++ tl)).map _ = _
      rw [list_toks kids tl h3 hk]; rfl
    · rw [if_neg (by decide)]
      show oneB false _ (tSome :: ([tOpen] ++ toksL kids ++ [tShut] ++ tl)) = _
      rw [oneB_some (by show tSome ≠ tOpen; decide) (by show tSome ≠ tAll; decide) rfl, stF', Option.bind_some]
      show (listP false _ ([tOpen] ++ toksL kids ++ [tShut] ++ tl)).map _ = _
      rw [list_toks kids tl h3 hk]; rfl
  · obtain ⟨kq, rfl⟩ : ∃ q : Nat, k = q := ⟨k.toNat, by omega⟩
    have hd : digP (Lib.decDigits kq) = some kq := by
      rw [dig_one kq (by omega)]
      have : ∀ n : Nat, n < 10 → digP [UInt8.ofNat (48 + n)] = some n := by decide +kernel
      exact this kq (by omega)
    rw [if_neg (by decide)]
    show oneB false _ (tAt :: Lib.decDigits kq :: ([tOpen] ++ toksL kids ++ [tShut] ++ tl)) = _
    rw [oneB_at (by show tAt ≠ tOpen; decide) (by show tAt ≠ tAll; decide) (by show tAt ≠ tSome; decide) rfl, stF', Option.bind_some]
    show (digP (Lib.decDigits kq)).bind _ = _
    rw [hd, Option.bind_some]
    rw [stF', Option.bind_some]
    show (listP false _ ([tOpen] ++ toksL kids ++ [tShut] ++ tl)).map _ = _
    rw [list_toks kids tl h3 hk]; rfl
end Go.Proofs.YtnemipgmkenemaaDoor

namespace Go.Proofs.YtnemipgmkenemaaDoor
set_option linter.unusedSimpArgs false
set_option linter.unusedVariables false
open Go Go.RowKit
def NoSg (s : List UInt8) : Prop := ∀ c r, s = c :: r → sgB c = false
theorem noSg_nil : NoSg [] := fun c r h => by cases h
theorem noSg_cons {c : UInt8} {s : List UInt8} (h : sgB c = false) : NoSg (c :: s) := fun d r e => by injection e with e1 _; rw [← e1]; exact h
theorem takeWhile_all {p : UInt8 → Bool} : ∀ (w s : List UInt8), (∀ c ∈ w, p c = true) → (∀ c r, s = c :: r → p c = false) → (w ++ s).takeWhile p = w ∧ (w ++ s).dropWhile p = s
  | [], s, _, hs => by
    cases s with
    | nil => exact ⟨rfl, rfl⟩
    | cons c r =>
      have := hs c r rfl
      constructor
      · rw [List.nil_append, List.takeWhile_cons, if_neg (by rw [this]; decide)]
      · rw [List.nil_append, List.dropWhile_cons, if_neg (by rw [this]; decide)]
  | c :: w, s, hw, hs => by
    have hc := hw c (by simp)
    obtain ⟨h1, h2⟩ := takeWhile_all w s (fun d hd => hw d (List.mem_cons_of_mem _ hd)) hs
    constructor
    · rw [List.cons_append, List.takeWhile_cons, if_pos hc, h1]
    · rw [List.cons_append, List.dropWhile_cons, if_pos hc, h2]
theorem sg_bl {c : UInt8} (h : sgB c = true) : blB c = false := by
  cases hb : blB c with
  | false => rfl
  | true => have := (blB_sg hb).1; rw [h] at this; cases this
theorem stepP_wordIs {w s : List UInt8} (hw : w ≠ []) (ha : ∀ c ∈ w, sgB c = true) (hs : NoSg s) : stepP (w ++ s) = some (w, s) := by
  obtain ⟨c, w2, rfl⟩ := List.exists_cons_of_ne_nil hw
  obtain ⟨h1, h2⟩ := takeWhile_all (c :: w2) s ha hs
  have hc := ha c (by simp)
  have hd : ((c :: w2) ++ s).dropWhile blB = (c :: w2) ++ s := by rw [List.cons_append, List.dropWhile_cons, if_neg (by rw [sg_bl hc]; decide)]
  rw [stepP_eq, hd, List.cons_append, stepQ_cons, if_pos hc, ← List.cons_append, h1, h2]
theorem stepP_markIs {c : UInt8} {s : List UInt8} (hc : mkB c = true) : stepP (c :: s) = some ([c], s) := by
  obtain ⟨h1, h2⟩ := mkB_sg hc
  have hd : (c :: s).dropWhile blB = c :: s := by rw [List.dropWhile_cons, if_neg (by rw [h2]; decide)]
  rw [stepP_eq, hd, stepQ_cons, if_neg (by rw [h1]; decide), if_pos hc]
theorem stepP_blankIs {c : UInt8} {s : List UInt8} (hc : blB c = true) : stepP (c :: s) = stepP s := by
  rw [stepP_eq, stepP_eq, List.dropWhile_cons, if_pos hc]
theorem Lx.blank {b : Bool} {c : UInt8} {s : List UInt8} {l : List Tok} (h : Lx b s l) (hc : blB c = true) : Lx b (c :: s) l := by
  cases h with
  | done h => exact .done (by rw [stepP_blankIs hc]; exact h)
  | bad h => exact .bad (by rw [stepP_blankIs hc]; exact h)
  | more h hw hl => exact .more (by rw [stepP_blankIs hc]; exact h) hw hl
theorem Lx.mark {b : Bool} {c : UInt8} {s : List UInt8} {l : List Tok} (h : Lx b s l) (hc : mkB c = true) : Lx b (c :: s) ([c] :: l) := .more (stepP_markIs hc) (by simp) h
theorem Lx.word {b : Bool} {w s : List UInt8} {l : List Tok} (h : Lx b s l) (hw : w ≠ []) (ha : ∀ c ∈ w, sgB c = true) (hs : NoSg s) : Lx b (w ++ s) (w :: l) := .more (stepP_wordIs hw ha hs) hw h
theorem sgn_sgB (c : UInt8) (h : sgn c = true) : sgB c = true := by
  have := all_u8 (p := fun c => !sgn c || sgB c) (by decide +kernel) c
  rw [h] at this
  simpa using this
theorem roleT_sg {r : Role} (hr : roleR r = true) : (∀ c ∈ roleT r, sgB c = true) ∧ roleT r ≠ [] := by
  obtain ⟨o, d⟩ := r
  have hr' : nameR o = true ∧ nameR d = true := by simpa [roleR] using hr
  have key : ∀ s : List UInt8, nameR s = true → ∀ c ∈ s, sgB c = true := by
    intro s hs c hc
    cases s with
    | nil => cases hs
    | cons x s =>
      unfold nameR at hs
      rw [Bool.and_eq_true] at hs
      exact sgn_sgB c (List.all_eq_true.1 hs.2 c hc)
  refine ⟨fun c hc => ?_, by unfold roleT; simp⟩
  unfold roleT at hc
  rcases List.mem_append.1 hc with q | q
  · rcases List.mem_append.1 q with q | q
    · exact key o hr'.1 c q
    · rw [List.mem_singleton.1 q]; decide
  · exact key d hr'.2 c q
/-- What a formula's text is, as words. -/
def Told (f : Fo) : Prop := ∀ (b : Bool) (s : List UInt8) (l : List Tok), NoSg s → Lx b s l → Lx b (f.text ++ s) (f.toks ++ l)
theorem lx_tail {b : Bool} {s : List UInt8} {l : List Tok} (hs : NoSg s) (h : Lx b s l) : ∀ (ks : List Fo), (∀ x ∈ ks, Told x) → NoSg (Lib.joinTail [44, 32] (textL ks) ++ s) ∧ Lx b (Lib.joinTail [44, 32] (textL ks) ++ s) (toksM ks ++ l)
  | [], _ => by
    rw [show Lib.joinTail [44, 32] (textL []) = [] from rfl, toksM]
    exact ⟨hs, h⟩
  | x :: ks, hk => by
    obtain ⟨h1, h2⟩ := lx_tail hs h ks (fun y hy => hk y (List.mem_cons_of_mem _ hy))
    have e : Lib.joinTail [44, 32] (textL (x :: ks)) ++ s = 44 :: 32 :: (x.text ++ (Lib.joinTail [44, 32] (textL ks) ++ s)) := by
      rw [textL]; unfold Lib.joinTail; simp
    rw [e, toksM, List.cons_append, List.append_assoc]
    exact ⟨noSg_cons (by decide), Lx.mark (c := 44) (Lx.blank (hk x (by simp) b _ _ h1 h2) (by decide)) (by decide)⟩
theorem lx_join {b : Bool} {s : List UInt8} {l : List Tok} (hs : NoSg s) (h : Lx b s l) (ks : List Fo) (hk : ∀ x ∈ ks, Told x) : Lx b (Lib.join (textL ks) [44, 32] ++ s) (toksL ks ++ l) := by
  cases ks with
  | nil => rw [textL, Lib.join_nil, toksL]; exact h
  | cons x ks =>
    obtain ⟨h1, h2⟩ := lx_tail hs h ks (fun y hy => hk y (List.mem_cons_of_mem _ hy))
    rw [textL, Lib.join_cons, toksL, List.append_assoc, List.append_assoc]
    exact hk x (by simp) b _ _ h1 h2
theorem text_lx (f : Fo) : f.well = true → Told f := by
  refine Fo.ind (P := fun f => f.well = true → Told f) (fun op k r kids ih hw b s l hs h => ?_) f
  obtain ⟨h1, h2, h3⟩ := well_parts hw
  have hk : ∀ x ∈ kids, Told x := fun x hx => ih x hx (h3 x hx)
  have hin : Lx b ([40] ++ Lib.join (textL kids) [44, 32] ++ [41] ++ s) ([tOpen] ++ toksL kids ++ [tShut] ++ l) := by
    have h4 : Lx b (41 :: s) (tShut :: l) := Lx.mark h (by decide)
    have h5 := lx_join (noSg_cons (by decide)) h4 kids hk
    have h6 := Lx.mark (c := 40) h5 (by decide)
    have e1 : [40] ++ Lib.join (textL kids) [44, 32] ++ [41] ++ s = 40 :: (Lib.join (textL kids) [44, 32] ++ (41 :: s)) := by simp
    have e2 : [tOpen] ++ toksL kids ++ [tShut] ++ l = [40] :: (toksL kids ++ (tShut :: l)) := by simp [tOpen]
    rw [e1, e2]
    exact h6
  have hn : NoSg ([40] ++ Lib.join (textL kids) [44, 32] ++ [41] ++ s) := by rw [List.append_assoc, List.append_assoc]; exact noSg_cons (by decide)
  rw [Fo.text, Fo.toks]
  rcases node_op h1 with ⟨rfl, hr, hn0, rfl⟩ | ⟨o, rfl, rfl⟩ | ⟨rfl, rfl, k0, kn, _⟩
  · obtain ⟨e1, e2⟩ := roleT_sg hr
    rw [if_pos rfl, if_pos rfl]
    exact Lx.word h e2 e1 hs
  · rcases o with rfl | rfl
    · rw [if_neg (by decide), if_neg (by decide)]
      have := Lx.word (w := [97, 108, 108]) hin (by decide) (by decide) hn
      simpa [headF, headTk, tAll] using this
    · rw [if_neg (by decide), if_neg (by decide)]
      have := Lx.word (w := [115, 111, 109, 101]) hin (by decide) (by decide) hn
      simpa [headF, headTk, tSome] using this
  · obtain ⟨kq, rfl⟩ : ∃ q : Nat, k = q := ⟨k.toNat, by omega⟩
    rw [if_neg (by decide), if_neg (by decide)]
    have hdg : Lib.decDigits kq ≠ [] ∧ ∀ c ∈ Lib.decDigits kq, sgB c = true := by
      rw [dig_one kq (by omega)]
      refine ⟨by simp, fun c hc => ?_⟩
      rw [List.mem_singleton.1 hc]
      have : ∀ n : Nat, n < 10 → sgB (UInt8.ofNat (48 + n)) = true := by decide +kernel
      exact this kq (by omega)
    have h7 := Lx.blank (c := 32) (Lx.word hin hdg.1 hdg.2 hn) (by decide)
    have h8 := Lx.word (w := [97, 116]) h7 (by decide) (by decide) (noSg_cons (by decide))
    simpa [headF, headTk, tAt] using h8
theorem deepL_toks : ∀ (l : List Fo), (∀ x ∈ l, x.deep ≤ x.toks.length) → deepL l ≤ (toksL l).length ∧ deepL l ≤ (toksM l).length
  | [], _ => by simp [deepL]
  | x :: l, h => by
    have h1 := h x (by simp)
    obtain ⟨_, h3⟩ := deepL_toks l (fun y hy => h y (List.mem_cons_of_mem _ hy))
    rw [deepL, toksL, toksM, List.length_cons, List.length_append]
    omega
theorem deep_toks (f : Fo) : f.well = true → f.deep ≤ f.toks.length := by
  refine Fo.ind (P := fun f => f.well = true → f.deep ≤ f.toks.length) (fun op k r kids ih hw => ?_) f
  obtain ⟨h1, h2, h3⟩ := well_parts hw
  have hk := (deepL_toks kids (fun x hx => ih x hx (h3 x hx))).1
  rw [Fo.deep, Fo.toks]
  split
  · rename_i o
    rcases node_op h1 with ⟨_, _, hn, _⟩ | ⟨q, _⟩ | ⟨q, _⟩
    · obtain rfl : kids = [] := List.eq_nil_of_length_eq_zero hn
      simp [deepL]
    · omega
    · omega
  · simp only [List.length_append, List.length_singleton]
    omega
/-- The text of a right formula is parsed to that formula. -/
theorem parse_told {f : Fo} (hr : foR f = true) (hl : ¬ 2048 < f.text.length) {x : Fo} {e : Int} (h : ParseIs f.text x e) : x = f ∧ e = 0 := by
  have hw : f.well = true := by unfold foR at hr; rw [Bool.and_eq_true] at hr; exact hr.2
  have hlx := text_lx f hw false [] [] noSg_nil (.done (by decide))
  rw [List.append_nil, List.append_nil] at hlx
  unfold ParseIs at h
  rw [if_neg hl] at h
  have h1 := h _ _ hlx
  have h2 := any_ends (one_toks f (f.toks.length + 1) [] hw (by have := deep_toks f hw; omega)) ends_nil
  rw [List.append_nil] at h2
  rw [h2] at h1
  unfold parsedE at h1
  simp only at h1
  rw [if_pos hr] at h1
  exact Prod.mk.inj h1
end Go.Proofs.YtnemipgmkenemaaDoor

namespace Go.Proofs.YtnemipgmkenemaaDoor
set_option linter.unusedSimpArgs false
set_option linter.unusedVariables false
open Go Go.RowKit
theorem fmOk0 (W : World) (op k : Int) : FmOk W (.mk op k ([], []) none 0 0 []) := FmIn.mk ⟨Nat.le_refl _, by simp [maxLen]⟩ (Fl.nil _ _) (fun h => by omega) (by simp)
theorem text_is {g : Fm} {f : Fo} {t : List UInt8} {W : World} (hs : g.strip = f) (h : FmOk W g) (hn : g.strip.nodes ≤ 100000) (hl : FoL 100000 g.strip) (ht : (if foR f = true then f.text else []) = t) : Calls Tryd.prog 7 #[fmV g] W fun e w' => e = .returned (S t) ∧ Ext W w' := by
  have := text_any g W h (by omega) hl
  rw [hs, ht] at this
  exact this
set_option maxRecDepth 100000 in
set_option maxHeartbeats 4000000 in
theorem first12_any (W : World) (he : ErrV W) : Calls Tryd.prog 4 #[] W fun e w' => e = .returned (.bool true) ∧ Ext W w' := by
  have HE := Lib.hid he
  clear he
  have st := Own.startOld W
  (try simp only [nsl, Value.cells, unB] at st)
  (try clear hc); have hc := st.facts; (try simp only [nfl, nft, Nat.reduceAdd] at hc)
  go_enter Tryd.func4, Tryd.ntmps4
  go_wp2_with ((first
        | ((with_reducible refine wl_alloc ?_ (fun K hK => ?_)); rfl; refine owp_alloc (o := ⟨some 1, _, _, _, _, _⟩) rfl st ?_; apply Exists.intro; apply Exists.intro; refine ⟨?_, ?_⟩; (focus (first | (go_simp; done) | (go_simp; rfl))); (clear st; intro b1 w hb st; clear hb))
        | ((with_reducible refine wl_store ?_ (fun K hK => ?_)); rfl; refine owp_store rfl st ?_; apply Exists.intro; apply Exists.intro; refine ⟨?_, ?_, ?_⟩; (focus (go_simp; try rfl)); (focus (go_simp; try rfl)); (first | (with_reducible refine ⟨0, _, _, _, _, get0, rfl, rfl, ?_, ?_, ?_, ?_⟩) | (with_reducible refine ⟨1, _, _, _, _, get1, rfl, rfl, ?_, ?_, ?_, ?_⟩) | (with_reducible refine ⟨2, _, _, _, _, get2, rfl, rfl, ?_, ?_, ?_, ?_⟩) | (with_reducible refine ⟨3, _, _, _, _, get3, rfl, rfl, ?_, ?_, ?_, ?_⟩) | (with_reducible refine ⟨4, _, _, _, _, get4, rfl, rfl, ?_, ?_, ?_, ?_⟩) | (with_reducible refine ⟨5, _, _, _, _, get5, rfl, rfl, ?_, ?_, ?_, ?_⟩) | (with_reducible refine ⟨6, _, _, _, _, get6, rfl, rfl, ?_, ?_, ?_, ?_⟩) | (with_reducible refine ⟨7, _, _, _, _, get7, rfl, rfl, ?_, ?_, ?_, ?_⟩)); (kernel_rfl); (simp [Value.cells]); (rfl); (clear st; intro w st))
        | ((with_reducible refine wl_alloc ?_ (fun K hK => ?_)); rfl; refine owp_alloc (o := ⟨some 3, _, _, _, _, _⟩) rfl st ?_; apply Exists.intro; apply Exists.intro; refine ⟨?_, ?_⟩; (focus (first | (go_simp; done) | (go_simp; rfl))); (clear st; intro b3 w hb st; clear hb))
        | ((with_reducible refine wl_alloc ?_ (fun K hK => ?_)); rfl; refine owp_alloc (o := ⟨some 5, _, _, _, _, _⟩) rfl st ?_; apply Exists.intro; apply Exists.intro; refine ⟨?_, ?_⟩; (focus (first | (go_simp; done) | (go_simp; rfl))); (clear st; intro b5 w hb st; clear hb))); (try simp only [nsl, Value.cells, unB] at st); (try clear hc); have hc := st.facts; (try simp only [nfl, nft, Nat.reduceAdd] at hc))
  obtain ⟨fr', al', st', back⟩ := st.sub [0] (by decide) (by simp)
  (try simp only [nsl, Value.cells, unB] at st')
  refine (parse_c (s := txt1) (by decide) HE.out st').mono ?_
  clear st'
  rintro en w ⟨g1, v1, rfl, hp1, _, hl1, hn1, st'⟩
  replace st := back _ _ (by simp) st'
  clear back st'
  (try simp only [nsl, Value.cells, unB] at st)
  (try clear hc); have hc := st.facts; (try simp only [nfl, nft, Nat.reduceAdd] at hc)
  obtain ⟨hs1, rfl⟩ := pIs1 hp1
  have HT1 := Lib.hid (fun W' (h : FmOk W' g1) => text_is (t := back1) hs1 h hn1 hl1 (by rw [if_pos foR1, told1]))
  clear hp1 hl1 hn1 hs1
  obtain ⟨x1, hx1⟩ : ∃ x, g1 = x := ⟨_, rfl⟩
  obtain ⟨op', k', ⟨o', d'⟩, a', n', c', kids'⟩ := g1
  have HV : Hid (fmV x1 = .agg #[.int .i64 op', .int .i64 k', .string ⟨o'.toArray⟩, .string ⟨d'.toArray⟩, .slice a' n' c']) := Lib.hid (by rw [← hx1]; rfl)
  rw [hx1] at st HT1 ⊢
  rw [HV.out] at HT1 ⊢
  unfold back1 S at HT1
  clear hx1 HV
  (try simp only [nsl, Value.cells, unB] at st)
  (try clear hc); have hc := st.facts; (try simp only [nfl, nft, Nat.reduceAdd] at hc)
  go_wp2_with ((first
        | ((with_reducible refine wl_alloc ?_ (fun K hK => ?_)); rfl; refine owp_alloc (o := ⟨some 1, _, _, _, _, _⟩) rfl st ?_; apply Exists.intro; apply Exists.intro; refine ⟨?_, ?_⟩; (focus (first | (go_simp; done) | (go_simp; rfl))); (clear st; intro b1 w hb st; clear hb))
        | ((with_reducible refine wl_store ?_ (fun K hK => ?_)); rfl; refine owp_store rfl st ?_; apply Exists.intro; apply Exists.intro; refine ⟨?_, ?_, ?_⟩; (focus (go_simp; try rfl)); (focus (go_simp; try rfl)); (first | (with_reducible refine ⟨0, _, _, _, _, get0, rfl, rfl, ?_, ?_, ?_, ?_⟩) | (with_reducible refine ⟨1, _, _, _, _, get1, rfl, rfl, ?_, ?_, ?_, ?_⟩) | (with_reducible refine ⟨2, _, _, _, _, get2, rfl, rfl, ?_, ?_, ?_, ?_⟩) | (with_reducible refine ⟨3, _, _, _, _, get3, rfl, rfl, ?_, ?_, ?_, ?_⟩) | (with_reducible refine ⟨4, _, _, _, _, get4, rfl, rfl, ?_, ?_, ?_, ?_⟩) | (with_reducible refine ⟨5, _, _, _, _, get5, rfl, rfl, ?_, ?_, ?_, ?_⟩) | (with_reducible refine ⟨6, _, _, _, _, get6, rfl, rfl, ?_, ?_, ?_, ?_⟩) | (with_reducible refine ⟨7, _, _, _, _, get7, rfl, rfl, ?_, ?_, ?_, ?_⟩)); (kernel_rfl); (simp [Value.cells]); (rfl); (clear st; intro w st))
        | ((with_reducible refine wl_alloc ?_ (fun K hK => ?_)); rfl; refine owp_alloc (o := ⟨some 3, _, _, _, _, _⟩) rfl st ?_; apply Exists.intro; apply Exists.intro; refine ⟨?_, ?_⟩; (focus (first | (go_simp; done) | (go_simp; rfl))); (clear st; intro b3 w hb st; clear hb))
        | ((with_reducible refine wl_alloc ?_ (fun K hK => ?_)); rfl; refine owp_alloc (o := ⟨some 5, _, _, _, _, _⟩) rfl st ?_; apply Exists.intro; apply Exists.intro; refine ⟨?_, ?_⟩; (focus (first | (go_simp; done) | (go_simp; rfl))); (clear st; intro b5 w hb st; clear hb))); (try simp only [nsl, Value.cells, unB] at st); (try clear hc); have hc := st.facts; (try simp only [nfl, nft, Nat.reduceAdd] at hc))
  obtain ⟨fr', al', st', back⟩ := st.sub [0] (by decide) (by simp)
  (try simp only [nsl, Value.cells, unB] at st')
  refine (parse_c (s := txt2) (by decide) HE.out st').mono ?_
  clear st'
  rintro en w ⟨g2, v2, rfl, hp2, _, _, _, st'⟩
  replace st := back _ _ (by simp) st'
  clear back st'
  (try simp only [nsl, Value.cells, unB] at st)
  (try clear hc); have hc := st.facts; (try simp only [nfl, nft, Nat.reduceAdd] at hc)
  obtain ⟨hs2, rfl⟩ := pIs2 hp2
  clear hp2 hs2
  obtain ⟨x2, hx2⟩ : ∃ x, g2 = x := ⟨_, rfl⟩
  obtain ⟨op2, k2, ⟨o2, d2⟩, a2, n2, c2, kids2⟩ := g2
  have HV : Hid (fmV x2 = .agg #[.int .i64 op2, .int .i64 k2, .string ⟨o2.toArray⟩, .string ⟨d2.toArray⟩, .slice a2 n2 c2]) := Lib.hid (by rw [← hx2]; rfl)
  rw [hx2] at st ⊢
  rw [HV.out]
  clear hx2 HV
  (try simp only [nsl, Value.cells, unB] at st)
  (try clear hc); have hc := st.facts; (try simp only [nfl, nft, Nat.reduceAdd] at hc)
  go_wp2_with ((first
        | ((with_reducible refine wl_alloc ?_ (fun K hK => ?_)); rfl; refine owp_alloc (o := ⟨some 1, _, _, _, _, _⟩) rfl st ?_; apply Exists.intro; apply Exists.intro; refine ⟨?_, ?_⟩; (focus (first | (go_simp; done) | (go_simp; rfl))); (clear st; intro b1 w hb st; clear hb))
        | ((with_reducible refine wl_store ?_ (fun K hK => ?_)); rfl; refine owp_store rfl st ?_; apply Exists.intro; apply Exists.intro; refine ⟨?_, ?_, ?_⟩; (focus (go_simp; try rfl)); (focus (go_simp; try rfl)); (first | (with_reducible refine ⟨0, _, _, _, _, get0, rfl, rfl, ?_, ?_, ?_, ?_⟩) | (with_reducible refine ⟨1, _, _, _, _, get1, rfl, rfl, ?_, ?_, ?_, ?_⟩) | (with_reducible refine ⟨2, _, _, _, _, get2, rfl, rfl, ?_, ?_, ?_, ?_⟩) | (with_reducible refine ⟨3, _, _, _, _, get3, rfl, rfl, ?_, ?_, ?_, ?_⟩) | (with_reducible refine ⟨4, _, _, _, _, get4, rfl, rfl, ?_, ?_, ?_, ?_⟩) | (with_reducible refine ⟨5, _, _, _, _, get5, rfl, rfl, ?_, ?_, ?_, ?_⟩) | (with_reducible refine ⟨6, _, _, _, _, get6, rfl, rfl, ?_, ?_, ?_, ?_⟩) | (with_reducible refine ⟨7, _, _, _, _, get7, rfl, rfl, ?_, ?_, ?_, ?_⟩)); (kernel_rfl); (simp [Value.cells]); (rfl); (clear st; intro w st))
        | ((with_reducible refine wl_alloc ?_ (fun K hK => ?_)); rfl; refine owp_alloc (o := ⟨some 3, _, _, _, _, _⟩) rfl st ?_; apply Exists.intro; apply Exists.intro; refine ⟨?_, ?_⟩; (focus (first | (go_simp; done) | (go_simp; rfl))); (clear st; intro b3 w hb st; clear hb))
        | ((with_reducible refine wl_alloc ?_ (fun K hK => ?_)); rfl; refine owp_alloc (o := ⟨some 5, _, _, _, _, _⟩) rfl st ?_; apply Exists.intro; apply Exists.intro; refine ⟨?_, ?_⟩; (focus (first | (go_simp; done) | (go_simp; rfl))); (clear st; intro b5 w hb st; clear hb))); (try simp only [nsl, Value.cells, unB] at st); (try clear hc); have hc := st.facts; (try simp only [nfl, nft, Nat.reduceAdd] at hc))
  obtain ⟨fr', al', st', back⟩ := st.sub [0] (by decide) (by simp)
  (try simp only [nsl, Value.cells, unB] at st')
  refine (parse_c (s := txt3) (by decide) HE.out st').mono ?_
  clear st'
  rintro en w ⟨g3, v3, rfl, hp3, _, hl3, hn3, st'⟩
  replace st := back _ _ (by simp) st'
  clear back st'
  (try simp only [nsl, Value.cells, unB] at st)
  (try clear hc); have hc := st.facts; (try simp only [nfl, nft, Nat.reduceAdd] at hc)
  obtain ⟨hs3, rfl⟩ := pIs3 hp3
  have HT3 := Lib.hid (fun W' (h : FmOk W' g3) => text_is (t := back3) hs3 h hn3 hl3 (by rw [if_pos foR3, told3]))
  clear hp3 hl3 hn3 hs3
  obtain ⟨x3, hx3⟩ : ∃ x, g3 = x := ⟨_, rfl⟩
  obtain ⟨op3, k3, ⟨o3, d3⟩, a3, n3, c3, kids3⟩ := g3
  have HV : Hid (fmV x3 = .agg #[.int .i64 op3, .int .i64 k3, .string ⟨o3.toArray⟩, .string ⟨d3.toArray⟩, .slice a3 n3 c3]) := Lib.hid (by rw [← hx3]; rfl)
  rw [hx3] at st HT3 ⊢
  rw [HV.out] at HT3 ⊢
  unfold back3 S at HT3
  clear hx3 HV
  have HT0 := Lib.hid (fun W' => text_is (g := .mk 0 0 ([], []) none 0 0 []) (f := zeroF) (t := []) (W := W') rfl (fmOk0 W' 0 0) (by decide) (FoL.mk (by simp) (by simp) (by simp [stripL])) (by rw [if_neg (by rw [foRz]; decide)]))
  unfold fmV S at HT0
  simp only at HT0
  (try simp only [nsl, Value.cells, unB] at st)
  (try clear hc); have hc := st.facts; (try simp only [nfl, nft, Nat.reduceAdd] at hc)
  go_wp2_with ((first
        | ((with_reducible refine wl_alloc ?_ (fun K hK => ?_)); rfl; refine owp_alloc (o := ⟨some 1, _, _, _, _, _⟩) rfl st ?_; apply Exists.intro; apply Exists.intro; refine ⟨?_, ?_⟩; (focus (first | (go_simp; done) | (go_simp; rfl))); (clear st; intro b1 w hb st; clear hb))
        | ((with_reducible refine wl_store ?_ (fun K hK => ?_)); rfl; refine owp_store rfl st ?_; apply Exists.intro; apply Exists.intro; refine ⟨?_, ?_, ?_⟩; (focus (go_simp; try rfl)); (focus (go_simp; try rfl)); (first | (with_reducible refine ⟨0, _, _, _, _, get0, rfl, rfl, ?_, ?_, ?_, ?_⟩) | (with_reducible refine ⟨1, _, _, _, _, get1, rfl, rfl, ?_, ?_, ?_, ?_⟩) | (with_reducible refine ⟨2, _, _, _, _, get2, rfl, rfl, ?_, ?_, ?_, ?_⟩) | (with_reducible refine ⟨3, _, _, _, _, get3, rfl, rfl, ?_, ?_, ?_, ?_⟩) | (with_reducible refine ⟨4, _, _, _, _, get4, rfl, rfl, ?_, ?_, ?_, ?_⟩) | (with_reducible refine ⟨5, _, _, _, _, get5, rfl, rfl, ?_, ?_, ?_, ?_⟩) | (with_reducible refine ⟨6, _, _, _, _, get6, rfl, rfl, ?_, ?_, ?_, ?_⟩) | (with_reducible refine ⟨7, _, _, _, _, get7, rfl, rfl, ?_, ?_, ?_, ?_⟩)); (kernel_rfl); (simp [Value.cells]); (rfl); (clear st; intro w st))
        | ((with_reducible refine wl_alloc ?_ (fun K hK => ?_)); rfl; refine owp_alloc (o := ⟨some 3, _, _, _, _, _⟩) rfl st ?_; apply Exists.intro; apply Exists.intro; refine ⟨?_, ?_⟩; (focus (first | (go_simp; done) | (go_simp; rfl))); (clear st; intro b3 w hb st; clear hb))
        | ((with_reducible refine wl_alloc ?_ (fun K hK => ?_)); rfl; refine owp_alloc (o := ⟨some 5, _, _, _, _, _⟩) rfl st ?_; apply Exists.intro; apply Exists.intro; refine ⟨?_, ?_⟩; (focus (first | (go_simp; done) | (go_simp; rfl))); (clear st; intro b5 w hb st; clear hb))); (try simp only [nsl, Value.cells, unB] at st); (try clear hc); have hc := st.facts; (try simp only [nfl, nft, Nat.reduceAdd] at hc))
  refine (HT1.out _ (st.fm (i := 1) get1)).mono ?_
  rintro en w ⟨rfl, hx⟩
  replace st := st.ext hx
  clear hx
  (try clear hc); have hc := st.facts; (try simp only [nfl, nft, Nat.reduceAdd] at hc)
  go_wp2_with ((first
        | ((with_reducible refine wl_alloc ?_ (fun K hK => ?_)); rfl; refine owp_alloc (o := ⟨some 1, _, _, _, _, _⟩) rfl st ?_; apply Exists.intro; apply Exists.intro; refine ⟨?_, ?_⟩; (focus (first | (go_simp; done) | (go_simp; rfl))); (clear st; intro b1 w hb st; clear hb))
        | ((with_reducible refine wl_store ?_ (fun K hK => ?_)); rfl; refine owp_store rfl st ?_; apply Exists.intro; apply Exists.intro; refine ⟨?_, ?_, ?_⟩; (focus (go_simp; try rfl)); (focus (go_simp; try rfl)); (first | (with_reducible refine ⟨0, _, _, _, _, get0, rfl, rfl, ?_, ?_, ?_, ?_⟩) | (with_reducible refine ⟨1, _, _, _, _, get1, rfl, rfl, ?_, ?_, ?_, ?_⟩) | (with_reducible refine ⟨2, _, _, _, _, get2, rfl, rfl, ?_, ?_, ?_, ?_⟩) | (with_reducible refine ⟨3, _, _, _, _, get3, rfl, rfl, ?_, ?_, ?_, ?_⟩) | (with_reducible refine ⟨4, _, _, _, _, get4, rfl, rfl, ?_, ?_, ?_, ?_⟩) | (with_reducible refine ⟨5, _, _, _, _, get5, rfl, rfl, ?_, ?_, ?_, ?_⟩) | (with_reducible refine ⟨6, _, _, _, _, get6, rfl, rfl, ?_, ?_, ?_, ?_⟩) | (with_reducible refine ⟨7, _, _, _, _, get7, rfl, rfl, ?_, ?_, ?_, ?_⟩)); (kernel_rfl); (simp [Value.cells]); (rfl); (clear st; intro w st))
        | ((with_reducible refine wl_alloc ?_ (fun K hK => ?_)); rfl; refine owp_alloc (o := ⟨some 3, _, _, _, _, _⟩) rfl st ?_; apply Exists.intro; apply Exists.intro; refine ⟨?_, ?_⟩; (focus (first | (go_simp; done) | (go_simp; rfl))); (clear st; intro b3 w hb st; clear hb))
        | ((with_reducible refine wl_alloc ?_ (fun K hK => ?_)); rfl; refine owp_alloc (o := ⟨some 5, _, _, _, _, _⟩) rfl st ?_; apply Exists.intro; apply Exists.intro; refine ⟨?_, ?_⟩; (focus (first | (go_simp; done) | (go_simp; rfl))); (clear st; intro b5 w hb st; clear hb))); (try simp only [nsl, Value.cells, unB] at st); (try clear hc); have hc := st.facts; (try simp only [nfl, nft, Nat.reduceAdd] at hc))
  refine (HT3.out _ (st.fm (i := 5) get5)).mono ?_
  rintro en w ⟨rfl, hx⟩
  replace st := st.ext hx
  clear hx
  (try clear hc); have hc := st.facts; (try simp only [nfl, nft, Nat.reduceAdd] at hc)
  go_wp2_with ((first
        | ((with_reducible refine wl_alloc ?_ (fun K hK => ?_)); rfl; refine owp_alloc (o := ⟨some 1, _, _, _, _, _⟩) rfl st ?_; apply Exists.intro; apply Exists.intro; refine ⟨?_, ?_⟩; (focus (first | (go_simp; done) | (go_simp; rfl))); (clear st; intro b1 w hb st; clear hb))
        | ((with_reducible refine wl_store ?_ (fun K hK => ?_)); rfl; refine owp_store rfl st ?_; apply Exists.intro; apply Exists.intro; refine ⟨?_, ?_, ?_⟩; (focus (go_simp; try rfl)); (focus (go_simp; try rfl)); (first | (with_reducible refine ⟨0, _, _, _, _, get0, rfl, rfl, ?_, ?_, ?_, ?_⟩) | (with_reducible refine ⟨1, _, _, _, _, get1, rfl, rfl, ?_, ?_, ?_, ?_⟩) | (with_reducible refine ⟨2, _, _, _, _, get2, rfl, rfl, ?_, ?_, ?_, ?_⟩) | (with_reducible refine ⟨3, _, _, _, _, get3, rfl, rfl, ?_, ?_, ?_, ?_⟩) | (with_reducible refine ⟨4, _, _, _, _, get4, rfl, rfl, ?_, ?_, ?_, ?_⟩) | (with_reducible refine ⟨5, _, _, _, _, get5, rfl, rfl, ?_, ?_, ?_, ?_⟩) | (with_reducible refine ⟨6, _, _, _, _, get6, rfl, rfl, ?_, ?_, ?_, ?_⟩) | (with_reducible refine ⟨7, _, _, _, _, get7, rfl, rfl, ?_, ?_, ?_, ?_⟩)); (kernel_rfl); (simp [Value.cells]); (rfl); (clear st; intro w st))
        | ((with_reducible refine wl_alloc ?_ (fun K hK => ?_)); rfl; refine owp_alloc (o := ⟨some 3, _, _, _, _, _⟩) rfl st ?_; apply Exists.intro; apply Exists.intro; refine ⟨?_, ?_⟩; (focus (first | (go_simp; done) | (go_simp; rfl))); (clear st; intro b3 w hb st; clear hb))
        | ((with_reducible refine wl_alloc ?_ (fun K hK => ?_)); rfl; refine owp_alloc (o := ⟨some 5, _, _, _, _, _⟩) rfl st ?_; apply Exists.intro; apply Exists.intro; refine ⟨?_, ?_⟩; (focus (first | (go_simp; done) | (go_simp; rfl))); (clear st; intro b5 w hb st; clear hb))); (try simp only [nsl, Value.cells, unB] at st); (try clear hc); have hc := st.facts; (try simp only [nfl, nft, Nat.reduceAdd] at hc))
  refine (HT0.out _).mono ?_
  rintro en w ⟨rfl, hx⟩
  replace st := st.ext hx
  clear hx
  (try clear hc); have hc := st.facts; (try simp only [nfl, nft, Nat.reduceAdd] at hc)
  go_wp2_with ((first
        | ((with_reducible refine wl_alloc ?_ (fun K hK => ?_)); rfl; refine owp_alloc (o := ⟨some 1, _, _, _, _, _⟩) rfl st ?_; apply Exists.intro; apply Exists.intro; refine ⟨?_, ?_⟩; (focus (first | (go_simp; done) | (go_simp; rfl))); (clear st; intro b1 w hb st; clear hb))
        | ((with_reducible refine wl_store ?_ (fun K hK => ?_)); rfl; refine owp_store rfl st ?_; apply Exists.intro; apply Exists.intro; refine ⟨?_, ?_, ?_⟩; (focus (go_simp; try rfl)); (focus (go_simp; try rfl)); (first | (with_reducible refine ⟨0, _, _, _, _, get0, rfl, rfl, ?_, ?_, ?_, ?_⟩) | (with_reducible refine ⟨1, _, _, _, _, get1, rfl, rfl, ?_, ?_, ?_, ?_⟩) | (with_reducible refine ⟨2, _, _, _, _, get2, rfl, rfl, ?_, ?_, ?_, ?_⟩) | (with_reducible refine ⟨3, _, _, _, _, get3, rfl, rfl, ?_, ?_, ?_, ?_⟩) | (with_reducible refine ⟨4, _, _, _, _, get4, rfl, rfl, ?_, ?_, ?_, ?_⟩) | (with_reducible refine ⟨5, _, _, _, _, get5, rfl, rfl, ?_, ?_, ?_, ?_⟩) | (with_reducible refine ⟨6, _, _, _, _, get6, rfl, rfl, ?_, ?_, ?_, ?_⟩) | (with_reducible refine ⟨7, _, _, _, _, get7, rfl, rfl, ?_, ?_, ?_, ?_⟩)); (kernel_rfl); (simp [Value.cells]); (rfl); (clear st; intro w st))
        | ((with_reducible refine wl_alloc ?_ (fun K hK => ?_)); rfl; refine owp_alloc (o := ⟨some 3, _, _, _, _, _⟩) rfl st ?_; apply Exists.intro; apply Exists.intro; refine ⟨?_, ?_⟩; (focus (first | (go_simp; done) | (go_simp; rfl))); (clear st; intro b3 w hb st; clear hb))
        | ((with_reducible refine wl_alloc ?_ (fun K hK => ?_)); rfl; refine owp_alloc (o := ⟨some 5, _, _, _, _, _⟩) rfl st ?_; apply Exists.intro; apply Exists.intro; refine ⟨?_, ?_⟩; (focus (first | (go_simp; done) | (go_simp; rfl))); (clear st; intro b5 w hb st; clear hb))); (try simp only [nsl, Value.cells, unB] at st); (try clear hc); have hc := st.facts; (try simp only [nfl, nft, Nat.reduceAdd] at hc))
  go_ret
  exact ⟨rfl, st.ext0⟩
end Go.Proofs.YtnemipgmkenemaaDoor

namespace Go.Proofs.YtnemipgmkenemaaDoor
set_option linter.unusedSimpArgs false
set_option linter.unusedVariables false
open Go Go.RowKit
@[go_sem high] theorem neqNilFunc (F : FuncId) (cs : Array Value) (w : World) : (binOp .neq 37 (.func (.func F) #[] cs) .nilFunc).run Tryd.prog w = .ok (.bool true) w := by
  have h : ∀ d : Nat, (Op.equalIn (d + 1) 37 (.func (.func F) #[] cs) .nilFunc).run Tryd.prog w = .ok false w := fun d => by
    simp [Op.equalIn, run_underlying Tryd.underlying37]
  simp only [binOp]
  simp [Op.equal, Op.maxDepth, h 9999]
theorem atomsL_mem : ∀ (l : List Fo) (x : Fo), x ∈ l → ∀ r ∈ x.atoms, r ∈ atomsL l
  | [], x, h, r, hr => by simp at h
  | y :: l, x, h, r, hr => by
    rw [atomsL]
    rcases List.mem_cons.1 h with e | e
    · subst e; exact List.mem_append_left _ hr
    · exact List.mem_append_right _ (atomsL_mem l x e r hr)
set_option maxRecDepth 100000 in
set_option maxHeartbeats 2000000 in
theorem fmHolds_any (F : FuncId) (cap : Array Value) (p : Role → Bool) (hi : ∀ w x, (callFunc F (#[x] ++ cap)).run Tryd.prog w = .ok (.enter F (#[x] ++ cap)) w) (f : Fm) : ∀ (W : World), FmOk W f →
    (∀ r ∈ f.strip.atoms, ∀ w, Ext W w → Calls Tryd.prog F (#[rV r] ++ cap) w fun e w' => e = .returned (.bool (p r)) ∧ Ext w w') →
    Calls Tryd.prog 18 #[fmV f, .func (.func F) #[] cap] W fun e w' => e = .returned (.bool (f.strip.holds p)) ∧ Ext W w' := by
  induction f using Fm.ind
  rename_i op k r a n c kids ih
  intro W hok hp
  obtain ⟨o, d⟩ := r
  rw [strip_mk] at *
  rw [Fo.holds, List.length_map]
  rw [Fo.atoms] at hp
  have st := Own.startOld W
  unfold fmV S
  simp only
  by_cases o1 : op = 1
  · subst o1
    rw [if_pos rfl] at hp ⊢
    have HP := Lib.hid (fun w hx => hp (o, d) (by simp) w hx)
    unfold rV S at HP
    simp only at HP
    obtain ⟨v, hv⟩ : ∃ v, p (o, d) = v := ⟨_, rfl⟩
    rw [hv] at HP ⊢
    clear hok ih hp hv
    (try simp only [nsl, Value.cells, unB] at st)
    (try clear hc); have hc := st.facts; (try simp only [nfl, nft, Nat.reduceAdd] at hc)
    go_enter Tryd.func18, Tryd.ntmps18
    go_wp2_with ((first
          | ((with_reducible refine wl_box ?_ (fun K hK => ?_)); rfl; refine owp_box (o := ⟨some 2, _, _, _, _, _⟩) rfl st ?_; apply Exists.intro; refine ⟨?_, ?_⟩; (focus (go_simp; try rfl)); (clear st; intro b2 w hb st; clear hb))
          | ((with_reducible refine wl_alloc ?_ (fun K hK => ?_)); rfl; refine owp_alloc (o := ⟨some 7, _, _, _, _, _⟩) rfl st ?_; apply Exists.intro; apply Exists.intro; refine ⟨?_, ?_⟩; (focus (first | (go_simp; done) | (go_simp; rfl))); (clear st; intro b7 w hb st; clear hb))
          | ((with_reducible refine wl_store ?_ (fun K hK => ?_)); rfl; refine owp_store rfl st ?_; apply Exists.intro; apply Exists.intro; refine ⟨?_, ?_, ?_⟩; (focus (go_simp; try rfl)); (focus (go_simp; try rfl)); (first | (with_reducible refine ⟨0, _, _, _, _, get0, rfl, rfl, ?_, ?_, ?_, ?_⟩) | (with_reducible refine ⟨1, _, _, _, _, get1, rfl, rfl, ?_, ?_, ?_, ?_⟩) | (with_reducible refine ⟨2, _, _, _, _, get2, rfl, rfl, ?_, ?_, ?_, ?_⟩) | (with_reducible refine ⟨3, _, _, _, _, get3, rfl, rfl, ?_, ?_, ?_, ?_⟩) | (with_reducible refine ⟨4, _, _, _, _, get4, rfl, rfl, ?_, ?_, ?_, ?_⟩)); (kernel_rfl); (simp [Value.cells]); (rfl); (clear st; intro w st))); (try simp only [nsl, Value.cells, unB] at st); (try clear hc); have hc := st.facts; (try simp only [nfl, nft, Nat.reduceAdd] at hc))
    refine (HP.out _ st.ext0).mono ?_
    rintro en w ⟨rfl, hx⟩
    replace st := st.ext hx
    clear hx
    (try clear hc); have hc := st.facts; (try simp only [nfl, nft, Nat.reduceAdd] at hc)
    go_wp2_with ((first
          | ((with_reducible refine wl_box ?_ (fun K hK => ?_)); rfl; refine owp_box (o := ⟨some 2, _, _, _, _, _⟩) rfl st ?_; apply Exists.intro; refine ⟨?_, ?_⟩; (focus (go_simp; try rfl)); (clear st; intro b2 w hb st; clear hb))
          | ((with_reducible refine wl_alloc ?_ (fun K hK => ?_)); rfl; refine owp_alloc (o := ⟨some 7, _, _, _, _, _⟩) rfl st ?_; apply Exists.intro; apply Exists.intro; refine ⟨?_, ?_⟩; (focus (first | (go_simp; done) | (go_simp; rfl))); (clear st; intro b7 w hb st; clear hb))
          | ((with_reducible refine wl_store ?_ (fun K hK => ?_)); rfl; refine owp_store rfl st ?_; apply Exists.intro; apply Exists.intro; refine ⟨?_, ?_, ?_⟩; (focus (go_simp; try rfl)); (focus (go_simp; try rfl)); (first | (with_reducible refine ⟨0, _, _, _, _, get0, rfl, rfl, ?_, ?_, ?_, ?_⟩) | (with_reducible refine ⟨1, _, _, _, _, get1, rfl, rfl, ?_, ?_, ?_, ?_⟩) | (with_reducible refine ⟨2, _, _, _, _, get2, rfl, rfl, ?_, ?_, ?_, ?_⟩) | (with_reducible refine ⟨3, _, _, _, _, get3, rfl, rfl, ?_, ?_, ?_, ?_⟩) | (with_reducible refine ⟨4, _, _, _, _, get4, rfl, rfl, ?_, ?_, ?_, ?_⟩)); (kernel_rfl); (simp [Value.cells]); (rfl); (clear st; intro w st))); (try simp only [nsl, Value.cells, unB] at st); (try clear hc); have hc := st.facts; (try simp only [nfl, nft, Nat.reduceAdd] at hc))
    go_ret
    exact ⟨rfl, st.ext0⟩
  · rw [if_neg o1] at hp ⊢
    have hob : (op == 1) = false := by simpa using o1
    have HOK := Lib.hid hok
    have HI := Lib.hid ih
    have HP := Lib.hid hp
    have HN : Hid (n = kids.length) := Lib.hid hok.fl.1
    have hn : n ≤ 9223372036854775807 := by have := hok.cap; simp only [maxLen] at this; omega
    have HT : Hid (∀ j, holdsL p ((kids.take j).map Fm.strip) ≤ n) := Lib.hid (fun j => by have := holdsL_le p ((kids.take j).map Fm.strip); rw [List.length_map, List.length_take] at this; have := hok.fl.1; omega)
    obtain ⟨v, hv⟩ : ∃ v, truth op k kids.length (holdsL p (kids.map Fm.strip)) = v := ⟨_, rfl⟩
    have HV0 := Lib.hid hv
    rw [hv]
    clear hok ih hp o1 hv
    (try simp only [nsl, Value.cells, unB] at st)
    (try clear hc); have hc := st.facts; (try simp only [nfl, nft, Nat.reduceAdd] at hc)
    go_enter Tryd.func18, Tryd.ntmps18
    go_wp2_with ((first
          | ((with_reducible refine wl_box ?_ (fun K hK => ?_)); rfl; refine owp_box (o := ⟨some 2, _, _, _, _, _⟩) rfl st ?_; apply Exists.intro; refine ⟨?_, ?_⟩; (focus (go_simp; try rfl)); (clear st; intro b2 w hb st; clear hb))
          | ((with_reducible refine wl_alloc ?_ (fun K hK => ?_)); rfl; refine owp_alloc (o := ⟨some 7, _, _, _, _, _⟩) rfl st ?_; apply Exists.intro; apply Exists.intro; refine ⟨?_, ?_⟩; (focus (first | (go_simp; done) | (go_simp; rfl))); (clear st; intro b7 w hb st; clear hb))
          | ((with_reducible refine wl_store ?_ (fun K hK => ?_)); rfl; refine owp_store rfl st ?_; apply Exists.intro; apply Exists.intro; refine ⟨?_, ?_, ?_⟩; (focus (go_simp; try rfl)); (focus (go_simp; try rfl)); (first | (with_reducible refine ⟨0, _, _, _, _, get0, rfl, rfl, ?_, ?_, ?_, ?_⟩) | (with_reducible refine ⟨1, _, _, _, _, get1, rfl, rfl, ?_, ?_, ?_, ?_⟩) | (with_reducible refine ⟨2, _, _, _, _, get2, rfl, rfl, ?_, ?_, ?_, ?_⟩) | (with_reducible refine ⟨3, _, _, _, _, get3, rfl, rfl, ?_, ?_, ?_, ?_⟩) | (with_reducible refine ⟨4, _, _, _, _, get4, rfl, rfl, ?_, ?_, ?_, ?_⟩)); (kernel_rfl); (simp [Value.cells]); (rfl); (clear st; intro w st))); (try simp only [nsl, Value.cells, unB] at st); (try clear hc); have hc := st.facts; (try simp only [nfl, nft, Nat.reduceAdd] at hc))
    go_loopg [5, 18] n (fun q s i wr => ∃ (j g : Nat), j ≤ n ∧ q = n - j ∧ s = .int .i64 (g : Int) ∧ i = .int .i64 (j : Int) ∧ g ≤ j ∧ Hid (g = holdsL p ((kids.take j).map Fm.strip)) ∧ Own (fun _ => False) (fun _ => True) W [oldI W, blkI b2 [.int .i64 op, .int .i64 k, .string ⟨o.toArray⟩, .string ⟨d.toArray⟩, .slice a n c]] wr)
    case atStart => exact ⟨0, 0, by omega, by omega, rfl, rfl, by omega, Lib.hid (by simp [holdsL]), st⟩
    case round =>
      obtain ⟨j, g, hj, rfl, rfl, rfl, hg, HG, st'⟩ := hrel
      clear st hc
      have st := st'
      clear st'
      by_cases hjn : j < n
      · obtain ⟨b, off, ha, hcell⟩ := (HOK.out.ext st.ext0).fl.fm (by omega)
        have hjl : j < kids.length := by have := HN.out; omega
        have hsn := map_snoc_strip kids j hjl
        have hok := HOK.out.kids _ (List.getElem_mem hjl)
        have hih := HI.out _ (List.getElem_mem hjl)
        have hgt := List.getElem?_eq_getElem hjl
        have hmm : ∀ r ∈ (kids[j].strip).atoms, r ∈ atomsL (kids.map Fm.strip) := atomsL_mem _ _ (List.mem_map.2 ⟨_, List.getElem_mem hjl, rfl⟩)
        generalize kids[j] = x at *
        have HC := Lib.hid (fun W' (hx : Ext W W') => hih W' (hok.ext hx) (fun r hr w hw => HP.out r (hmm r hr) w (hx.trans hw)))
        obtain ⟨sx, hsx⟩ : ∃ v, x.strip = v := ⟨_, rfl⟩
        rw [hsx] at HC hsn
        obtain ⟨hv, hhv⟩ : ∃ v, sx.holds p = v := ⟨_, rfl⟩
        have HG2 : Hid (g + (if hv then 1 else 0) = holdsL p ((kids.take (j + 1)).map Fm.strip)) := Lib.hid (by rw [hsn, holdsL_snoc, HG.out, hhv])
        rw [hhv] at HC
        clear hsx hsn hih hjl hok hmm hhv
        obtain ⟨op', k', ⟨o', d'⟩, a', n', c', kids'⟩ := x
        obtain ⟨r0, r1, r2, r3, r4⟩ := hcell j op' k' (o', d') a' n' c' kids' hgt
        unfold fmV S at HC
        simp only at HC
        clear hcell hgt
        subst ha
        unfold S at r2 r3
        simp only at r2 r3
        (try simp only [nsl, Value.cells, unB] at st)
        (try clear hc); have hc := st.facts; (try simp only [nfl, nft, Nat.reduceAdd] at hc)
        go_wp2_with ((first
              | ((with_reducible refine wl_box ?_ (fun K hK => ?_)); rfl; refine owp_box (o := ⟨some 2, _, _, _, _, _⟩) rfl st ?_; apply Exists.intro; refine ⟨?_, ?_⟩; (focus (go_simp; try rfl)); (clear st; intro b2 w hb st; clear hb))
              | ((with_reducible refine wl_alloc ?_ (fun K hK => ?_)); rfl; refine owp_alloc (o := ⟨some 7, _, _, _, _, _⟩) rfl st ?_; apply Exists.intro; apply Exists.intro; refine ⟨?_, ?_⟩; (focus (first | (go_simp; done) | (go_simp; rfl))); (clear st; intro b7 w hb st; clear hb))
              | ((with_reducible refine wl_store ?_ (fun K hK => ?_)); rfl; refine owp_store rfl st ?_; apply Exists.intro; apply Exists.intro; refine ⟨?_, ?_, ?_⟩; (focus (go_simp; try rfl)); (focus (go_simp; try rfl)); (first | (with_reducible refine ⟨0, _, _, _, _, get0, rfl, rfl, ?_, ?_, ?_, ?_⟩) | (with_reducible refine ⟨1, _, _, _, _, get1, rfl, rfl, ?_, ?_, ?_, ?_⟩) | (with_reducible refine ⟨2, _, _, _, _, get2, rfl, rfl, ?_, ?_, ?_, ?_⟩) | (with_reducible refine ⟨3, _, _, _, _, get3, rfl, rfl, ?_, ?_, ?_, ?_⟩) | (with_reducible refine ⟨4, _, _, _, _, get4, rfl, rfl, ?_, ?_, ?_, ?_⟩)); (kernel_rfl); (simp [Value.cells]); (rfl); (clear st; intro w st))); (try simp only [nsl, Value.cells, unB] at st); (try clear hc); have hc := st.facts; (try simp only [nfl, nft, Nat.reduceAdd] at hc))
        clear r0 r1 r2 r3 r4
        refine (HC.out _ st.ext0).mono ?_
        rintro en w ⟨rfl, hx⟩
        replace st := st.ext hx
        clear hx
        (try clear hc); have hc := st.facts; (try simp only [nfl, nft, Nat.reduceAdd] at hc)
        cases hv with
        | true =>
          go_wp2_with fail
          have st' := st.keep [0, 1] (by decide) (by simp)
          go_roundg (n - (j + 1))
          case measure => omega
          case rel => exact ⟨j + 1, g + 1, by omega, by omega, by go_num, by go_num, by omega, HG2, by simpa [pick] using st'⟩
        | false =>
          go_wp2_with fail
          have st' := st.keep [0, 1] (by decide) (by simp)
          go_roundg (n - (j + 1))
          case measure => omega
          case rel => exact ⟨j + 1, g, by omega, by omega, rfl, by go_num, by omega, HG2, by simpa [pick] using st'⟩
      · obtain rfl : n = j := by omega
        have HE : Hid (holdsL p (kids.map Fm.strip) = g) := Lib.hid (by rw [HG.out, List.take_of_length_le (by have := HN.out; omega)])
        have HV : Hid (v = if op = 2 then decide (g = n) else if op = 3 then decide (0 < g) else decide (k ≤ (g : Int))) := Lib.hid (by rw [← HV0.out, HE.out, ← HN.out]; rfl)
        by_cases o2 : op = 2
        · subst o2
          have H := Lib.hid (HV.out.trans (if_pos rfl))
          by_cases gn : g = n
          · have H2 : Hid (v = true) := Lib.hid (by rw [H.out]; simpa using gn)
            have gb : ((g : Int) == (n : Int)) = true := by simp; omega
            clear gn
            (try simp only [nsl, Value.cells, unB] at st)
            (try clear hc); have hc := st.facts; (try simp only [nfl, nft, Nat.reduceAdd] at hc)
            go_wp2_with fail
            go_ret
            exact ⟨by rw [H2.out] <;> first | rfl | (simp; omega) | simp, st.ext0⟩
          · have H2 : Hid (v = false) := Lib.hid (by rw [H.out]; simpa using gn)
            have gb : ((g : Int) == (n : Int)) = false := by simp; omega
            clear gn
            (try simp only [nsl, Value.cells, unB] at st)
            (try clear hc); have hc := st.facts; (try simp only [nfl, nft, Nat.reduceAdd] at hc)
            go_wp2_with fail
            go_ret
            exact ⟨by rw [H2.out] <;> first | rfl | (simp; omega) | simp, st.ext0⟩
        · have hb2 : (op == 2) = false := by simpa using o2
          by_cases o3 : op = 3
          · subst o3
            have H := Lib.hid (HV.out.trans ((if_neg (by decide)).trans (if_pos rfl)))
            clear o2
            by_cases gn : 0 < g
            · have H2 : Hid (v = true) := Lib.hid (by rw [H.out]; simpa using gn)
              have gi : (0 : Int) < (g : Int) := by omega
              clear gn
              (try simp only [nsl, Value.cells, unB] at st)
              (try clear hc); have hc := st.facts; (try simp only [nfl, nft, Nat.reduceAdd] at hc)
              go_wp2_with fail
              go_ret
              exact ⟨by rw [H2.out] <;> first | rfl | (simp; omega) | simp, st.ext0⟩
            · have H2 : Hid (v = false) := Lib.hid (by rw [H.out]; simpa using gn)
              have gi : ¬ (0 : Int) < (g : Int) := by omega
              clear gn
              (try simp only [nsl, Value.cells, unB] at st)
              (try clear hc); have hc := st.facts; (try simp only [nfl, nft, Nat.reduceAdd] at hc)
              go_wp2_with fail
              go_ret
              exact ⟨by rw [H2.out] <;> first | rfl | (simp; omega) | simp, st.ext0⟩
          · have hb3 : (op == 3) = false := by simpa using o3
            have H := Lib.hid (HV.out.trans ((if_neg o2).trans (if_neg o3)))
            clear o2 o3
            by_cases gn : k ≤ (g : Int)
            · have H2 : Hid (v = true) := Lib.hid (by rw [H.out]; simpa using gn)
              (try simp only [nsl, Value.cells, unB] at st)
              (try clear hc); have hc := st.facts; (try simp only [nfl, nft, Nat.reduceAdd] at hc)
              go_wp2_with fail
              go_ret
              exact ⟨by rw [H2.out] <;> first | rfl | (simp; omega) | simp, st.ext0⟩
            · have H2 : Hid (v = false) := Lib.hid (by rw [H.out]; simpa using gn)
              (try simp only [nsl, Value.cells, unB] at st)
              (try clear hc); have hc := st.facts; (try simp only [nfl, nft, Nat.reduceAdd] at hc)
              go_wp2_with fail
              go_ret
              exact ⟨by rw [H2.out] <;> first | rfl | (simp; omega) | simp, st.ext0⟩
set_option maxRecDepth 100000 in
set_option maxHeartbeats 1000000 in
theorem fmTrue_any (F : FuncId) (cap : Array Value) (p : Role → Bool) (hi : ∀ w x, (callFunc F (#[x] ++ cap)).run Tryd.prog w = .ok (.enter F (#[x] ++ cap)) w) (f : Fm) (W : World) (h : FmOk W f) (hs : f.strip.nodes ≤ 1000000000) (hl : FoL 100000 f.strip)
    (hp : ∀ r ∈ f.strip.atoms, ∀ w, Ext W w → Calls Tryd.prog F (#[rV r] ++ cap) w fun e w' => e = .returned (.bool (p r)) ∧ Ext w w') :
    Calls Tryd.prog 12 #[fmV f, .func (.func F) #[] cap] W fun e w' => e = .returned (.bool (foR f.strip && f.strip.holds p)) ∧ Ext W w' := by
  have HR := Lib.hid (fun W' (hx : Ext W W') => fmRight_any f W' (h.ext hx) hs hl)
  have HH := Lib.hid (fun W' (hx : Ext W W') => fmHolds_any F cap p hi f W' (h.ext hx) (fun r hr w hw => hp r hr w (hx.trans hw)))
  obtain ⟨op, k, ⟨o, d⟩, a, n, c, kids⟩ := f
  generalize (Fm.mk op k (o, d) a n c kids).strip.holds p = hv at *
  generalize foR (Fm.mk op k (o, d) a n c kids).strip = rv at *
  clear h hs hl hp
  have st := Own.startOld W
  unfold fmV S at HR HH ⊢
  simp only at HR HH ⊢
  (try simp only [nsl, Value.cells, unB] at st)
  (try clear hc); have hc := st.facts; (try simp only [nfl, nft, Nat.reduceAdd] at hc)
  go_enter Tryd.func12, Tryd.ntmps12
  go_wp2_with ((((with_reducible refine wl_box ?_ (fun K hK => ?_)); rfl; refine owp_box (o := ⟨some 2, _, _, _, _, _⟩) rfl st ?_; apply Exists.intro; refine ⟨?_, ?_⟩; (focus (go_simp; try rfl)); (clear st; intro b2 w hb st; clear hb))); (try simp only [nsl, Value.cells, unB] at st); (try clear hc); have hc := st.facts; (try simp only [nfl, nft, Nat.reduceAdd] at hc))
  refine (HR.out _ st.ext0).mono ?_
  rintro en w ⟨rfl, hx⟩
  replace st := st.ext hx
  clear hx
  (try clear hc); have hc := st.facts; (try simp only [nfl, nft, Nat.reduceAdd] at hc)
  cases rv with
  | false =>
    go_wp2_with ((((with_reducible refine wl_box ?_ (fun K hK => ?_)); rfl; refine owp_box (o := ⟨some 2, _, _, _, _, _⟩) rfl st ?_; apply Exists.intro; refine ⟨?_, ?_⟩; (focus (go_simp; try rfl)); (clear st; intro b2 w hb st; clear hb))); (try simp only [nsl, Value.cells, unB] at st); (try clear hc); have hc := st.facts; (try simp only [nfl, nft, Nat.reduceAdd] at hc))
    go_ret
    exact ⟨rfl, st.ext0⟩
  | true =>
    go_wp2_with ((((with_reducible refine wl_box ?_ (fun K hK => ?_)); rfl; refine owp_box (o := ⟨some 2, _, _, _, _, _⟩) rfl st ?_; apply Exists.intro; refine ⟨?_, ?_⟩; (focus (go_simp; try rfl)); (clear st; intro b2 w hb st; clear hb))); (try simp only [nsl, Value.cells, unB] at st); (try clear hc); have hc := st.facts; (try simp only [nfl, nft, Nat.reduceAdd] at hc))
    refine (HH.out _ st.ext0).mono ?_
    rintro en w ⟨rfl, hx⟩
    replace st := st.ext hx
    clear hx
    (try clear hc); have hc := st.facts; (try simp only [nfl, nft, Nat.reduceAdd] at hc)
    go_wp2_with fail
    go_ret
    exact ⟨by simp, st.ext0⟩
end Go.Proofs.YtnemipgmkenemaaDoor
