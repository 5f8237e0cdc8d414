/- Formulas: the reference's Bytes, Compare. -/
import Derived.Test.YthjaopojlhdjpaaFmL
import Derived.Test.YthjaopojlhdjpaaRoleP
namespace Go.Proofs.Ythjaopojlhdjpaa
set_option linter.unusedSimpArgs false
set_option linter.unusedVariables false
open Go Go.RowKit
theorem well_parts4 {op k : Int} {r : Role} {kids : List Fo} (h : (Fo.mk op k r kids).well = true) : (op = 1 ∨ op = 2 ∨ op = 3 ∨ op = 4) ∧ (op = 4 → 0 ≤ k ∧ k ≤ 8) ∧ kids.length ≤ 8 ∧ ∀ x ∈ kids, x.well = true := by
  rw [Fo.well, Bool.and_eq_true, Bool.and_eq_true, wellL_all, List.all_eq_true, decide_eq_true_eq] at h
  obtain ⟨⟨h1, h2⟩, h3⟩ := h
  refine ⟨?_, ?_, h2, h3⟩
  · unfold nodeR at h1
    by_cases o1 : op = 1
    · exact .inl o1
    · rw [if_neg o1] at h1
      by_cases o2 : op = 2 ∨ op = 3
      · rcases o2 with o | o
        · exact .inr (.inl o)
        · exact .inr (.inr (.inl o))
      · rw [if_neg o2] at h1
        simp only [Bool.and_eq_true, decide_eq_true_eq] at h1
        exact .inr (.inr (.inr h1.1.1.1.1))
  · intro o4
    subst o4
    unfold nodeR at h1
    rw [if_neg (by decide), if_neg (by decide)] at h1
    simp only [Bool.and_eq_true, decide_eq_true_eq] at h1
    omega
theorem bytesL_snoc' (l : List Fm) (j : Nat) (h : j < l.length) : bytesL ((l.take (j + 1)).map Fm.strip) = bytesL ((l.take j).map Fm.strip) ++ l[j].strip.bytes := by
  rw [map_snoc_strip l j h, bytesL_snoc]
theorem bytesL_take_le : ∀ (l : List Fo) (j : Nat), (bytesL (l.take j)).length ≤ (bytesL l).length
  | [], j => by simp [bytesL]
  | x :: l, 0 => by simp [bytesL]
  | x :: l, j + 1 => by have := bytesL_take_le l j; rw [List.take_succ_cons, bytesL, bytesL, List.length_append, List.length_append]; omega
set_option maxRecDepth 100000 in
set_option maxHeartbeats 4000000 in
theorem refBytes11_any (f : Fm) : ∀ (W : World), FmOk W f → FoL 100000 f.strip → f.strip.well = true → f.strip.nodes ≤ 1000000 →
    Calls Try.prog 150 #[fmV f] W fun e w' => e = .returned (S f.strip.bytes) ∧ Ext W w' := by
  induction f using Fm.ind
  rename_i op k r a n c kids ih
  intro W hok hl hw hnd
  have happ := ba_append
  obtain ⟨o, d⟩ := r
  rw [strip_mk] at *
  obtain ⟨ho, hk, hlen, hws⟩ := well_parts4 hw
  rw [List.length_map] at hlen
  have HRo := Lib.hid (fun W => refRoleBytes_any (o, d) W hl.role.1 hl.role.2)
  unfold rV S at HRo
  simp only at HRo
  have HN : Hid (n = kids.length) := Lib.hid hok.fl.1
  have hn8 : n ≤ 8 := by rw [HN.out]; exact hlen
  have HNU := Lib.hid (fun (m : Nat) (h : m ≤ 8) W => refNumber_any m W (by omega))
  unfold S at HNU
  have HOK := Lib.hid hok
  have HI := Lib.hid (fun x hx W h => ih x hx W h (hl.kids x.strip (List.mem_map_of_mem hx)) (hws _ (List.mem_map_of_mem hx)) (by have := nodesL_mem _ _ (List.mem_map_of_mem (f := Fm.strip) hx); rw [Fo.nodes] at hnd; omega))
  unfold S at HI
  have HV0 : Hid ((Fo.mk op k (o, d) (kids.map Fm.strip)).bytes = numB op.toNat ++ (if op = 1 then roleB (o, d) else (if op = 4 then numB k.toNat else []) ++ numB n ++ bytesL (kids.map Fm.strip))) := Lib.hid (by rw [Fo.bytes, List.length_map, ← HN.out])
  obtain ⟨v, hv⟩ : ∃ v, (Fo.mk op k (o, d) (kids.map Fm.strip)).bytes = v := ⟨_, rfl⟩
  have HVL : Hid (v.length ≤ 70000000) := Lib.hid (by have := bytes_len _ hw; rw [hv] at this; omega)
  rw [hv] at HV0 ⊢
  generalize roleB (o, d) = rb at *
  clear hv hok ih hl hw hws hlen hnd
  have st := Own.startOld W
  unfold fmV S
  simp only
  (try simp only [nsl, Value.cells, unB] at st)
  (try clear hc); have hc := st.facts; (try simp only [nfl, nft, Nat.reduceAdd] at hc)
  go_enter Try.func150, Try.ntmps150
  by_cases o1 : op = 1
  · subst o1
    have H : Hid (v = numB 1 ++ rb) := Lib.hid (by rw [HV0.out, if_pos rfl]; rfl)
    have HNO := Lib.hid (HNU.out 1 (by omega))
    rw [show ((1 : Nat) : Int) = 1 from rfl] at HNO
    have b1 : ((1 : Int) == 1) = true := rfl
    generalize numB 1 = x1 at *
    have hl1 : x1.length ≤ 70000000 := by have := HVL.out; rw [H.out, List.length_append] at this; omega
    have hl2 : rb.length ≤ 70000000 := by have := HVL.out; rw [H.out, List.length_append] at this; omega
    clear HV0 ho hk HI HNU
    go_wp2_with ((first
          | ((with_reducible refine wl_box ?_ (fun K hK => ?_)); rfl; refine owp_box (o := ⟨some 1, _, _, _, _, _⟩) rfl st ?_; apply Exists.intro; refine ⟨?_, ?_⟩; (focus (go_simp; try rfl)); (clear st; intro b1 w hb st; clear hb))
          | ((with_reducible refine wl_alloc ?_ (fun K hK => ?_)); rfl; refine owp_alloc (o := ⟨some 5, _, _, _, _, _⟩) rfl st ?_; apply Exists.intro; apply Exists.intro; refine ⟨?_, ?_⟩; (focus (first | (go_simp; done) | (go_simp; rfl))); (clear st; intro b5 w hb st; clear hb))
          | ((with_reducible refine wl_store ?_ (fun K hK => ?_)); rfl; refine owp_store rfl st ?_; apply Exists.intro; apply Exists.intro; refine ⟨?_, ?_, ?_⟩; (focus (go_simp; try rfl)); (focus (go_simp; try rfl)); (first | (with_reducible refine ⟨0, _, _, _, _, get0, rfl, rfl, ?_, ?_, ?_, ?_⟩) | (with_reducible refine ⟨1, _, _, _, _, get1, rfl, rfl, ?_, ?_, ?_, ?_⟩) | (with_reducible refine ⟨2, _, _, _, _, get2, rfl, rfl, ?_, ?_, ?_, ?_⟩) | (with_reducible refine ⟨3, _, _, _, _, get3, rfl, rfl, ?_, ?_, ?_, ?_⟩)); (kernel_rfl); (simp [Value.cells]); (rfl); (clear st; intro w st))); (try simp only [nsl, Value.cells, unB] at st); (try clear hc); have hc := st.facts; (try simp only [nfl, nft, Nat.reduceAdd] at hc))
    refine (HNO.out _).mono ?_
    rintro en w ⟨rfl, hx⟩
    replace st := st.ext hx
    clear hx
    (try clear hc); have hc := st.facts; (try simp only [nfl, nft, Nat.reduceAdd] at hc)
    go_wp2_with ((first
          | ((with_reducible refine wl_box ?_ (fun K hK => ?_)); rfl; refine owp_box (o := ⟨some 1, _, _, _, _, _⟩) rfl st ?_; apply Exists.intro; refine ⟨?_, ?_⟩; (focus (go_simp; try rfl)); (clear st; intro b1 w hb st; clear hb))
          | ((with_reducible refine wl_alloc ?_ (fun K hK => ?_)); rfl; refine owp_alloc (o := ⟨some 5, _, _, _, _, _⟩) rfl st ?_; apply Exists.intro; apply Exists.intro; refine ⟨?_, ?_⟩; (focus (first | (go_simp; done) | (go_simp; rfl))); (clear st; intro b5 w hb st; clear hb))
          | ((with_reducible refine wl_store ?_ (fun K hK => ?_)); rfl; refine owp_store rfl st ?_; apply Exists.intro; apply Exists.intro; refine ⟨?_, ?_, ?_⟩; (focus (go_simp; try rfl)); (focus (go_simp; try rfl)); (first | (with_reducible refine ⟨0, _, _, _, _, get0, rfl, rfl, ?_, ?_, ?_, ?_⟩) | (with_reducible refine ⟨1, _, _, _, _, get1, rfl, rfl, ?_, ?_, ?_, ?_⟩) | (with_reducible refine ⟨2, _, _, _, _, get2, rfl, rfl, ?_, ?_, ?_, ?_⟩) | (with_reducible refine ⟨3, _, _, _, _, get3, rfl, rfl, ?_, ?_, ?_, ?_⟩)); (kernel_rfl); (simp [Value.cells]); (rfl); (clear st; intro w st))); (try simp only [nsl, Value.cells, unB] at st); (try clear hc); have hc := st.facts; (try simp only [nfl, nft, Nat.reduceAdd] at hc))
    refine (HRo.out _).mono ?_
    rintro en w ⟨rfl, hx⟩
    replace st := st.ext hx
    clear hx
    (try clear hc); have hc := st.facts; (try simp only [nfl, nft, Nat.reduceAdd] at hc)
    go_wp2_with fail
    go_ret
    exact ⟨by rw [H.out] <;> first | rfl | simp, st.ext0⟩
  · have b1 : (op == 1) = false := by simpa using o1
    by_cases o4 : op = 4
    · subst o4
      obtain ⟨hk0, hk8⟩ := hk rfl
      obtain ⟨kn, rfl⟩ : ∃ m : Nat, k = (m : Int) := ⟨k.toNat, by omega⟩
      obtain ⟨k, hkk⟩ : ∃ y : Int, (kn : Int) = y := ⟨_, rfl⟩
      have HV1 : Hid (v = numB 4 ++ numB kn ++ numB n ++ bytesL (kids.map Fm.strip)) := Lib.hid (by rw [HV0.out, if_neg o1, if_pos rfl, Int.toNat_natCast]; simp [List.append_assoc])
      have HNO := Lib.hid (HNU.out 4 (by omega))
      rw [show ((4 : Nat) : Int) = 4 from rfl] at HNO
      have HNK := Lib.hid (HNU.out kn (by omega))
      rw [hkk] at HNK
      have HNN := Lib.hid (HNU.out n (by omega))
      obtain ⟨pre, hpre⟩ : ∃ y, numB 4 ++ numB kn ++ numB n = y := ⟨_, rfl⟩
      have HV : Hid (v = pre ++ bytesL (kids.map Fm.strip)) := Lib.hid (by rw [HV1.out, hpre])
      have HP : Hid (pre = numB 4 ++ numB kn ++ numB n) := Lib.hid hpre.symm
      generalize numB 4 = x1 at *
      generalize numB kn = x2 at *
      generalize numB n = x3 at *
      have hpl : x1.length + x2.length + x3.length ≤ 70000000 := by have := HVL.out; rw [HV.out, HP.out, List.length_append, List.length_append, List.length_append] at this; omega
      have hl1 : x1.length ≤ 70000000 := by omega
      have hl2 : x2.length ≤ 70000000 := by omega
      have hl3 : x3.length ≤ 70000000 := by omega
      have hl4 : (x1 ++ x2).length ≤ 70000000 := by rw [List.length_append]; omega
      have b4 : ((4 : Int) == 4) = true := rfl
      clear HV0 HV1 hpre ho hk HNU o1 HRo
      rw [hkk] at HOK ⊢
      (try simp only [nsl, Value.cells, unB] at st)
      (try clear hc); have hc := st.facts; (try simp only [nfl, nft, Nat.reduceAdd] at hc)
      go_wp2_with ((first
            | ((with_reducible refine wl_box ?_ (fun K hK => ?_)); rfl; refine owp_box (o := ⟨some 1, _, _, _, _, _⟩) rfl st ?_; apply Exists.intro; refine ⟨?_, ?_⟩; (focus (go_simp; try rfl)); (clear st; intro b1 w hb st; clear hb))
            | ((with_reducible refine wl_alloc ?_ (fun K hK => ?_)); rfl; refine owp_alloc (o := ⟨some 5, _, _, _, _, _⟩) rfl st ?_; apply Exists.intro; apply Exists.intro; refine ⟨?_, ?_⟩; (focus (first | (go_simp; done) | (go_simp; rfl))); (clear st; intro b5 w hb st; clear hb))
            | ((with_reducible refine wl_store ?_ (fun K hK => ?_)); rfl; refine owp_store rfl st ?_; apply Exists.intro; apply Exists.intro; refine ⟨?_, ?_, ?_⟩; (focus (go_simp; try rfl)); (focus (go_simp; try rfl)); (first | (with_reducible refine ⟨0, _, _, _, _, get0, rfl, rfl, ?_, ?_, ?_, ?_⟩) | (with_reducible refine ⟨1, _, _, _, _, get1, rfl, rfl, ?_, ?_, ?_, ?_⟩) | (with_reducible refine ⟨2, _, _, _, _, get2, rfl, rfl, ?_, ?_, ?_, ?_⟩) | (with_reducible refine ⟨3, _, _, _, _, get3, rfl, rfl, ?_, ?_, ?_, ?_⟩)); (kernel_rfl); (simp [Value.cells]); (rfl); (clear st; intro w st))); (try simp only [nsl, Value.cells, unB] at st); (try clear hc); have hc := st.facts; (try simp only [nfl, nft, Nat.reduceAdd] at hc))
      refine (HNO.out _).mono ?_
      rintro en w ⟨rfl, hx⟩
      replace st := st.ext hx
      clear hx
      (try clear hc); have hc := st.facts; (try simp only [nfl, nft, Nat.reduceAdd] at hc)
      go_wp2_with ((first
            | ((with_reducible refine wl_box ?_ (fun K hK => ?_)); rfl; refine owp_box (o := ⟨some 1, _, _, _, _, _⟩) rfl st ?_; apply Exists.intro; refine ⟨?_, ?_⟩; (focus (go_simp; try rfl)); (clear st; intro b1 w hb st; clear hb))
            | ((with_reducible refine wl_alloc ?_ (fun K hK => ?_)); rfl; refine owp_alloc (o := ⟨some 5, _, _, _, _, _⟩) rfl st ?_; apply Exists.intro; apply Exists.intro; refine ⟨?_, ?_⟩; (focus (first | (go_simp; done) | (go_simp; rfl))); (clear st; intro b5 w hb st; clear hb))
            | ((with_reducible refine wl_store ?_ (fun K hK => ?_)); rfl; refine owp_store rfl st ?_; apply Exists.intro; apply Exists.intro; refine ⟨?_, ?_, ?_⟩; (focus (go_simp; try rfl)); (focus (go_simp; try rfl)); (first | (with_reducible refine ⟨0, _, _, _, _, get0, rfl, rfl, ?_, ?_, ?_, ?_⟩) | (with_reducible refine ⟨1, _, _, _, _, get1, rfl, rfl, ?_, ?_, ?_, ?_⟩) | (with_reducible refine ⟨2, _, _, _, _, get2, rfl, rfl, ?_, ?_, ?_, ?_⟩) | (with_reducible refine ⟨3, _, _, _, _, get3, rfl, rfl, ?_, ?_, ?_, ?_⟩)); (kernel_rfl); (simp [Value.cells]); (rfl); (clear st; intro w st))); (try simp only [nsl, Value.cells, unB] at st); (try clear hc); have hc := st.facts; (try simp only [nfl, nft, Nat.reduceAdd] at hc))
      refine (HNK.out _).mono ?_
      rintro en w ⟨rfl, hx⟩
      replace st := st.ext hx
      clear hx
      (try clear hc); have hc := st.facts; (try simp only [nfl, nft, Nat.reduceAdd] at hc)
      go_wp2_with ((first
            | ((with_reducible refine wl_box ?_ (fun K hK => ?_)); rfl; refine owp_box (o := ⟨some 1, _, _, _, _, _⟩) rfl st ?_; apply Exists.intro; refine ⟨?_, ?_⟩; (focus (go_simp; try rfl)); (clear st; intro b1 w hb st; clear hb))
            | ((with_reducible refine wl_alloc ?_ (fun K hK => ?_)); rfl; refine owp_alloc (o := ⟨some 5, _, _, _, _, _⟩) rfl st ?_; apply Exists.intro; apply Exists.intro; refine ⟨?_, ?_⟩; (focus (first | (go_simp; done) | (go_simp; rfl))); (clear st; intro b5 w hb st; clear hb))
            | ((with_reducible refine wl_store ?_ (fun K hK => ?_)); rfl; refine owp_store rfl st ?_; apply Exists.intro; apply Exists.intro; refine ⟨?_, ?_, ?_⟩; (focus (go_simp; try rfl)); (focus (go_simp; try rfl)); (first | (with_reducible refine ⟨0, _, _, _, _, get0, rfl, rfl, ?_, ?_, ?_, ?_⟩) | (with_reducible refine ⟨1, _, _, _, _, get1, rfl, rfl, ?_, ?_, ?_, ?_⟩) | (with_reducible refine ⟨2, _, _, _, _, get2, rfl, rfl, ?_, ?_, ?_, ?_⟩) | (with_reducible refine ⟨3, _, _, _, _, get3, rfl, rfl, ?_, ?_, ?_, ?_⟩)); (kernel_rfl); (simp [Value.cells]); (rfl); (clear st; intro w st))); (try simp only [nsl, Value.cells, unB] at st); (try clear hc); have hc := st.facts; (try simp only [nfl, nft, Nat.reduceAdd] at hc))
      refine (HNN.out _).mono ?_
      rintro en w ⟨rfl, hx⟩
      replace st := st.ext hx
      clear hx
      (try clear hc); have hc := st.facts; (try simp only [nfl, nft, Nat.reduceAdd] at hc)
      (try simp only [nsl, Value.cells, unB] at st)
      (try clear hc); have hc := st.facts; (try simp only [nfl, nft, Nat.reduceAdd] at hc)
      go_wp2_with ((first
            | ((with_reducible refine wl_box ?_ (fun K hK => ?_)); rfl; refine owp_box (o := ⟨some 1, _, _, _, _, _⟩) rfl st ?_; apply Exists.intro; refine ⟨?_, ?_⟩; (focus (go_simp; try rfl)); (clear st; intro b1 w hb st; clear hb))
            | ((with_reducible refine wl_alloc ?_ (fun K hK => ?_)); rfl; refine owp_alloc (o := ⟨some 5, _, _, _, _, _⟩) rfl st ?_; apply Exists.intro; apply Exists.intro; refine ⟨?_, ?_⟩; (focus (first | (go_simp; done) | (go_simp; rfl))); (clear st; intro b5 w hb st; clear hb))
            | ((with_reducible refine wl_store ?_ (fun K hK => ?_)); rfl; refine owp_store rfl st ?_; apply Exists.intro; apply Exists.intro; refine ⟨?_, ?_, ?_⟩; (focus (go_simp; try rfl)); (focus (go_simp; try rfl)); (first | (with_reducible refine ⟨0, _, _, _, _, get0, rfl, rfl, ?_, ?_, ?_, ?_⟩) | (with_reducible refine ⟨1, _, _, _, _, get1, rfl, rfl, ?_, ?_, ?_, ?_⟩) | (with_reducible refine ⟨2, _, _, _, _, get2, rfl, rfl, ?_, ?_, ?_, ?_⟩) | (with_reducible refine ⟨3, _, _, _, _, get3, rfl, rfl, ?_, ?_, ?_, ?_⟩)); (kernel_rfl); (simp [Value.cells]); (rfl); (clear st; intro w st))); (try simp only [nsl, Value.cells, unB] at st); (try clear hc); have hc := st.facts; (try simp only [nfl, nft, Nat.reduceAdd] at hc))
      go_loopg [3, 34] n (fun q s i wr => ∃ (j : Nat) (xs : List UInt8), j ≤ n ∧ q = n - j ∧ s = .string ⟨xs.toArray⟩ ∧ i = .int .i64 (j : Int) ∧ Hid (xs = pre ++ bytesL ((kids.take j).map Fm.strip)) ∧ Own (fun _ => False) (fun _ => True) W [oldI W, blkI b1 [.int .i64 4, .int .i64 k, .string ⟨o.toArray⟩, .string ⟨d.toArray⟩, .slice a n c]] wr)
      case atStart => exact ⟨0, pre, by omega, by omega, by (rw [HP.out]); try simp, rfl, Lib.hid (by simp [bytesL]), st⟩
      case round =>
        obtain ⟨j, xs, hj, rfl, rfl, rfl, HG, st'⟩ := hrel
        clear st hc HP
        have st := st'
        clear st'
        by_cases hjn : j < n
        · obtain ⟨b, off, ha, hcell⟩ := (st.oldFl (i := 0) get0 HOK.out.fl).fm (by omega)
          have hjl : j < kids.length := by have := HN.out; omega
          have hsn := bytesL_snoc' kids j hjl
          have hok := HOK.out.kids _ (List.getElem_mem hjl)
          have hih := HI.out _ (List.getElem_mem hjl)
          have hgt := List.getElem?_eq_getElem hjl
          generalize kids[j] = x at *
          obtain ⟨ys, hys⟩ : ∃ v, x.strip.bytes = v := ⟨_, rfl⟩
          have HC := Lib.hid (fun W' (hx : Ext W W') => hih W' (hok.ext hx))
          rw [hys] at HC hsn
          have HG2 : Hid (xs ++ ys = pre ++ bytesL ((kids.take (j + 1)).map Fm.strip)) := Lib.hid (by rw [hsn, HG.out, List.append_assoc])
          have hle := bytesL_take_le (kids.map Fm.strip) (j + 1)
          rw [← List.map_take, hsn, List.length_append] at hle
          have hvl := HVL.out
          rw [HV.out, List.length_append] at hvl
          have hgl : xs.length = pre.length + (bytesL ((kids.take j).map Fm.strip)).length := by rw [HG.out, List.length_append]
          have hl8 : xs.length ≤ 70000000 := by omega
          have hl9 : ys.length ≤ 70000000 := by omega
          clear hsn hih hjl hok hys hle hvl hgl
          obtain ⟨op', k', ⟨o', d'⟩, a', n', c', kids'⟩ := x
          obtain ⟨r0, r1, r2, r3, r4⟩ := hcell j op' k' (o', d') a' n' c' kids' hgt
          unfold fmV S at HC
          simp only at HC
          clear hcell hgt
          subst ha
          unfold S at r2 r3
          simp only at r2 r3
          (try simp only [nsl, Value.cells, unB] at st)
          (try clear hc); have hc := st.facts; (try simp only [nfl, nft, Nat.reduceAdd] at hc)
          go_wp2_with ((first
                | ((with_reducible refine wl_box ?_ (fun K hK => ?_)); rfl; refine owp_box (o := ⟨some 1, _, _, _, _, _⟩) rfl st ?_; apply Exists.intro; refine ⟨?_, ?_⟩; (focus (go_simp; try rfl)); (clear st; intro b1 w hb st; clear hb))
                | ((with_reducible refine wl_alloc ?_ (fun K hK => ?_)); rfl; refine owp_alloc (o := ⟨some 5, _, _, _, _, _⟩) rfl st ?_; apply Exists.intro; apply Exists.intro; refine ⟨?_, ?_⟩; (focus (first | (go_simp; done) | (go_simp; rfl))); (clear st; intro b5 w hb st; clear hb))
                | ((with_reducible refine wl_store ?_ (fun K hK => ?_)); rfl; refine owp_store rfl st ?_; apply Exists.intro; apply Exists.intro; refine ⟨?_, ?_, ?_⟩; (focus (go_simp; try rfl)); (focus (go_simp; try rfl)); (first | (with_reducible refine ⟨0, _, _, _, _, get0, rfl, rfl, ?_, ?_, ?_, ?_⟩) | (with_reducible refine ⟨1, _, _, _, _, get1, rfl, rfl, ?_, ?_, ?_, ?_⟩) | (with_reducible refine ⟨2, _, _, _, _, get2, rfl, rfl, ?_, ?_, ?_, ?_⟩) | (with_reducible refine ⟨3, _, _, _, _, get3, rfl, rfl, ?_, ?_, ?_, ?_⟩)); (kernel_rfl); (simp [Value.cells]); (rfl); (clear st; intro w st))); (try simp only [nsl, Value.cells, unB] at st); (try clear hc); have hc := st.facts; (try simp only [nfl, nft, Nat.reduceAdd] at hc))
          clear r0 r1 r2 r3 r4
          refine (HC.out _ st.ext0).mono ?_
          rintro en w ⟨rfl, hx⟩
          replace st := st.ext hx
          clear hx
          (try simp only [nsl, Value.cells, unB] at st)
          (try clear hc); have hc := st.facts; (try simp only [nfl, nft, Nat.reduceAdd] at hc)
          go_wp2_with fail
          have st' := st.keep [0, 1] (by decide) (by simp)
          go_roundg (n - (j + 1))
          case measure => omega
          case rel => exact ⟨j + 1, xs ++ ys, by omega, rfl, by first | rfl | simp, by go_num, HG2, by simpa [pick] using st'⟩
        · obtain rfl : n = j := by omega
          have H : Hid (v = xs) := Lib.hid (by rw [HV.out, HG.out, List.take_of_length_le (by have := HN.out; omega)])
          (try simp only [nsl, Value.cells, unB] at st)
          (try clear hc); have hc := st.facts; (try simp only [nfl, nft, Nat.reduceAdd] at hc)
          go_wp2_with fail
          go_ret
          exact ⟨by rw [H.out] <;> rfl, st.ext0⟩
    · have b4 : (op == 4) = false := by simpa using o4
      obtain ⟨p, hp⟩ : ∃ m : Nat, (m : Int) = op := ⟨op.toNat, by omega⟩
      have HV1 : Hid (v = numB p ++ numB n ++ bytesL (kids.map Fm.strip)) := Lib.hid (by rw [HV0.out, if_neg o1, if_neg o4, ← hp, Int.toNat_natCast]; simp [List.append_assoc])
      have HNO := Lib.hid (HNU.out p (by omega))
      rw [hp] at HNO
      have HNN := Lib.hid (HNU.out n (by omega))
      obtain ⟨pre, hpre⟩ : ∃ y, numB p ++ numB n = y := ⟨_, rfl⟩
      have HV : Hid (v = pre ++ bytesL (kids.map Fm.strip)) := Lib.hid (by rw [HV1.out, hpre])
      have HP : Hid (pre = numB p ++ numB n) := Lib.hid hpre.symm
      generalize numB p = x1 at *
      generalize numB n = x3 at *
      have hpl : x1.length + x3.length ≤ 70000000 := by have := HVL.out; rw [HV.out, HP.out, List.length_append, List.length_append] at this; omega
      have hl1 : x1.length ≤ 70000000 := by omega
      have hl3 : x3.length ≤ 70000000 := by omega
      clear HV0 HV1 hpre ho hk HNU o1 HRo hp o4
      go_wp2_with ((first
            | ((with_reducible refine wl_box ?_ (fun K hK => ?_)); rfl; refine owp_box (o := ⟨some 1, _, _, _, _, _⟩) rfl st ?_; apply Exists.intro; refine ⟨?_, ?_⟩; (focus (go_simp; try rfl)); (clear st; intro b1 w hb st; clear hb))
            | ((with_reducible refine wl_alloc ?_ (fun K hK => ?_)); rfl; refine owp_alloc (o := ⟨some 5, _, _, _, _, _⟩) rfl st ?_; apply Exists.intro; apply Exists.intro; refine ⟨?_, ?_⟩; (focus (first | (go_simp; done) | (go_simp; rfl))); (clear st; intro b5 w hb st; clear hb))
            | ((with_reducible refine wl_store ?_ (fun K hK => ?_)); rfl; refine owp_store rfl st ?_; apply Exists.intro; apply Exists.intro; refine ⟨?_, ?_, ?_⟩; (focus (go_simp; try rfl)); (focus (go_simp; try rfl)); (first | (with_reducible refine ⟨0, _, _, _, _, get0, rfl, rfl, ?_, ?_, ?_, ?_⟩) | (with_reducible refine ⟨1, _, _, _, _, get1, rfl, rfl, ?_, ?_, ?_, ?_⟩) | (with_reducible refine ⟨2, _, _, _, _, get2, rfl, rfl, ?_, ?_, ?_, ?_⟩) | (with_reducible refine ⟨3, _, _, _, _, get3, rfl, rfl, ?_, ?_, ?_, ?_⟩)); (kernel_rfl); (simp [Value.cells]); (rfl); (clear st; intro w st))); (try simp only [nsl, Value.cells, unB] at st); (try clear hc); have hc := st.facts; (try simp only [nfl, nft, Nat.reduceAdd] at hc))
      refine (HNO.out _).mono ?_
      rintro en w ⟨rfl, hx⟩
      replace st := st.ext hx
      clear hx
      (try clear hc); have hc := st.facts; (try simp only [nfl, nft, Nat.reduceAdd] at hc)
      go_wp2_with ((first
            | ((with_reducible refine wl_box ?_ (fun K hK => ?_)); rfl; refine owp_box (o := ⟨some 1, _, _, _, _, _⟩) rfl st ?_; apply Exists.intro; refine ⟨?_, ?_⟩; (focus (go_simp; try rfl)); (clear st; intro b1 w hb st; clear hb))
            | ((with_reducible refine wl_alloc ?_ (fun K hK => ?_)); rfl; refine owp_alloc (o := ⟨some 5, _, _, _, _, _⟩) rfl st ?_; apply Exists.intro; apply Exists.intro; refine ⟨?_, ?_⟩; (focus (first | (go_simp; done) | (go_simp; rfl))); (clear st; intro b5 w hb st; clear hb))
            | ((with_reducible refine wl_store ?_ (fun K hK => ?_)); rfl; refine owp_store rfl st ?_; apply Exists.intro; apply Exists.intro; refine ⟨?_, ?_, ?_⟩; (focus (go_simp; try rfl)); (focus (go_simp; try rfl)); (first | (with_reducible refine ⟨0, _, _, _, _, get0, rfl, rfl, ?_, ?_, ?_, ?_⟩) | (with_reducible refine ⟨1, _, _, _, _, get1, rfl, rfl, ?_, ?_, ?_, ?_⟩) | (with_reducible refine ⟨2, _, _, _, _, get2, rfl, rfl, ?_, ?_, ?_, ?_⟩) | (with_reducible refine ⟨3, _, _, _, _, get3, rfl, rfl, ?_, ?_, ?_, ?_⟩)); (kernel_rfl); (simp [Value.cells]); (rfl); (clear st; intro w st))); (try simp only [nsl, Value.cells, unB] at st); (try clear hc); have hc := st.facts; (try simp only [nfl, nft, Nat.reduceAdd] at hc))
      refine (HNN.out _).mono ?_
      rintro en w ⟨rfl, hx⟩
      replace st := st.ext hx
      clear hx
      (try clear hc); have hc := st.facts; (try simp only [nfl, nft, Nat.reduceAdd] at hc)
      (try simp only [nsl, Value.cells, unB] at st)
      (try clear hc); have hc := st.facts; (try simp only [nfl, nft, Nat.reduceAdd] at hc)
      go_wp2_with ((first
            | ((with_reducible refine wl_box ?_ (fun K hK => ?_)); rfl; refine owp_box (o := ⟨some 1, _, _, _, _, _⟩) rfl st ?_; apply Exists.intro; refine ⟨?_, ?_⟩; (focus (go_simp; try rfl)); (clear st; intro b1 w hb st; clear hb))
            | ((with_reducible refine wl_alloc ?_ (fun K hK => ?_)); rfl; refine owp_alloc (o := ⟨some 5, _, _, _, _, _⟩) rfl st ?_; apply Exists.intro; apply Exists.intro; refine ⟨?_, ?_⟩; (focus (first | (go_simp; done) | (go_simp; rfl))); (clear st; intro b5 w hb st; clear hb))
            | ((with_reducible refine wl_store ?_ (fun K hK => ?_)); rfl; refine owp_store rfl st ?_; apply Exists.intro; apply Exists.intro; refine ⟨?_, ?_, ?_⟩; (focus (go_simp; try rfl)); (focus (go_simp; try rfl)); (first | (with_reducible refine ⟨0, _, _, _, _, get0, rfl, rfl, ?_, ?_, ?_, ?_⟩) | (with_reducible refine ⟨1, _, _, _, _, get1, rfl, rfl, ?_, ?_, ?_, ?_⟩) | (with_reducible refine ⟨2, _, _, _, _, get2, rfl, rfl, ?_, ?_, ?_, ?_⟩) | (with_reducible refine ⟨3, _, _, _, _, get3, rfl, rfl, ?_, ?_, ?_, ?_⟩)); (kernel_rfl); (simp [Value.cells]); (rfl); (clear st; intro w st))); (try simp only [nsl, Value.cells, unB] at st); (try clear hc); have hc := st.facts; (try simp only [nfl, nft, Nat.reduceAdd] at hc))
      go_loopg [3, 34] n (fun q s i wr => ∃ (j : Nat) (xs : List UInt8), j ≤ n ∧ q = n - j ∧ s = .string ⟨xs.toArray⟩ ∧ i = .int .i64 (j : Int) ∧ Hid (xs = pre ++ bytesL ((kids.take j).map Fm.strip)) ∧ Own (fun _ => False) (fun _ => True) W [oldI W, blkI b1 [.int .i64 op, .int .i64 k, .string ⟨o.toArray⟩, .string ⟨d.toArray⟩, .slice a n c]] wr)
      case atStart => exact ⟨0, pre, by omega, by omega, by (rw [HP.out]); try simp, rfl, Lib.hid (by simp [bytesL]), st⟩
      case round =>
        obtain ⟨j, xs, hj, rfl, rfl, rfl, HG, st'⟩ := hrel
        clear st hc HP
        have st := st'
        clear st'
        by_cases hjn : j < n
        · obtain ⟨b, off, ha, hcell⟩ := (st.oldFl (i := 0) get0 HOK.out.fl).fm (by omega)
          have hjl : j < kids.length := by have := HN.out; omega
          have hsn := bytesL_snoc' kids j hjl
          have hok := HOK.out.kids _ (List.getElem_mem hjl)
          have hih := HI.out _ (List.getElem_mem hjl)
          have hgt := List.getElem?_eq_getElem hjl
          generalize kids[j] = x at *
          obtain ⟨ys, hys⟩ : ∃ v, x.strip.bytes = v := ⟨_, rfl⟩
          have HC := Lib.hid (fun W' (hx : Ext W W') => hih W' (hok.ext hx))
          rw [hys] at HC hsn
          have HG2 : Hid (xs ++ ys = pre ++ bytesL ((kids.take (j + 1)).map Fm.strip)) := Lib.hid (by rw [hsn, HG.out, List.append_assoc])
          have hle := bytesL_take_le (kids.map Fm.strip) (j + 1)
          rw [← List.map_take, hsn, List.length_append] at hle
          have hvl := HVL.out
          rw [HV.out, List.length_append] at hvl
          have hgl : xs.length = pre.length + (bytesL ((kids.take j).map Fm.strip)).length := by rw [HG.out, List.length_append]
          have hl8 : xs.length ≤ 70000000 := by omega
          have hl9 : ys.length ≤ 70000000 := by omega
          clear hsn hih hjl hok hys hle hvl hgl
          obtain ⟨op', k', ⟨o', d'⟩, a', n', c', kids'⟩ := x
          obtain ⟨r0, r1, r2, r3, r4⟩ := hcell j op' k' (o', d') a' n' c' kids' hgt
          unfold fmV S at HC
          simp only at HC
          clear hcell hgt
          subst ha
          unfold S at r2 r3
          simp only at r2 r3
          (try simp only [nsl, Value.cells, unB] at st)
          (try clear hc); have hc := st.facts; (try simp only [nfl, nft, Nat.reduceAdd] at hc)
          go_wp2_with ((first
                | ((with_reducible refine wl_box ?_ (fun K hK => ?_)); rfl; refine owp_box (o := ⟨some 1, _, _, _, _, _⟩) rfl st ?_; apply Exists.intro; refine ⟨?_, ?_⟩; (focus (go_simp; try rfl)); (clear st; intro b1 w hb st; clear hb))
                | ((with_reducible refine wl_alloc ?_ (fun K hK => ?_)); rfl; refine owp_alloc (o := ⟨some 5, _, _, _, _, _⟩) rfl st ?_; apply Exists.intro; apply Exists.intro; refine ⟨?_, ?_⟩; (focus (first | (go_simp; done) | (go_simp; rfl))); (clear st; intro b5 w hb st; clear hb))
                | ((with_reducible refine wl_store ?_ (fun K hK => ?_)); rfl; refine owp_store rfl st ?_; apply Exists.intro; apply Exists.intro; refine ⟨?_, ?_, ?_⟩; (focus (go_simp; try rfl)); (focus (go_simp; try rfl)); (first | (with_reducible refine ⟨0, _, _, _, _, get0, rfl, rfl, ?_, ?_, ?_, ?_⟩) | (with_reducible refine ⟨1, _, _, _, _, get1, rfl, rfl, ?_, ?_, ?_, ?_⟩) | (with_reducible refine ⟨2, _, _, _, _, get2, rfl, rfl, ?_, ?_, ?_, ?_⟩) | (with_reducible refine ⟨3, _, _, _, _, get3, rfl, rfl, ?_, ?_, ?_, ?_⟩)); (kernel_rfl); (simp [Value.cells]); (rfl); (clear st; intro w st))); (try simp only [nsl, Value.cells, unB] at st); (try clear hc); have hc := st.facts; (try simp only [nfl, nft, Nat.reduceAdd] at hc))
          clear r0 r1 r2 r3 r4
          refine (HC.out _ st.ext0).mono ?_
          rintro en w ⟨rfl, hx⟩
          replace st := st.ext hx
          clear hx
          (try simp only [nsl, Value.cells, unB] at st)
          (try clear hc); have hc := st.facts; (try simp only [nfl, nft, Nat.reduceAdd] at hc)
          go_wp2_with fail
          have st' := st.keep [0, 1] (by decide) (by simp)
          go_roundg (n - (j + 1))
          case measure => omega
          case rel => exact ⟨j + 1, xs ++ ys, by omega, rfl, by first | rfl | simp, by go_num, HG2, by simpa [pick] using st'⟩
        · obtain rfl : n = j := by omega
          have H : Hid (v = xs) := Lib.hid (by rw [HV.out, HG.out, List.take_of_length_le (by have := HN.out; omega)])
          (try simp only [nsl, Value.cells, unB] at st)
          (try clear hc); have hc := st.facts; (try simp only [nfl, nft, Nat.reduceAdd] at hc)
          go_wp2_with fail
          go_ret
          exact ⟨by rw [H.out] <;> rfl, st.ext0⟩
end Go.Proofs.Ythjaopojlhdjpaa

namespace Go.Proofs.Ythjaopojlhdjpaa
set_option linter.unusedSimpArgs false
set_option linter.unusedVariables false
open Go Go.RowKit
theorem foR_p3 {f : Fo} (h : foR f = true) : f.nodes ≤ 64 ∧ f.well = true := by
  unfold foR at h
  simp only [Bool.and_eq_true, decide_eq_true_eq] at h
  exact ⟨h.1.1, h.2⟩
theorem less_ne {x y : List UInt8} (h : Op.bytesLess y x = true) : (x == y) = false := by
  cases q : x == y with
  | false => rfl
  | true =>
    have e : x = y := by simpa using q
    subst e
    have := (strOrd fun _ => true).irr x
    unfold strLt at this
    rw [h] at this
    cases this
theorem less_eq {x y : List UInt8} (h1 : Op.bytesLess x y = false) (h2 : Op.bytesLess y x = false) : (x == y) = true := by
  have e : x = y := by
    rcases (strOrd fun _ => true).tri x y rfl rfl with h | h | h
    · unfold strLt at h; rw [h1] at h; cases h
    · exact h
    · unfold strLt at h; rw [h2] at h; cases h
  subst e
  simp
set_option maxRecDepth 100000 in
set_option maxHeartbeats 4000000 in
theorem refCompare11_any (f g : Fm) (W : World) (hf : FmOk W f) (hg : FmOk W g) (hs : f.strip.nodes ≤ 1000000000) (hs2 : g.strip.nodes ≤ 1000000000) (hl : FoL 100000 f.strip) (hl2 : FoL 100000 g.strip) :
    Calls Try.prog 126 #[fmV f, fmV g] W fun e w' => e = .returned (.int .i64 (cmp2 (wrF f.strip) (wrF g.strip))) ∧ Ext W w' := by
  have HR1 := Lib.hid (fun W' (hx : Ext W W') => refRight11_any f W' (hf.ext hx) hs hl)
  have HR2 := Lib.hid (fun W' (hx : Ext W W') => refRight11_any g W' (hg.ext hx) hs2 hl2)
  have HB1 := Lib.hid (fun (h : foR f.strip = true) W' (hx : Ext W W') => refBytes11_any f W' (hf.ext hx) hl (foR_p3 h).2 (by have := (foR_p3 h).1; omega))
  have HB2 := Lib.hid (fun (h : foR g.strip = true) W' (hx : Ext W W') => refBytes11_any g W' (hg.ext hx) hl2 (foR_p3 h).2 (by have := (foR_p3 h).1; omega))
  have HW1 : Hid (wrF f.strip = if foR f.strip = true then f.strip.bytes else []) := Lib.hid rfl
  have HW2 : Hid (wrF g.strip = if foR g.strip = true then g.strip.bytes else []) := Lib.hid rfl
  generalize foR f.strip = v1 at *
  generalize foR g.strip = v2 at *
  generalize wrF f.strip = w1 at *
  generalize wrF g.strip = w2 at *
  obtain ⟨cv, hcv⟩ : ∃ y, cmp2 w1 w2 = y := ⟨_, rfl⟩
  rw [hcv]
  have HCV : Hid (cv = cmp2 w1 w2) := Lib.hid hcv.symm
  clear hcv
  generalize f.strip.bytes = x at *
  generalize g.strip.bytes = y at *
  clear hf hg hs hs2 hl hl2
  obtain ⟨op, k, ⟨o, d⟩, a, n, c, kids⟩ := f
  obtain ⟨op2, k2, ⟨o2, d2⟩, a2, n2, c2, kids2⟩ := g
  have st := Own.startOld W
  unfold fmV S at HR1 HR2 HB1 HB2 ⊢
  simp only at HR1 HR2 HB1 HB2 ⊢
  (try simp only [nsl, Value.cells, unB] at st)
  (try clear hc); have hc := st.facts; (try simp only [nfl, nft, Nat.reduceAdd] at hc)
  go_enter Try.func126, Try.ntmps126
  go_wp2_with ((first
        | ((with_reducible refine wl_box ?_ (fun K hK => ?_)); rfl; refine owp_box (o := ⟨some 2, _, _, _, _, _⟩) rfl st ?_; apply Exists.intro; refine ⟨?_, ?_⟩; (focus (go_simp; try rfl)); (clear st; intro b2 w hb st; clear hb))
        | ((with_reducible refine wl_box ?_ (fun K hK => ?_)); rfl; refine owp_box (o := ⟨some 3, _, _, _, _, _⟩) rfl st ?_; apply Exists.intro; refine ⟨?_, ?_⟩; (focus (go_simp; try rfl)); (clear st; intro b3 w hb st; clear hb))); (try simp only [nsl, Value.cells, unB] at st); (try clear hc); have hc := st.facts; (try simp only [nfl, nft, Nat.reduceAdd] at hc))
  refine (HR1.out _ st.ext0).mono ?_
  rintro en w ⟨rfl, hx⟩
  replace st := st.ext hx
  clear hx
  (try clear hc); have hc := st.facts; (try simp only [nfl, nft, Nat.reduceAdd] at hc)
  cases v1 with
  | true =>
    go_wp2_with ((first
          | ((with_reducible refine wl_box ?_ (fun K hK => ?_)); rfl; refine owp_box (o := ⟨some 2, _, _, _, _, _⟩) rfl st ?_; apply Exists.intro; refine ⟨?_, ?_⟩; (focus (go_simp; try rfl)); (clear st; intro b2 w hb st; clear hb))
          | ((with_reducible refine wl_box ?_ (fun K hK => ?_)); rfl; refine owp_box (o := ⟨some 3, _, _, _, _, _⟩) rfl st ?_; apply Exists.intro; refine ⟨?_, ?_⟩; (focus (go_simp; try rfl)); (clear st; intro b3 w hb st; clear hb))); (try simp only [nsl, Value.cells, unB] at st); (try clear hc); have hc := st.facts; (try simp only [nfl, nft, Nat.reduceAdd] at hc))
    refine (HB1.out trivial _ st.ext0).mono ?_
    rintro en w ⟨rfl, hx⟩
    replace st := st.ext hx
    clear hx
    (try clear hc); have hc := st.facts; (try simp only [nfl, nft, Nat.reduceAdd] at hc)
    go_wp2_with ((first
          | ((with_reducible refine wl_box ?_ (fun K hK => ?_)); rfl; refine owp_box (o := ⟨some 2, _, _, _, _, _⟩) rfl st ?_; apply Exists.intro; refine ⟨?_, ?_⟩; (focus (go_simp; try rfl)); (clear st; intro b2 w hb st; clear hb))
          | ((with_reducible refine wl_box ?_ (fun K hK => ?_)); rfl; refine owp_box (o := ⟨some 3, _, _, _, _, _⟩) rfl st ?_; apply Exists.intro; refine ⟨?_, ?_⟩; (focus (go_simp; try rfl)); (clear st; intro b3 w hb st; clear hb))); (try simp only [nsl, Value.cells, unB] at st); (try clear hc); have hc := st.facts; (try simp only [nfl, nft, Nat.reduceAdd] at hc))
    refine (HR2.out _ st.ext0).mono ?_
    rintro en w ⟨rfl, hx⟩
    replace st := st.ext hx
    clear hx
    (try clear hc); have hc := st.facts; (try simp only [nfl, nft, Nat.reduceAdd] at hc)
    cases v2 with
    | true =>
      go_wp2_with ((first
            | ((with_reducible refine wl_box ?_ (fun K hK => ?_)); rfl; refine owp_box (o := ⟨some 2, _, _, _, _, _⟩) rfl st ?_; apply Exists.intro; refine ⟨?_, ?_⟩; (focus (go_simp; try rfl)); (clear st; intro b2 w hb st; clear hb))
            | ((with_reducible refine wl_box ?_ (fun K hK => ?_)); rfl; refine owp_box (o := ⟨some 3, _, _, _, _, _⟩) rfl st ?_; apply Exists.intro; refine ⟨?_, ?_⟩; (focus (go_simp; try rfl)); (clear st; intro b3 w hb st; clear hb))); (try simp only [nsl, Value.cells, unB] at st); (try clear hc); have hc := st.facts; (try simp only [nfl, nft, Nat.reduceAdd] at hc))
      refine (HB2.out trivial _ st.ext0).mono ?_
      rintro en w ⟨rfl, hx⟩
      replace st := st.ext hx
      clear hx
      (try clear hc); have hc := st.facts; (try simp only [nfl, nft, Nat.reduceAdd] at hc)
      have hcv : cv = cmp2 x y := by rw [HCV.out, HW1.out, HW2.out]; rfl
      clear HW1 HW2 HCV
      unfold cmp2 strLt at hcv
      cases p1 : Op.bytesLess x y with
      | true =>
        have H : Hid (cv = -1) := Lib.hid (by rw [hcv, p1]; rfl)
        clear hcv
        (try simp only [nsl, Value.cells, unB] at st)
        (try clear hc); have hc := st.facts; (try simp only [nfl, nft, Nat.reduceAdd] at hc)
        go_wp2_with fail
        go_ret
        exact ⟨by rw [H.out] <;> rfl, st.ext0⟩
      | false =>
        cases p2 : Op.bytesLess y x with
        | true =>
          have H : Hid (cv = 1) := Lib.hid (by rw [hcv, p1, p2]; rfl)
          have p3 := less_ne p2
          clear hcv
          (try simp only [nsl, Value.cells, unB] at st)
          (try clear hc); have hc := st.facts; (try simp only [nfl, nft, Nat.reduceAdd] at hc)
          go_wp2_with fail
          go_ret
          exact ⟨by rw [H.out] <;> rfl, st.ext0⟩
        | false =>
          have H : Hid (cv = 0) := Lib.hid (by rw [hcv, p1, p2]; rfl)
          have p3 := less_eq p1 p2
          clear hcv
          (try simp only [nsl, Value.cells, unB] at st)
          (try clear hc); have hc := st.facts; (try simp only [nfl, nft, Nat.reduceAdd] at hc)
          go_wp2_with fail
          go_ret
          exact ⟨by rw [H.out] <;> rfl, st.ext0⟩
    | false =>
      have hcv : cv = cmp2 x [] := by rw [HCV.out, HW1.out, HW2.out]; rfl
      clear HW1 HW2 HCV
      unfold cmp2 strLt at hcv
      cases p1 : Op.bytesLess x [] with
      | true =>
        have H : Hid (cv = -1) := Lib.hid (by rw [hcv, p1]; rfl)
        clear hcv
        (try simp only [nsl, Value.cells, unB] at st)
        (try clear hc); have hc := st.facts; (try simp only [nfl, nft, Nat.reduceAdd] at hc)
        go_wp2_with fail
        go_ret
        exact ⟨by rw [H.out] <;> rfl, st.ext0⟩
      | false =>
        cases p2 : Op.bytesLess [] x with
        | true =>
          have H : Hid (cv = 1) := Lib.hid (by rw [hcv, p1, p2]; rfl)
          have p3 := less_ne p2
          clear hcv
          (try simp only [nsl, Value.cells, unB] at st)
          (try clear hc); have hc := st.facts; (try simp only [nfl, nft, Nat.reduceAdd] at hc)
          go_wp2_with fail
          go_ret
          exact ⟨by rw [H.out] <;> rfl, st.ext0⟩
        | false =>
          have H : Hid (cv = 0) := Lib.hid (by rw [hcv, p1, p2]; rfl)
          have p3 := less_eq p1 p2
          clear hcv
          (try simp only [nsl, Value.cells, unB] at st)
          (try clear hc); have hc := st.facts; (try simp only [nfl, nft, Nat.reduceAdd] at hc)
          go_wp2_with fail
          go_ret
          exact ⟨by rw [H.out] <;> rfl, st.ext0⟩
  | false =>
    go_wp2_with ((first
          | ((with_reducible refine wl_box ?_ (fun K hK => ?_)); rfl; refine owp_box (o := ⟨some 2, _, _, _, _, _⟩) rfl st ?_; apply Exists.intro; refine ⟨?_, ?_⟩; (focus (go_simp; try rfl)); (clear st; intro b2 w hb st; clear hb))
          | ((with_reducible refine wl_box ?_ (fun K hK => ?_)); rfl; refine owp_box (o := ⟨some 3, _, _, _, _, _⟩) rfl st ?_; apply Exists.intro; refine ⟨?_, ?_⟩; (focus (go_simp; try rfl)); (clear st; intro b3 w hb st; clear hb))); (try simp only [nsl, Value.cells, unB] at st); (try clear hc); have hc := st.facts; (try simp only [nfl, nft, Nat.reduceAdd] at hc))
    refine (HR2.out _ st.ext0).mono ?_
    rintro en w ⟨rfl, hx⟩
    replace st := st.ext hx
    clear hx
    (try clear hc); have hc := st.facts; (try simp only [nfl, nft, Nat.reduceAdd] at hc)
    cases v2 with
    | true =>
      go_wp2_with ((first
            | ((with_reducible refine wl_box ?_ (fun K hK => ?_)); rfl; refine owp_box (o := ⟨some 2, _, _, _, _, _⟩) rfl st ?_; apply Exists.intro; refine ⟨?_, ?_⟩; (focus (go_simp; try rfl)); (clear st; intro b2 w hb st; clear hb))
            | ((with_reducible refine wl_box ?_ (fun K hK => ?_)); rfl; refine owp_box (o := ⟨some 3, _, _, _, _, _⟩) rfl st ?_; apply Exists.intro; refine ⟨?_, ?_⟩; (focus (go_simp; try rfl)); (clear st; intro b3 w hb st; clear hb))); (try simp only [nsl, Value.cells, unB] at st); (try clear hc); have hc := st.facts; (try simp only [nfl, nft, Nat.reduceAdd] at hc))
      refine (HB2.out trivial _ st.ext0).mono ?_
      rintro en w ⟨rfl, hx⟩
      replace st := st.ext hx
      clear hx
      (try clear hc); have hc := st.facts; (try simp only [nfl, nft, Nat.reduceAdd] at hc)
      have hcv : cv = cmp2 [] y := by rw [HCV.out, HW1.out, HW2.out]; rfl
      clear HW1 HW2 HCV
      unfold cmp2 strLt at hcv
      cases p1 : Op.bytesLess [] y with
      | true =>
        have H : Hid (cv = -1) := Lib.hid (by rw [hcv, p1]; rfl)
        clear hcv
        (try simp only [nsl, Value.cells, unB] at st)
        (try clear hc); have hc := st.facts; (try simp only [nfl, nft, Nat.reduceAdd] at hc)
        go_wp2_with fail
        go_ret
        exact ⟨by rw [H.out] <;> rfl, st.ext0⟩
      | false =>
        cases p2 : Op.bytesLess y [] with
        | true =>
          have H : Hid (cv = 1) := Lib.hid (by rw [hcv, p1, p2]; rfl)
          have p3 := less_ne p2
          clear hcv
          (try simp only [nsl, Value.cells, unB] at st)
          (try clear hc); have hc := st.facts; (try simp only [nfl, nft, Nat.reduceAdd] at hc)
          go_wp2_with fail
          go_ret
          exact ⟨by rw [H.out] <;> rfl, st.ext0⟩
        | false =>
          have H : Hid (cv = 0) := Lib.hid (by rw [hcv, p1, p2]; rfl)
          have p3 := less_eq p1 p2
          clear hcv
          (try simp only [nsl, Value.cells, unB] at st)
          (try clear hc); have hc := st.facts; (try simp only [nfl, nft, Nat.reduceAdd] at hc)
          go_wp2_with fail
          go_ret
          exact ⟨by rw [H.out] <;> rfl, st.ext0⟩
    | false =>
      have H : Hid (cv = 0) := Lib.hid (by rw [HCV.out, HW1.out, HW2.out]; rfl)
      (try simp only [nsl, Value.cells, unB] at st)
      (try clear hc); have hc := st.facts; (try simp only [nfl, nft, Nat.reduceAdd] at hc)
      go_wp2_with fail
      go_ret
      exact ⟨by rw [H.out] <;> rfl, st.ext0⟩
end Go.Proofs.Ythjaopojlhdjpaa

namespace Go.Proofs.Ythjaopojlhdjpaa
set_option linter.unusedSimpArgs false
set_option linter.unusedVariables false
open Go Go.RowKit
theorem fm_cells {zs : List Fm} {j : Nat} {op k : Int} {o d : List UInt8} {fa : Option Addr} {fn fc : Nat} {kids : List Fm} (h : zs[j]? = some (.mk op k (o, d) fa fn fc kids)) :
    (cellsL zs)[j * 5]? = some (.int .i64 op) ∧ (cellsL zs)[j * 5 + 1]? = some (.int .i64 k) ∧ (cellsL zs)[j * 5 + 2]? = some (.string ⟨o.toArray⟩) ∧ (cellsL zs)[j * 5 + 3]? = some (.string ⟨d.toArray⟩) ∧ (cellsL zs)[j * 5 + 4]? = some (.slice fa fn fc) :=
  ⟨cellsL_get (j := 0) h (by decide), cellsL_get (j := 1) h (by decide), cellsL_get (j := 2) h (by decide), cellsL_get (j := 3) h (by decide), cellsL_get (j := 4) h (by decide)⟩
theorem fm_store {zs : List Fm} {j : Nat} (hj : j < zs.length) (op k : Int) (o d : List UInt8) (fa : Option Addr) (fn fc : Nat) (kids : List Fm) :
    spl (cellsL zs) (j * 5) [.int .i64 op, .int .i64 k, .string ⟨o.toArray⟩, .string ⟨d.toArray⟩, .slice fa fn fc] = cellsL (zs.set j (.mk op k (o, d) fa fn fc kids)) := cellsL_set zs j (.mk op k (o, d) fa fn fc kids) hj
theorem swap_pq {α : Type} (A B C : List α) (u v : α) : ((A ++ u :: (B ++ v :: C)).set A.length v).set (A.length + 1 + B.length) u = A ++ v :: (B ++ u :: C) := by
  rw [List.set_append_right _ _ (Nat.le_refl _), Nat.sub_self, List.set_cons_zero, List.set_append_right _ _ (by omega), show A.length + 1 + B.length - A.length = B.length + 1 by omega, List.set_cons_succ, List.set_append_right _ _ (Nat.le_refl _), Nat.sub_self, List.set_cons_zero]
theorem swap_qp {α : Type} (A B C : List α) (u v : α) : ((A ++ u :: (B ++ v :: C)).set (A.length + 1 + B.length) u).set A.length v = A ++ v :: (B ++ u :: C) := by
  rw [List.set_comm _ _ (by omega), swap_pq]
theorem at_p {α : Type} (A B C : List α) (u v : α) : (A ++ u :: (B ++ v :: C))[A.length]? = some u := by simp
theorem at_q {α : Type} (A B C : List α) (u v : α) : (A ++ u :: (B ++ v :: C))[A.length + 1 + B.length]? = some v := by
  rw [List.getElem?_append_right (by omega), show A.length + 1 + B.length - A.length = B.length + 1 by omega, List.getElem?_cons_succ, List.getElem?_append_right (Nat.le_refl _)]; simp
theorem Own.rowLen {fr al : Nat → Prop} {w0 w : World} {L : List It} (st : Own fr al w0 L w) {i n : Nat} {E : TypeId} {v : Value} {zs : List Fm} (hi : L[i]? = some (rowI E 5 v n (cellsL zs))) : n = zs.length := by
  have := (st.row hi).1
  rw [cellsL_len, show Flt.k Fm = 5 from rfl] at this
  omega
set_option maxRecDepth 100000 in
set_option maxHeartbeats 4000000 in
theorem swapRange_c {fr al : Nat → Prop} {W : World} {g n c : Nat} (F : Value) (base P X M Y S : List Fm) (a b m : Nat) (ha : a = P.length) (hb : b = P.length + X.length + M.length) (hx : X.length = m) (hy : Y.length = m)
    (st : Own fr al W [rowI 26 5 (.slice (some ⟨g, 0, none⟩) n c) n (cellsL (P ++ (X ++ (M ++ (Y ++ S))))), fmsI base] W) (hn : n ≤ 2000000) :
    Calls Try.prog 184 #[.slice (some ⟨g, 0, none⟩) n c, .int .i64 (a : Int), .int .i64 (b : Int), .int .i64 (m : Int), F] W fun e w' => e = .returned (.tuple #[]) ∧ Own fr al W [rowI 26 5 (.slice (some ⟨g, 0, none⟩) n c) n (cellsL (P ++ (Y ++ (M ++ (X ++ S))))), fmsI base] w' := by
  have hlen := st.rowLen (i := 0) get0
  simp only [List.length_append] at hlen
  have hbm : b + m ≤ n ∧ a + m ≤ b := by omega
  have HA := Lib.hid ha
  have HB := Lib.hid hb
  have HX := Lib.hid hx
  have HY := Lib.hid hy
  have HL := Lib.hid hlen
  clear ha hb hx hy hlen
  (try simp only [nsl, Value.cells, unB] at st)
  (try clear hc); have hc := st.facts; (try simp only [nfl, nft, Nat.reduceAdd] at hc)
  go_enter Try.func184, Try.ntmps184
  go_wp2_with fail
  go_loopg [10] m (fun q i wr => ∃ (j : Nat) (zs : List Fm), j ≤ m ∧ q = m - j ∧ i = .int .i64 (j : Int) ∧ Hid (zs = P ++ ((Y.take j ++ X.drop j) ++ (M ++ ((X.take j ++ Y.drop j) ++ S)))) ∧ Own fr al W [rowI 26 5 (.slice (some ⟨g, 0, none⟩) n c) n (cellsL zs), fmsI base] wr)
  case atStart => exact ⟨0, _, by omega, by omega, rfl, Lib.hid (by simp), st⟩
  case round =>
    obtain ⟨j, zs, hj, rfl, rfl, HZ, st'⟩ := hrel
    clear st hc
    have st := st'
    clear st'
    by_cases hjm : j < m
    · have hjx : j < X.length := by have := HX.out; omega
      have hjy : j < Y.length := by have := HY.out; omega
      have hzl := st.rowLen (i := 0) get0
      obtain ⟨u, hu⟩ : ∃ u, X[j] = u := ⟨_, rfl⟩
      obtain ⟨v, hv⟩ : ∃ v, Y[j] = v := ⟨_, rfl⟩
      have e1 : X.drop j = u :: X.drop (j + 1) := by rw [List.drop_eq_getElem_cons hjx, hu]
      have e2 : Y.drop j = v :: Y.drop (j + 1) := by rw [List.drop_eq_getElem_cons hjy, hv]
      have e3 : X.take (j + 1) = X.take j ++ [u] := by rw [← hu]; exact (List.take_append_getElem hjx).symm
      have e4 : Y.take (j + 1) = Y.take j ++ [v] := by rw [← hv]; exact (List.take_append_getElem hjy).symm
      have hz : zs = (P ++ Y.take j) ++ u :: ((X.drop (j + 1) ++ (M ++ X.take j)) ++ v :: (Y.drop (j + 1) ++ S)) := by rw [HZ.out, e1, e2]; simp
      obtain ⟨p, hp⟩ : ∃ p, a + j = p := ⟨_, rfl⟩
      obtain ⟨q, hq⟩ : ∃ q, b + j = q := ⟨_, rfl⟩
      have hpl : p = (P ++ Y.take j).length := by have := HA.out; simp; omega
      have hql : q = (P ++ Y.take j).length + 1 + (X.drop (j + 1) ++ (M ++ X.take j)).length := by have := HB.out; have := HX.out; simp; omega
      have hzp : zs[p]? = some u := by rw [hz, hpl]; exact at_p _ _ _ _ _
      have hzq : zs[q]? = some v := by rw [hz, hql]; exact at_q _ _ _ _ _
      have hpz : p < zs.length := (List.getElem?_eq_some_iff.1 hzp).1
      have hqz : q < zs.length := (List.getElem?_eq_some_iff.1 hzq).1
      have HN : Hid ((zs.set p v).set q u = P ++ ((Y.take (j + 1) ++ X.drop (j + 1)) ++ (M ++ ((X.take (j + 1) ++ Y.drop (j + 1)) ++ S)))) := Lib.hid (by rw [hz, hpl, hql, swap_pq, e3, e4]; simp)
      have hpn : p < n := by omega
      have hqn : q < n := by omega
      have w1 : IntKind.i64.wrap ((a : Int) + (j : Int)) = (p : Int) := by rw [← hp]; exact IntWalk.i64_in _ ⟨by omega, by omega⟩
      have w2 : IntKind.i64.wrap ((b : Int) + (j : Int)) = (q : Int) := by rw [← hq]; exact IntWalk.i64_in _ ⟨by omega, by omega⟩
      clear e1 e2 e3 e4 hz hu hv hpl hql hp hq hzl
      obtain ⟨op, k, ⟨o, d⟩, fa, fn, fc, kids⟩ := u
      obtain ⟨op2, k2, ⟨o2, d2⟩, fa2, fn2, fc2, kids2⟩ := v
      have HU := Lib.hid (fm_cells hzp)
      have HV := Lib.hid (fm_cells hzq)
      have HS1 := Lib.hid (fm_store hpz op2 k2 o2 d2 fa2 fn2 fc2 kids2)
      have HS2 := Lib.hid (fm_store (zs := zs.set p (.mk op2 k2 (o2, d2) fa2 fn2 fc2 kids2)) (j := q) (by simpa using hqz) op k o d fa fn fc kids)
      clear hzp hzq hpz hqz hjx hjy
      (try simp only [nsl, Value.cells, unB] at st)
      (try clear hc); have hc := st.facts; (try simp only [nfl, nft, Nat.reduceAdd] at hc)
      go_wp2_with fail
      refine Rg4.wp_region4_eq #[0, 0, 0, 6, 0, 0, 0, 96, 0, 0, 0, 1536, 3840, 7936, 0, 0, 0, 98304, 245760, 507904, 1048335, 2096911, 4194303, 8388607] [21, 23] [13, 19] (fun _ => True) [0, 1, 2, 3, 4, 5, 6, 7, 8, 9, 10, 11, 12, 13, 14, 15, 16, 17, 18, 19, 20, 21, 22, 23] (by kernel_rfl) (by kernel_rfl) (by kernel_rfl) (by kernel_rfl) (show Rg4.PB _ by repeat (first | with_reducible exact Rg4.pb_body | with_reducible exact Rg4.pb_bodyD rfl | with_reducible refine Rg4.pb_then ?_ | with_reducible refine Rg4.pb_inBlock ?_ | with_reducible refine Rg4.pb_noGoto ?_)) (trivial) ?_
      replace st := st.drew
      change Rg4.wp4 _ _ _ _ _ _ _ _ _ (World.drew _) _ _
      generalize World.drew _ = w at st ⊢
      (try clear hc); have hc := st.facts; (try simp only [nfl, nft, Nat.reduceAdd] at hc)
      iterate 13 (refine Rg4.w4_any (Rg4.want_none rfl) rfl ?_; apply Exists.intro; refine ⟨fun w' => ?_, ?_⟩; (focus (first | (go_simp; done) | (go_simp; first | rfl | (rw [if_neg] <;> first | rfl | omega) | (rw [if_pos] <;> first | rfl | omega)))); (try simp only [Rg4.nrm]))
      (refine Rg4.w4_read (Rg4.want_none rfl) rfl rfl ?_; apply Exists.intro; refine ⟨fun w' hw' hcl' => ?_, ?_⟩; focus (subst hw'; have r0 := st.rowC (i := 0) get0 _ _ HU.out.1; have r1 := st.rowC (i := 0) get0 _ _ HU.out.2.1; have r2 := st.rowC (i := 0) get0 _ _ HU.out.2.2.1; have r3 := st.rowC (i := 0) get0 _ _ HU.out.2.2.2.1; have r4 := st.rowC (i := 0) get0 _ _ HU.out.2.2.2.2; have q0 := st.rowC (i := 0) get0 _ _ HV.out.1; have q1 := st.rowC (i := 0) get0 _ _ HV.out.2.1; have q2 := st.rowC (i := 0) get0 _ _ HV.out.2.2.1; have q3 := st.rowC (i := 0) get0 _ _ HV.out.2.2.2.1; have q4 := st.rowC (i := 0) get0 _ _ HV.out.2.2.2.2; (focus (first | (go_simp; done) | (go_simp; first | rfl | (rw [if_neg] <;> first | rfl | omega) | (rw [if_pos] <;> first | rfl | omega))))); (try simp only [Rg4.nrm]))
      iterate 5 (refine Rg4.w4_any (Rg4.want_none rfl) rfl ?_; apply Exists.intro; refine ⟨fun w' => ?_, ?_⟩; (focus (first | (go_simp; done) | (go_simp; first | rfl | (rw [if_neg] <;> first | rfl | omega) | (rw [if_pos] <;> first | rfl | omega)))); (try simp only [Rg4.nrm]))
      (refine Rg4.w4_read (Rg4.want_none rfl) rfl rfl ?_; apply Exists.intro; refine ⟨fun w' hw' hcl' => ?_, ?_⟩; focus (subst hw'; have r0 := st.rowC (i := 0) get0 _ _ HU.out.1; have r1 := st.rowC (i := 0) get0 _ _ HU.out.2.1; have r2 := st.rowC (i := 0) get0 _ _ HU.out.2.2.1; have r3 := st.rowC (i := 0) get0 _ _ HU.out.2.2.2.1; have r4 := st.rowC (i := 0) get0 _ _ HU.out.2.2.2.2; have q0 := st.rowC (i := 0) get0 _ _ HV.out.1; have q1 := st.rowC (i := 0) get0 _ _ HV.out.2.1; have q2 := st.rowC (i := 0) get0 _ _ HV.out.2.2.1; have q3 := st.rowC (i := 0) get0 _ _ HV.out.2.2.2.1; have q4 := st.rowC (i := 0) get0 _ _ HV.out.2.2.2.2; (focus (first | (go_simp; done) | (go_simp; first | rfl | (rw [if_neg] <;> first | rfl | omega) | (rw [if_pos] <;> first | rfl | omega))))); (try simp only [Rg4.nrm]))
      (refine Rg4.w4_any (Rg4.want_none rfl) rfl ?_; apply Exists.intro; refine ⟨fun w' => ?_, ?_⟩; (focus (first | (go_simp; done) | (go_simp; first | rfl | (rw [if_neg] <;> first | rfl | omega) | (rw [if_pos] <;> first | rfl | omega)))); (try simp only [Rg4.nrm]))
      refine Rg4.w4_bar (Rg4.want_none rfl) rfl (fun w' hw' hcl _ K hK => ?_)
      subst hw'
      refine owp_storeRow' rfl st ?_
      apply Exists.intro; apply Exists.intro
      refine ⟨?_, ?_, ?_⟩
      (focus (go_simp; try rfl))
      (focus (go_simp; try rfl))
      refine ⟨0, _, _, _, _, _, _, _, _, get0, rfl, rfl, ?_, ?_, ?_, ?_⟩
      · kernel_rfl
      · simp [Value.cells]; omega
      · rfl
      clear st
      intro w st
      simp only [List.set_cons_zero, Value.cells] at st
      rw [HS1.out] at st
      refine hK _ _ ⟨trivial, ?_⟩
      clear hK
      (try simp only [Rg4.nrm])
      (refine Rg4.w4_any (Rg4.want_none rfl) rfl ?_; apply Exists.intro; refine ⟨fun w' => ?_, ?_⟩; (focus (first | (go_simp; done) | (go_simp; first | rfl | (rw [if_neg] <;> first | rfl | omega) | (rw [if_pos] <;> first | rfl | omega)))); (try simp only [Rg4.nrm]))
      refine Rg4.w4_bar (Rg4.want_none rfl) rfl (fun w' hw' hcl _ K hK => ?_)
      subst hw'
      refine owp_storeRow' rfl st ?_
      apply Exists.intro; apply Exists.intro
      refine ⟨?_, ?_, ?_⟩
      (focus (go_simp; try rfl))
      (focus (go_simp; try rfl))
      refine ⟨0, _, _, _, _, _, _, _, _, get0, rfl, rfl, ?_, ?_, ?_, ?_⟩
      · kernel_rfl
      · simp [Value.cells]; omega
      · rfl
      clear st
      intro w st
      simp only [List.set_cons_zero, Value.cells] at st
      rw [HS2.out] at st
      refine hK _ _ ⟨trivial, ?_⟩
      clear hK
      (try simp only [Rg4.nrm])
      refine Rg4.w4_nil (fun w' hw' hcl' _ => ?_); subst hw'; clear hcl'
      go_wp2_with fail
      go_roundg (m - (j + 1))
      case measure => omega
      case rel => exact ⟨j + 1, _, by omega, by omega, by go_num, HN, st⟩
    · obtain rfl : j = m := by omega
      have HE : Hid (zs = P ++ (Y ++ (M ++ (X ++ S)))) := Lib.hid (by
        rw [HZ.out, List.take_of_length_le (by have := HY.out; omega), List.take_of_length_le (by have := HX.out; omega), List.drop_of_length_le (by have := HX.out; omega), List.drop_of_length_le (by have := HY.out; omega)]; simp)
      rw [HE.out] at st
      go_wp2_with fail
      go_end0
      exact ⟨rfl, st⟩
end Go.Proofs.Ythjaopojlhdjpaa

namespace Go.Proofs.Ythjaopojlhdjpaa
set_option linter.unusedSimpArgs false
set_option linter.unusedVariables false
open Go Go.RowKit
set_option maxRecDepth 100000 in
set_option maxHeartbeats 4000000 in
theorem rotate_c {fr al : Nat → Prop} {W : World} {g n c : Nat} (F : Value) (base P X Y S : List Fm) (a m b : Nat) (ha : a = P.length) (hm : m = P.length + X.length) (hb : b = P.length + X.length + Y.length) (hx : 0 < X.length) (hy : 0 < Y.length)
    (st : Own fr al W [rowI 26 5 (.slice (some ⟨g, 0, none⟩) n c) n (cellsL (P ++ (X ++ (Y ++ S)))), fmsI base] W) (hn : n ≤ 2000000) :
    Calls Try.prog 183 #[.slice (some ⟨g, 0, none⟩) n c, .int .i64 (a : Int), .int .i64 (m : Int), .int .i64 (b : Int), F] W fun e w' => e = .returned (.tuple #[]) ∧ Own fr al W [rowI 26 5 (.slice (some ⟨g, 0, none⟩) n c) n (cellsL (P ++ (Y ++ (X ++ S)))), fmsI base] w' := by
  have hlen := st.rowLen (i := 0) get0
  simp only [List.length_append] at hlen
  obtain ⟨T, hT⟩ : ∃ T, P ++ (Y ++ (X ++ S)) = T := ⟨_, rfl⟩
  have HT := Lib.hid hT
  rw [hT]
  obtain ⟨i0, hi0⟩ : ∃ i, m - a = i := ⟨_, rfl⟩
  obtain ⟨j0, hj0⟩ : ∃ i, b - m = i := ⟨_, rfl⟩
  have w1 : IntKind.i64.wrap ((m : Int) - (a : Int)) = (i0 : Int) := by rw [← hi0, show (((m - a : Nat)) : Int) = (m : Int) - (a : Int) by omega]; exact IntWalk.i64_in _ ⟨by omega, by omega⟩
  have w2 : IntKind.i64.wrap ((b : Int) - (m : Int)) = (j0 : Int) := by rw [← hj0, show (((b - m : Nat)) : Int) = (b : Int) - (m : Int) by omega]; exact IntWalk.i64_in _ ⟨by omega, by omega⟩
  have hmn : m ≤ n ∧ i0 ≤ n ∧ j0 ≤ n := by omega
  have H0 : Hid (i0 = X.length ∧ 0 < i0 ∧ j0 = Y.length ∧ 0 < j0 ∧ P.length + i0 = m) := Lib.hid (by omega)
  clear ha hm hb hx hy hlen hT hi0 hj0
  (try simp only [nsl, Value.cells, unB] at st)
  (try clear hc); have hc := st.facts; (try simp only [nfl, nft, Nat.reduceAdd] at hc)
  go_enter Try.func183, Try.ntmps183
  go_wp2_with fail
  go_loopg [10, 11] (i0 + j0) (fun q iv jv wr => ∃ (i j : Nat) (D X' Y' E : List Fm), q = i + j ∧ iv = .int .i64 (i : Int) ∧ jv = .int .i64 (j : Int) ∧ (i ≤ n ∧ j ≤ n) ∧ Hid ((i = X'.length ∧ 0 < i ∧ j = Y'.length ∧ 0 < j ∧ D.length + i = m) ∧ D ++ (Y' ++ (X' ++ E)) = T) ∧ Own fr al W [rowI 26 5 (.slice (some ⟨g, 0, none⟩) n c) n (cellsL (D ++ (X' ++ (Y' ++ E)))), fmsI base] wr)
  case atStart => exact ⟨i0, j0, P, X, Y, S, rfl, rfl, rfl, by omega, Lib.hid ⟨H0.out, HT.out⟩, st⟩
  case round =>
    obtain ⟨i, j, D, X', Y', E, rfl, rfl, rfl, hij, HR, st'⟩ := hrel
    clear st hc
    have st := st'
    clear st'
    have hln := st.rowLen (i := 0) get0
    simp only [List.length_append] at hln
    obtain ⟨⟨h1, h2, h3, h4, h5⟩, h6⟩ := HR.out
    obtain ⟨p, hp⟩ : ∃ p, m - i = p := ⟨_, rfl⟩
    have w3 : IntKind.i64.wrap ((m : Int) - (i : Int)) = (p : Int) := by rw [← hp, show (((m - i : Nat)) : Int) = (m : Int) - (i : Int) by omega]; exact IntWalk.i64_in _ ⟨by omega, by omega⟩
    have hpD : p = D.length := by omega
    by_cases hne : i = j
    · subst hne
      have HC := Lib.hid (fun fr al W st => swapRange_c (fr := fr) (al := al) (W := W) (g := g) (n := n) (c := c) F base D X' [] Y' E p m i hpD (by simp; omega) h1.symm h3.symm st hn)
      clear h1 h2 h3 h4 h5 h6 hp hpD hln
      go_wp2_with fail
      obtain ⟨fr', al', st', back⟩ := st.sub [0, 1] (by decide) (by simp)
      (try simp only [nsl, Value.cells, unB] at st')
      refine (HC.out _ _ _ st').mono ?_
      clear st'
      rintro en w ⟨rfl, st'⟩
      replace st := back _ _ (by simp) st'
      clear back st'
      (try simp only [nsl, Value.cells, unB] at st)
      (try clear hc); have hc := st.facts; (try simp only [nfl, nft, Nat.reduceAdd] at hc)
      go_wp2_with fail
      go_end0
      exact ⟨rfl, by have := HR.out.2; rw [← this]; exact st⟩
    · have hnei : ¬ (i : Int) = (j : Int) := by omega
      by_cases hlt : j < i
      · have hlti : (j : Int) < (i : Int) := by omega
        have eX : X' = X'.take j ++ X'.drop j := (List.take_append_drop _ _).symm
        have l1 : (X'.take j).length = j := by simp; omega
        have l2 : (X'.drop j).length = i - j := by simp; omega
        generalize X'.take j = X1 at *
        generalize X'.drop j = X2 at *
        subst eX
        have HC := Lib.hid (fun fr al W st => swapRange_c (fr := fr) (al := al) (W := W) (g := g) (n := n) (c := c) F base D X1 X2 Y' E p m j hpD (by simp at h1; omega) l1 h3.symm st hn)
        have HS : Hid (D ++ (X1 ++ X2 ++ (Y' ++ E)) = D ++ (X1 ++ (X2 ++ (Y' ++ E)))) := Lib.hid (by simp)
        obtain ⟨i2, hi2⟩ : ∃ q, i - j = q := ⟨_, rfl⟩
        have w4 : IntKind.i64.wrap ((i : Int) - (j : Int)) = (i2 : Int) := by rw [← hi2, show (((i - j : Nat)) : Int) = (i : Int) - (j : Int) by omega]; exact IntWalk.i64_in _ ⟨by omega, by omega⟩
        have hR2 : Hid ((i2 = X2.length ∧ 0 < i2 ∧ j = X1.length ∧ 0 < j ∧ (D ++ Y').length + i2 = m) ∧ (D ++ Y') ++ (X1 ++ (X2 ++ E)) = T) := Lib.hid ⟨by simp; omega, by rw [← h6]; simp⟩
        have hi2n : i2 + j < i + j ∧ i2 ≤ n := by omega
        rw [HS.out] at st
        clear h1 h2 h3 h4 h5 h6 hp hpD hln l1 l2 hi2 HR
        go_wp2_with fail
        obtain ⟨fr', al', st', back⟩ := st.sub [0, 1] (by decide) (by simp)
        (try simp only [nsl, Value.cells, unB] at st')
        refine (HC.out _ _ _ st').mono ?_
        clear st'
        rintro en w ⟨rfl, st'⟩
        replace st := back _ _ (by simp) st'
        clear back st'
        (try simp only [nsl, Value.cells, unB] at st)
        (try clear hc); have hc := st.facts; (try simp only [nfl, nft, Nat.reduceAdd] at hc)
        go_wp2_with fail
        go_roundg (i2 + j)
        case measure => omega
        case rel => exact ⟨i2, j, D ++ Y', X2, X1, E, rfl, rfl, rfl, by omega, hR2, by simpa [List.append_assoc] using st⟩
      · have hlti : ¬ (j : Int) < (i : Int) := by omega
        have eY : Y' = Y'.take (j - i) ++ Y'.drop (j - i) := (List.take_append_drop _ _).symm
        have l1 : (Y'.take (j - i)).length = j - i := by simp; omega
        have l2 : (Y'.drop (j - i)).length = i := by simp; omega
        generalize Y'.take (j - i) = Y1 at *
        generalize Y'.drop (j - i) = Y2 at *
        subst eY
        obtain ⟨s1, hs1⟩ : ∃ q, m + j = q := ⟨_, rfl⟩
        obtain ⟨s2, hs2⟩ : ∃ q, s1 - i = q := ⟨_, rfl⟩
        have w4 : IntKind.i64.wrap ((m : Int) + (j : Int)) = (s1 : Int) := by rw [← hs1]; exact IntWalk.i64_in _ ⟨by omega, by omega⟩
        have w5 : IntKind.i64.wrap ((s1 : Int) - (i : Int)) = (s2 : Int) := by rw [← hs2, show (((s1 - i : Nat)) : Int) = (s1 : Int) - (i : Int) by omega]; exact IntWalk.i64_in _ ⟨by omega, by omega⟩
        have HC := Lib.hid (fun fr al W st => swapRange_c (fr := fr) (al := al) (W := W) (g := g) (n := n) (c := c) F base D X' Y1 Y2 E p s2 i hpD (by simp at h3; omega) h1.symm l2 st hn)
        have HS : Hid (D ++ (X' ++ (Y1 ++ Y2 ++ E)) = D ++ (X' ++ (Y1 ++ (Y2 ++ E)))) := Lib.hid (by simp)
        obtain ⟨j2, hj2⟩ : ∃ q, j - i = q := ⟨_, rfl⟩
        have w6 : IntKind.i64.wrap ((j : Int) - (i : Int)) = (j2 : Int) := by rw [← hj2, show (((j - i : Nat)) : Int) = (j : Int) - (i : Int) by omega]; exact IntWalk.i64_in _ ⟨by omega, by omega⟩
        have hR2 : Hid ((i = Y2.length ∧ 0 < i ∧ j2 = Y1.length ∧ 0 < j2 ∧ D.length + i = m) ∧ D ++ (Y1 ++ (Y2 ++ (X' ++ E))) = T) := Lib.hid ⟨by omega, by rw [← h6]; simp⟩
        have hj2n : i + j2 < i + j ∧ j2 ≤ n := by omega
        rw [HS.out] at st
        clear h1 h2 h3 h4 h5 h6 hp hpD hln l1 l2 hj2 HR hs1 hs2
        go_wp2_with fail
        obtain ⟨fr', al', st', back⟩ := st.sub [0, 1] (by decide) (by simp)
        (try simp only [nsl, Value.cells, unB] at st')
        refine (HC.out _ _ _ st').mono ?_
        clear st'
        rintro en w ⟨rfl, st'⟩
        replace st := back _ _ (by simp) st'
        clear back st'
        (try simp only [nsl, Value.cells, unB] at st)
        (try clear hc); have hc := st.facts; (try simp only [nfl, nft, Nat.reduceAdd] at hc)
        go_wp2_with fail
        go_roundg (i + j2)
        case measure => omega
        case rel => exact ⟨i, j2, D, Y2, Y1, X' ++ E, rfl, rfl, rfl, by omega, hR2, st⟩
end Go.Proofs.Ythjaopojlhdjpaa

namespace Go.Proofs.Ythjaopojlhdjpaa
set_option linter.unusedSimpArgs false
set_option linter.unusedVariables false
open Go Go.RowKit
def fK (x : Fm) : List UInt8 := wrF x.strip
/-- Formulas that may be compared. -/
def FmsR (base : List Fm) : Prop := ∀ x ∈ base, x.strip.nodes ≤ 1000000000 ∧ FoL 100000 x.strip
theorem ins_sp {A B : List Fm} {v : Fm} (h : ∀ x ∈ B, kLt fK v x = true) : SP fK ((A ++ B) ++ [v]) (A ++ v :: B) := by
  have := (SP.refl (key := fK) A).app (SP.comm (key := fK) (xs := B) (ys := [v]) fun x hx y hy => by rw [List.mem_singleton.1 hy]; exact (kLt_ne (h x hx)).symm)
  simpa [List.append_assoc] using this
theorem ins_srt {A B : List Fm} {v : Fm} (hs : Srt fK (A ++ B)) (hb : ∀ x ∈ B, kLt fK v x = true) (ha : ∀ x ∈ A, kLt fK v x = false) : Srt fK (A ++ v :: B) := by
  refine hs.left.app (List.pairwise_cons.2 ⟨fun x hx => kLt_asym (hb x hx), hs.right⟩) fun x hx y hy => ?_
  rcases List.mem_cons.1 hy with e | e
  · rw [e]; exact ha x hx
  · exact hs.cross x hx y e
theorem ins_last {A B : List Fm} {u v : Fm} (hs : Srt fK ((A ++ [u]) ++ B)) (h : kLt fK v u = false) : ∀ x ∈ A ++ [u], kLt fK v x = false := fun x hx => by
  rcases List.mem_append.1 hx with q | q
  · exact kLe_tr (hs.left.cross x q u (by simp)) h
  · rw [List.mem_singleton.1 q]; exact h
theorem fmCmp_any {base : List Fm} (hb : FmsR base) {x y : Fm} (hx : x ∈ base) (hy : y ∈ base) (W : World) (hw : ∀ f ∈ base, FmOk W f) :
    Calls Try.prog 47 #[fmV x, fmV y] W fun e w' => e = .returned (.int .i64 (cmp2 (fK x) (fK y))) ∧ Ext W w' :=
  fmCompare_any x y W (hw x hx) (hw y hy) (hb x hx).1 (hb y hy).1 (hb x hx).2 (hb y hy).2
set_option maxRecDepth 100000 in
set_option maxHeartbeats 4000000 in
theorem insertFm_c {fr al : Nat → Prop} {W : World} {g n c : Nat} (base P M Q : List Fm) (a b : Nat) (ha : a = P.length) (hb : b = P.length + M.length) (hB : FmsR base) (hM : ∀ x ∈ M, x ∈ base)
    (st : Own fr al W [rowI 26 5 (.slice (some ⟨g, 0, none⟩) n c) n (cellsL (P ++ (M ++ Q))), fmsI base] W) (hn : n ≤ 2000000) :
    Calls Try.prog 178 #[.slice (some ⟨g, 0, none⟩) n c, .int .i64 (a : Int), .int .i64 (b : Int), .func (.func 47) #[] #[]] W fun e w' => e = .returned (.tuple #[]) ∧ ∃ M', (SP fK M M' ∧ Srt fK M') ∧ Own fr al W [rowI 26 5 (.slice (some ⟨g, 0, none⟩) n c) n (cellsL (P ++ (M' ++ Q))), fmsI base] w' := by
  have hlen := st.rowLen (i := 0) get0
  simp only [List.length_append] at hlen
  have hbn : b ≤ n ∧ a ≤ b := by omega
  have HA := Lib.hid ha
  have HBB := Lib.hid hb
  have HMB := Lib.hid hM
  have HCM := Lib.hid (fun x y hx hy W' hw => fmCmp_any hB (x := x) (y := y) hx hy W' hw)
  clear ha hb hlen hM hB
  obtain ⟨i0, hi0⟩ : ∃ i, a + 1 = i := ⟨_, rfl⟩
  have w0 : IntKind.i64.wrap ((a : Int) + 1) = (i0 : Int) := by rw [← hi0]; exact IntWalk.i64_in _ ⟨by omega, by omega⟩
  have hi0n : i0 = a + 1 := hi0.symm
  have HI0 := Lib.hid hi0n
  have hi0b : i0 ≤ n + 1 := by omega
  clear hi0 hi0n
  (try simp only [nsl, Value.cells, unB] at st)
  (try clear hc); have hc := st.facts; (try simp only [nfl, nft, Nat.reduceAdd] at hc)
  go_enter Try.func178, Try.ntmps178
  go_wp2_with fail
  go_loopg [8] (n + 2 - i0) (fun q iv wr => ∃ (i : Nat) (M1 M2 : List Fm), q = n + 2 - i ∧ i ≤ n + 1 ∧ iv = .int .i64 (i : Int) ∧ Hid (((i = P.length + M1.length ∧ 0 < M1.length) ∨ (M1 = [] ∧ M2 = [] ∧ i = P.length + 1)) ∧ SP fK M (M1 ++ M2) ∧ Srt fK M1) ∧ Own fr al W [rowI 26 5 (.slice (some ⟨g, 0, none⟩) n c) n (cellsL (P ++ (M1 ++ (M2 ++ Q)))), fmsI base] wr)
  case atStart =>
    refine ⟨i0, M.take 1, M.drop 1, rfl, hi0b, rfl, Lib.hid ⟨?_, by rw [List.take_append_drop]; exact SP.refl _, ?_⟩, ?_⟩
    · have h1 := HI0.out
      have h2 := HA.out
      cases M with
      | nil => right; exact ⟨rfl, rfl, by omega⟩
      | cons x M => left; simp; omega
    · cases M with
      | nil => exact List.Pairwise.nil
      | cons x M => simp [Srt]
    · rw [show P ++ (M.take 1 ++ (M.drop 1 ++ Q)) = P ++ (M ++ Q) by rw [← List.append_assoc (M.take 1), List.take_append_drop]]
      exact st
  case round =>
    obtain ⟨i, M1, M2, rfl, hin, rfl, HR, st'⟩ := hrel
    clear st hc
    have st := st'
    clear st'
    have hln := st.rowLen (i := 0) get0
    simp only [List.length_append] at hln
    have hsl := HR.out.2.1.len
    simp only [List.length_append] at hsl
    have hBl := HBB.out
    have hAl := HA.out
    by_cases hib : i < b
    · have hibi : (i : Int) < (b : Int) := by omega
      have hm1 : i = P.length + M1.length ∧ 0 < M1.length := by
        rcases HR.out.1 with q | ⟨q1, q2, q3⟩
        · exact q
        · subst q1 q2; simp at hsl; omega
      have hm2 : 0 < M2.length := by omega
      obtain ⟨v, M3, rfl⟩ : ∃ v M3, M2 = v :: M3 := by
        cases M2 with
        | nil => simp at hm2
        | cons v M3 => exact ⟨v, M3, rfl⟩
      have hvb : v ∈ base := HMB.out v (HR.out.2.1.mem.1 (by simp))
      have hMb : ∀ x ∈ M1, x ∈ base := fun x hx => HMB.out x (HR.out.2.1.mem.1 (by simp [hx]))
      have HVB := Lib.hid hvb
      have HM1B := Lib.hid hMb
      have HM1 := Lib.hid hm1
      clear hsl hm1 hm2 hln hvb hMb hBl hAl
      (try simp only [nsl, Value.cells, unB] at st)
      (try clear hc); have hc := st.facts; (try simp only [nfl, nft, Nat.reduceAdd] at hc)
      go_wp2_with fail
      go_loopg [9] (i + 1) (fun q jv wr => ∃ (j : Nat) (A B : List Fm), q = j + 1 ∧ j ≤ i ∧ jv = .int .i64 (j : Int) ∧ Hid (j = P.length + A.length ∧ A ++ B = M1 ∧ ∀ x ∈ B, kLt fK v x = true) ∧ Own fr al W [rowI 26 5 (.slice (some ⟨g, 0, none⟩) n c) n (cellsL (P ++ (A ++ v :: (B ++ (M3 ++ Q))))), fmsI base] wr)
      case atStart => exact ⟨i, M1, [], rfl, Nat.le_refl _, rfl, Lib.hid ⟨HM1.out.1, by simp, by simp⟩, by simpa using st⟩
      case round =>
        obtain ⟨j, A, B, rfl, hji, rfl, HJ, st'⟩ := hrel
        clear st hc
        have st := st'
        clear st'
        have hln := st.rowLen (i := 0) get0
        simp only [List.length_append, List.length_cons] at hln
        obtain ⟨hj1, hj2, hj3⟩ := HJ.out
        have hAl := HA.out
        rcases List.eq_nil_or_concat A with rfl | ⟨A', u, rfl⟩
        · have hja : decide (a < j) = false := by simp at hj1; rw [decide_eq_false_iff_not]; omega
          have hR2 : Hid (((i + 1 = P.length + (v :: B).length ∧ 0 < (v :: B).length) ∨ (v :: B = [] ∧ M3 = [] ∧ i + 1 = P.length + 1)) ∧ SP fK M ((v :: B) ++ M3) ∧ Srt fK (v :: B)) := Lib.hid ⟨.inl ⟨by have := HM1.out; rw [← hj2] at this; simp at this ⊢; omega, by simp⟩, by
            have h1 := ins_sp (A := []) (v := v) hj3
            have h2 := HR.out.2.1.trans (show SP fK (M1 ++ v :: M3) ((v :: B) ++ M3) from by
              have := h1.app (SP.refl M3)
              rw [hj2] at this
              simpa using this)
            exact h2, by
            have := ins_srt (A := []) (v := v) (by rw [hj2]; exact HR.out.2.2) hj3 (by simp)
            exact this⟩
          have wi : IntKind.i64.wrap ((i : Int) + 1) = ((i + 1 : Nat) : Int) := IntWalk.i64_in _ ⟨by omega, by omega⟩
          clear hj1 hj2 hj3 hln hAl
          (try simp only [nsl, Value.cells, unB] at st)
          (try clear hc); have hc := st.facts; (try simp only [nfl, nft, Nat.reduceAdd] at hc)
          go_wp2_with fail
          refine Rg4.wp_region4_eq #[0, 0, 3, 7, 15, 15, 15, 111, 239, 15, 15, 1039, 3599, 7695, 16383, 32767, 65535] [14] [8, 13] (fun _ => True) [0, 1, 2, 3, 4, 5, 6, 7, 8, 9, 10, 11, 12, 13, 14, 15, 16] (by kernel_rfl) (by kernel_rfl) (by kernel_rfl) (by kernel_rfl) (show Rg4.PB _ by repeat (first | with_reducible exact Rg4.pb_body | with_reducible exact Rg4.pb_bodyD rfl | with_reducible refine Rg4.pb_then ?_ | with_reducible refine Rg4.pb_inBlock ?_ | with_reducible refine Rg4.pb_noGoto ?_)) (trivial) ?_
          replace st := st.drew
          change Rg4.wp4 _ _ _ _ _ _ _ _ _ (World.drew _) _ _
          generalize World.drew _ = w at st ⊢
          (try clear hc); have hc := st.facts; (try simp only [nfl, nft, Nat.reduceAdd] at hc)
          iterate 4 (refine Rg4.w4_any (Rg4.want_none rfl) rfl ?_; apply Exists.intro; refine ⟨fun w' => ?_, ?_⟩; (focus (first | (go_simp; done) | (go_simp; first | rfl | (rw [if_neg] <;> first | rfl | omega) | (rw [if_pos] <;> first | rfl | omega)))); (try simp only [Rg4.nrm]))
          iterate 4 (first | (refine Rg4.w4_any (Rg4.wt rfl rfl rfl) rfl ?_; apply Exists.intro; refine ⟨fun w' => ?_, ?_⟩; (focus (first | (go_simp; done) | (go_simp; first | rfl | (rw [if_neg] <;> first | rfl | omega) | (rw [if_pos] <;> first | rfl | omega)))); (try simp only [Rg4.nrm])) | (refine Rg4.w4_skip (Rg4.uw rfl rfl rfl) ?_; (try simp only [Rg4.nrm])) | (refine Rg4.w4_skip (Rg4.un rfl rfl rfl) ?_; (try simp only [Rg4.nrm])))
          (first | (refine Rg4.w4_read (Rg4.wt rfl rfl rfl) rfl rfl ?_; apply Exists.intro; refine ⟨fun w' hw' hcl' => ?_, ?_⟩; focus (subst hw'; (focus (first | (go_simp; done) | (go_simp; first | rfl | (rw [if_neg] <;> first | rfl | omega) | (rw [if_pos] <;> first | rfl | omega))))); (try simp only [Rg4.nrm])) | (refine Rg4.w4_skip (Rg4.uw rfl rfl rfl) ?_; (try simp only [Rg4.nrm])) | (refine Rg4.w4_skip (Rg4.un rfl rfl rfl) ?_; (try simp only [Rg4.nrm])))
          iterate 4 (first | (refine Rg4.w4_any (Rg4.wt rfl rfl rfl) rfl ?_; apply Exists.intro; refine ⟨fun w' => ?_, ?_⟩; (focus (first | (go_simp; done) | (go_simp; first | rfl | (rw [if_neg] <;> first | rfl | omega) | (rw [if_pos] <;> first | rfl | omega)))); (try simp only [Rg4.nrm])) | (refine Rg4.w4_skip (Rg4.uw rfl rfl rfl) ?_; (try simp only [Rg4.nrm])) | (refine Rg4.w4_skip (Rg4.un rfl rfl rfl) ?_; (try simp only [Rg4.nrm])))
          (first | (refine Rg4.w4_read (Rg4.wt rfl rfl rfl) rfl rfl ?_; apply Exists.intro; refine ⟨fun w' hw' hcl' => ?_, ?_⟩; focus (subst hw'; (focus (first | (go_simp; done) | (go_simp; first | rfl | (rw [if_neg] <;> first | rfl | omega) | (rw [if_pos] <;> first | rfl | omega))))); (try simp only [Rg4.nrm])) | (refine Rg4.w4_skip (Rg4.uw rfl rfl rfl) ?_; (try simp only [Rg4.nrm])) | (refine Rg4.w4_skip (Rg4.un rfl rfl rfl) ?_; (try simp only [Rg4.nrm])))
          first | refine Rg4.w4_skip (Rg4.uw rfl rfl rfl) ?_ | refine Rg4.w4_skip (Rg4.un rfl rfl rfl) ?_
          (try simp only [Rg4.nrm])
          (first | (refine Rg4.w4_any (Rg4.wt rfl rfl rfl) rfl ?_; apply Exists.intro; refine ⟨fun w' => ?_, ?_⟩; (focus (first | (go_simp; done) | (go_simp; first | rfl | (rw [if_neg] <;> first | rfl | omega) | (rw [if_pos] <;> first | rfl | omega)))); (try simp only [Rg4.nrm])) | (refine Rg4.w4_skip (Rg4.uw rfl rfl rfl) ?_; (try simp only [Rg4.nrm])) | (refine Rg4.w4_skip (Rg4.un rfl rfl rfl) ?_; (try simp only [Rg4.nrm])))
          (refine Rg4.w4_any (Rg4.want_none rfl) rfl ?_; apply Exists.intro; refine ⟨fun w' => ?_, ?_⟩; (focus (first | (go_simp; done) | (go_simp; first | rfl | (rw [if_neg] <;> first | rfl | omega) | (rw [if_pos] <;> first | rfl | omega)))); (try simp only [Rg4.nrm]))
          refine Rg4.w4_nil (fun w' hw' hcl' _ => ?_); subst hw'; clear hcl'
          go_wp2_with fail
          go_roundg (n + 2 - (i + 1))
          case measure => omega
          case rel => exact ⟨i + 1, v :: B, M3, rfl, by omega, by go_num, hR2, st⟩
        · have hja : decide (a < j) = true := by simp at hj1; rw [decide_eq_true_eq]; omega
          obtain ⟨p, hp⟩ : ∃ p, j - 1 = p := ⟨_, rfl⟩
          have hj1' : j = P.length + A'.length + 1 := by simp at hj1; omega
          have hpl : p = (P ++ A').length := by simp; omega
          have hql : j = (P ++ A').length + 1 + ([] : List Fm).length := by simp; omega
          obtain ⟨zs, hz⟩ : ∃ zs, (P ++ A') ++ u :: ([] ++ v :: (B ++ (M3 ++ Q))) = zs := ⟨_, rfl⟩
          have hz2 : P ++ (A'.concat u ++ v :: (B ++ (M3 ++ Q))) = zs := by rw [← hz]; simp
          rw [hz2] at st
          have hzl := st.rowLen (i := 0) get0
          have hzp : zs[p]? = some u := by rw [← hz, hpl]; exact at_p _ _ _ _ _
          have hzq : zs[j]? = some v := by rw [← hz]; have := at_q (P ++ A') [] (B ++ (M3 ++ Q)) u v; rw [← hql] at this; exact this
          have hpz : p < zs.length := (List.getElem?_eq_some_iff.1 hzp).1
          have hqz : j < zs.length := (List.getElem?_eq_some_iff.1 hzq).1
          have HN : Hid ((zs.set j u).set p v = P ++ (A' ++ v :: ((u :: B) ++ (M3 ++ Q)))) := Lib.hid (by
            have := swap_qp (P ++ A') [] (B ++ (M3 ++ Q)) u v
            rw [← hql, ← hpl, hz] at this
            rw [this]; simp)
          have hub : u ∈ base := HM1B.out u (by rw [← hj2]; simp)
          have HC2 := Lib.hid (fun W' hw => HCM.out v u HVB.out hub W' hw)
          have hpn : p < n := by omega
          have hqn : j < n := by omega
          have hjp : p + 1 = j := by omega
          have w1 : IntKind.i64.wrap ((j : Int) - 1) = (p : Int) := by rw [← hjp, show ((p + 1 : Nat) : Int) - 1 = (p : Int) by omega]; exact IntWalk.i64_in _ ⟨by omega, by omega⟩
          have wi : IntKind.i64.wrap ((i : Int) + 1) = ((i + 1 : Nat) : Int) := IntWalk.i64_in _ ⟨by omega, by omega⟩
          have hneg := cmp2_neg (fK v) (fK u)
          have hR3 : kLt fK v u = false → Hid (((i + 1 = P.length + (A' ++ u :: v :: B).length ∧ 0 < (A' ++ u :: v :: B).length) ∨ (A' ++ u :: v :: B = [] ∧ M3 = [] ∧ i + 1 = P.length + 1)) ∧ SP fK M ((A' ++ u :: v :: B) ++ M3) ∧ Srt fK (A' ++ u :: v :: B)) := fun hl => Lib.hid ⟨.inl ⟨by have := HM1.out; rw [← hj2] at this; simp at this ⊢; omega, by simp <;> omega⟩, by
            have h1 := ins_sp (A := A' ++ [u]) (v := v) hj3
            have h2 := h1.app (SP.refl (key := fK) M3)
            have h3 := HR.out.2.1
            rw [← hj2] at h3
            exact h3.trans (by simpa using h2), by
            have h3 := HR.out.2.2
            rw [← hj2] at h3
            have h4 : Srt fK ((A' ++ [u]) ++ B) := by simpa using h3
            have h5 := ins_srt h4 hj3 (ins_last h4 hl)
            simpa using h5⟩
          have hJ2 : kLt fK v u = true → Hid (p = P.length + A'.length ∧ A' ++ (u :: B) = M1 ∧ ∀ x ∈ u :: B, kLt fK v x = true) := fun hl => Lib.hid ⟨by omega, by rw [← hj2]; simp, fun x hx => by
            rcases List.mem_cons.1 hx with e | e
            · rw [e]; exact hl
            · exact hj3 x e⟩
          obtain ⟨cv, hcv⟩ : ∃ z, cmp2 (fK v) (fK u) = z := ⟨_, rfl⟩
          rw [hcv] at HC2 hneg
          obtain ⟨lv, hlv⟩ : ∃ z, kLt fK v u = z := ⟨_, rfl⟩
          have hlv2 : strLt (fK v) (fK u) = lv := hlv
          rw [hlv2] at hneg
          rw [hlv] at hR3 hJ2
          have HZ2 := Lib.hid hz2
          clear hz hz2 hub hcv hlv hlv2 hj1 hj2 hj3 hj1' hpl hql hzl hln hAl hp HJ
          obtain ⟨op, k, ⟨o, d⟩, fa, fn, fc, kids⟩ := u
          obtain ⟨op2, k2, ⟨o2, d2⟩, fa2, fn2, fc2, kids2⟩ := v
          have HU := Lib.hid (fm_cells hzp)
          have HV := Lib.hid (fm_cells hzq)
          have HS1 := Lib.hid (fm_store hqz op k o d fa fn fc kids)
          have HS2 := Lib.hid (fm_store (zs := zs.set j (.mk op k (o, d) fa fn fc kids)) (j := p) (by simpa using hpz) op2 k2 o2 d2 fa2 fn2 fc2 kids2)
          unfold fmV S at HC2
          simp only at HC2
          clear hzp hzq hpz hqz
          cases lv with
          | false =>
            have hng : ¬ cv < 0 := fun q => by have := hneg.1 q; cases this
            have HR4 := hR3 rfl
            clear hR3 hJ2 hneg
            (try simp only [nsl, Value.cells, unB] at st)
            (try clear hc); have hc := st.facts; (try simp only [nfl, nft, Nat.reduceAdd] at hc)
            go_wp2_with fail
            refine Rg4.wp_region4_eq #[0, 0, 3, 7, 15, 15, 15, 111, 239, 15, 15, 1039, 3599, 7695, 16383, 32767, 65535] [14] [8, 13] (fun _ => True) [0, 1, 2, 3, 4, 5, 6, 7, 8, 9, 10, 11, 12, 13, 14, 15, 16] (by kernel_rfl) (by kernel_rfl) (by kernel_rfl) (by kernel_rfl) (show Rg4.PB _ by repeat (first | with_reducible exact Rg4.pb_body | with_reducible exact Rg4.pb_bodyD rfl | with_reducible refine Rg4.pb_then ?_ | with_reducible refine Rg4.pb_inBlock ?_ | with_reducible refine Rg4.pb_noGoto ?_)) (trivial) ?_
            replace st := st.drew
            change Rg4.wp4 _ _ _ _ _ _ _ _ _ (World.drew _) _ _
            generalize World.drew _ = w at st ⊢
            (try clear hc); have hc := st.facts; (try simp only [nfl, nft, Nat.reduceAdd] at hc)
            iterate 4 (refine Rg4.w4_any (Rg4.want_none rfl) rfl ?_; apply Exists.intro; refine ⟨fun w' => ?_, ?_⟩; (focus (first | (go_simp; done) | (go_simp; first | rfl | (rw [if_neg] <;> first | rfl | omega) | (rw [if_pos] <;> first | rfl | omega)))); (try simp only [Rg4.nrm]))
            iterate 4 (first | (refine Rg4.w4_any (Rg4.wt rfl rfl rfl) rfl ?_; apply Exists.intro; refine ⟨fun w' => ?_, ?_⟩; (focus (first | (go_simp; done) | (go_simp; first | rfl | (rw [if_neg] <;> first | rfl | omega) | (rw [if_pos] <;> first | rfl | omega)))); (try simp only [Rg4.nrm])) | (refine Rg4.w4_skip (Rg4.uw rfl rfl rfl) ?_; (try simp only [Rg4.nrm])) | (refine Rg4.w4_skip (Rg4.un rfl rfl rfl) ?_; (try simp only [Rg4.nrm])))
            (first | (refine Rg4.w4_read (Rg4.wt rfl rfl rfl) rfl rfl ?_; apply Exists.intro; refine ⟨fun w' hw' hcl' => ?_, ?_⟩; focus (subst hw'; have r0 := st.rowC (i := 0) get0 _ _ HU.out.1; have r1 := st.rowC (i := 0) get0 _ _ HU.out.2.1; have r2 := st.rowC (i := 0) get0 _ _ HU.out.2.2.1; have r3 := st.rowC (i := 0) get0 _ _ HU.out.2.2.2.1; have r4 := st.rowC (i := 0) get0 _ _ HU.out.2.2.2.2; have q0 := st.rowC (i := 0) get0 _ _ HV.out.1; have q1 := st.rowC (i := 0) get0 _ _ HV.out.2.1; have q2 := st.rowC (i := 0) get0 _ _ HV.out.2.2.1; have q3 := st.rowC (i := 0) get0 _ _ HV.out.2.2.2.1; have q4 := st.rowC (i := 0) get0 _ _ HV.out.2.2.2.2; (focus (first | (go_simp; done) | (go_simp; first | rfl | (rw [if_neg] <;> first | rfl | omega) | (rw [if_pos] <;> first | rfl | omega))))); (try simp only [Rg4.nrm])) | (refine Rg4.w4_skip (Rg4.uw rfl rfl rfl) ?_; (try simp only [Rg4.nrm])) | (refine Rg4.w4_skip (Rg4.un rfl rfl rfl) ?_; (try simp only [Rg4.nrm])))
            iterate 4 (first | (refine Rg4.w4_any (Rg4.wt rfl rfl rfl) rfl ?_; apply Exists.intro; refine ⟨fun w' => ?_, ?_⟩; (focus (first | (go_simp; done) | (go_simp; first | rfl | (rw [if_neg] <;> first | rfl | omega) | (rw [if_pos] <;> first | rfl | omega)))); (try simp only [Rg4.nrm])) | (refine Rg4.w4_skip (Rg4.uw rfl rfl rfl) ?_; (try simp only [Rg4.nrm])) | (refine Rg4.w4_skip (Rg4.un rfl rfl rfl) ?_; (try simp only [Rg4.nrm])))
            (first | (refine Rg4.w4_read (Rg4.wt rfl rfl rfl) rfl rfl ?_; apply Exists.intro; refine ⟨fun w' hw' hcl' => ?_, ?_⟩; focus (subst hw'; have r0 := st.rowC (i := 0) get0 _ _ HU.out.1; have r1 := st.rowC (i := 0) get0 _ _ HU.out.2.1; have r2 := st.rowC (i := 0) get0 _ _ HU.out.2.2.1; have r3 := st.rowC (i := 0) get0 _ _ HU.out.2.2.2.1; have r4 := st.rowC (i := 0) get0 _ _ HU.out.2.2.2.2; have q0 := st.rowC (i := 0) get0 _ _ HV.out.1; have q1 := st.rowC (i := 0) get0 _ _ HV.out.2.1; have q2 := st.rowC (i := 0) get0 _ _ HV.out.2.2.1; have q3 := st.rowC (i := 0) get0 _ _ HV.out.2.2.2.1; have q4 := st.rowC (i := 0) get0 _ _ HV.out.2.2.2.2; (focus (first | (go_simp; done) | (go_simp; first | rfl | (rw [if_neg] <;> first | rfl | omega) | (rw [if_pos] <;> first | rfl | omega))))); (try simp only [Rg4.nrm])) | (refine Rg4.w4_skip (Rg4.uw rfl rfl rfl) ?_; (try simp only [Rg4.nrm])) | (refine Rg4.w4_skip (Rg4.un rfl rfl rfl) ?_; (try simp only [Rg4.nrm])))
            refine Rg4.w4_bar (Rg4.want_of 3 21 true rfl rfl rfl) rfl (fun w' hw' hcl _ K hK => ?_)
            subst hw'
            go_wp2_with fail
            refine (HC2.out _ (st.fms (i := 1) get1)).mono ?_
            rintro en w ⟨rfl, hx⟩
            replace st := st.ext hx
            clear hx
            (try clear hc); have hc := st.facts; (try simp only [nfl, nft, Nat.reduceAdd] at hc)
            refine hK _ _ ⟨trivial, ?_⟩
            clear hK
            (try simp only [Rg4.nrm])
            (first | (refine Rg4.w4_any (Rg4.wt rfl rfl rfl) rfl ?_; apply Exists.intro; refine ⟨fun w' => ?_, ?_⟩; (focus (first | (go_simp; done) | (go_simp; first | rfl | (rw [if_neg] <;> first | rfl | omega) | (rw [if_pos] <;> first | rfl | omega)))); (try simp only [Rg4.nrm])) | (refine Rg4.w4_skip (Rg4.uw rfl rfl rfl) ?_; (try simp only [Rg4.nrm])) | (refine Rg4.w4_skip (Rg4.un rfl rfl rfl) ?_; (try simp only [Rg4.nrm])))
            (refine Rg4.w4_any (Rg4.want_none rfl) rfl ?_; apply Exists.intro; refine ⟨fun w' => ?_, ?_⟩; (focus (first | (go_simp; done) | (go_simp; first | rfl | (rw [if_neg] <;> first | rfl | omega) | (rw [if_pos] <;> first | rfl | omega)))); (try simp only [Rg4.nrm]))
            refine Rg4.w4_nil (fun w' hw' hcl' _ => ?_); subst hw'; clear hcl'
            go_wp2_with fail
            go_roundg (n + 2 - (i + 1))
            case measure => omega
            case rel => exact ⟨i + 1, _, M3, rfl, by omega, by go_num, HR4, by rw [← HZ2.out] at st; simpa [List.concat_eq_append] using st⟩
          | true =>
            have hng : cv < 0 := hneg.2 rfl
            have HJ3 := hJ2 rfl
            clear hR3 hJ2 hneg
            (try simp only [nsl, Value.cells, unB] at st)
            (try clear hc); have hc := st.facts; (try simp only [nfl, nft, Nat.reduceAdd] at hc)
            go_wp2_with fail
            refine Rg4.wp_region4_eq #[0, 0, 3, 7, 15, 15, 15, 111, 239, 15, 15, 1039, 3599, 7695, 16383, 32767, 65535] [14] [8, 13] (fun _ => True) [0, 1, 2, 3, 4, 5, 6, 7, 8, 9, 10, 11, 12, 13, 14, 15, 16] (by kernel_rfl) (by kernel_rfl) (by kernel_rfl) (by kernel_rfl) (show Rg4.PB _ by repeat (first | with_reducible exact Rg4.pb_body | with_reducible exact Rg4.pb_bodyD rfl | with_reducible refine Rg4.pb_then ?_ | with_reducible refine Rg4.pb_inBlock ?_ | with_reducible refine Rg4.pb_noGoto ?_)) (trivial) ?_
            replace st := st.drew
            change Rg4.wp4 _ _ _ _ _ _ _ _ _ (World.drew _) _ _
            generalize World.drew _ = w at st ⊢
            (try clear hc); have hc := st.facts; (try simp only [nfl, nft, Nat.reduceAdd] at hc)
            iterate 4 (refine Rg4.w4_any (Rg4.want_none rfl) rfl ?_; apply Exists.intro; refine ⟨fun w' => ?_, ?_⟩; (focus (first | (go_simp; done) | (go_simp; first | rfl | (rw [if_neg] <;> first | rfl | omega) | (rw [if_pos] <;> first | rfl | omega)))); (try simp only [Rg4.nrm]))
            iterate 4 (first | (refine Rg4.w4_any (Rg4.wt rfl rfl rfl) rfl ?_; apply Exists.intro; refine ⟨fun w' => ?_, ?_⟩; (focus (first | (go_simp; done) | (go_simp; first | rfl | (rw [if_neg] <;> first | rfl | omega) | (rw [if_pos] <;> first | rfl | omega)))); (try simp only [Rg4.nrm])) | (refine Rg4.w4_skip (Rg4.uw rfl rfl rfl) ?_; (try simp only [Rg4.nrm])) | (refine Rg4.w4_skip (Rg4.un rfl rfl rfl) ?_; (try simp only [Rg4.nrm])))
            (first | (refine Rg4.w4_read (Rg4.wt rfl rfl rfl) rfl rfl ?_; apply Exists.intro; refine ⟨fun w' hw' hcl' => ?_, ?_⟩; focus (subst hw'; have r0 := st.rowC (i := 0) get0 _ _ HU.out.1; have r1 := st.rowC (i := 0) get0 _ _ HU.out.2.1; have r2 := st.rowC (i := 0) get0 _ _ HU.out.2.2.1; have r3 := st.rowC (i := 0) get0 _ _ HU.out.2.2.2.1; have r4 := st.rowC (i := 0) get0 _ _ HU.out.2.2.2.2; have q0 := st.rowC (i := 0) get0 _ _ HV.out.1; have q1 := st.rowC (i := 0) get0 _ _ HV.out.2.1; have q2 := st.rowC (i := 0) get0 _ _ HV.out.2.2.1; have q3 := st.rowC (i := 0) get0 _ _ HV.out.2.2.2.1; have q4 := st.rowC (i := 0) get0 _ _ HV.out.2.2.2.2; (focus (first | (go_simp; done) | (go_simp; first | rfl | (rw [if_neg] <;> first | rfl | omega) | (rw [if_pos] <;> first | rfl | omega))))); (try simp only [Rg4.nrm])) | (refine Rg4.w4_skip (Rg4.uw rfl rfl rfl) ?_; (try simp only [Rg4.nrm])) | (refine Rg4.w4_skip (Rg4.un rfl rfl rfl) ?_; (try simp only [Rg4.nrm])))
            iterate 4 (first | (refine Rg4.w4_any (Rg4.wt rfl rfl rfl) rfl ?_; apply Exists.intro; refine ⟨fun w' => ?_, ?_⟩; (focus (first | (go_simp; done) | (go_simp; first | rfl | (rw [if_neg] <;> first | rfl | omega) | (rw [if_pos] <;> first | rfl | omega)))); (try simp only [Rg4.nrm])) | (refine Rg4.w4_skip (Rg4.uw rfl rfl rfl) ?_; (try simp only [Rg4.nrm])) | (refine Rg4.w4_skip (Rg4.un rfl rfl rfl) ?_; (try simp only [Rg4.nrm])))
            (first | (refine Rg4.w4_read (Rg4.wt rfl rfl rfl) rfl rfl ?_; apply Exists.intro; refine ⟨fun w' hw' hcl' => ?_, ?_⟩; focus (subst hw'; have r0 := st.rowC (i := 0) get0 _ _ HU.out.1; have r1 := st.rowC (i := 0) get0 _ _ HU.out.2.1; have r2 := st.rowC (i := 0) get0 _ _ HU.out.2.2.1; have r3 := st.rowC (i := 0) get0 _ _ HU.out.2.2.2.1; have r4 := st.rowC (i := 0) get0 _ _ HU.out.2.2.2.2; have q0 := st.rowC (i := 0) get0 _ _ HV.out.1; have q1 := st.rowC (i := 0) get0 _ _ HV.out.2.1; have q2 := st.rowC (i := 0) get0 _ _ HV.out.2.2.1; have q3 := st.rowC (i := 0) get0 _ _ HV.out.2.2.2.1; have q4 := st.rowC (i := 0) get0 _ _ HV.out.2.2.2.2; (focus (first | (go_simp; done) | (go_simp; first | rfl | (rw [if_neg] <;> first | rfl | omega) | (rw [if_pos] <;> first | rfl | omega))))); (try simp only [Rg4.nrm])) | (refine Rg4.w4_skip (Rg4.uw rfl rfl rfl) ?_; (try simp only [Rg4.nrm])) | (refine Rg4.w4_skip (Rg4.un rfl rfl rfl) ?_; (try simp only [Rg4.nrm])))
            refine Rg4.w4_bar (Rg4.want_of 3 21 true rfl rfl rfl) rfl (fun w' hw' hcl _ K hK => ?_)
            subst hw'
            go_wp2_with fail
            refine (HC2.out _ (st.fms (i := 1) get1)).mono ?_
            rintro en w ⟨rfl, hx⟩
            replace st := st.ext hx
            clear hx
            (try clear hc); have hc := st.facts; (try simp only [nfl, nft, Nat.reduceAdd] at hc)
            refine hK _ _ ⟨trivial, ?_⟩
            clear hK
            (try simp only [Rg4.nrm])
            (first | (refine Rg4.w4_any (Rg4.wt rfl rfl rfl) rfl ?_; apply Exists.intro; refine ⟨fun w' => ?_, ?_⟩; (focus (first | (go_simp; done) | (go_simp; first | rfl | (rw [if_neg] <;> first | rfl | omega) | (rw [if_pos] <;> first | rfl | omega)))); (try simp only [Rg4.nrm])) | (refine Rg4.w4_skip (Rg4.uw rfl rfl rfl) ?_; (try simp only [Rg4.nrm])) | (refine Rg4.w4_skip (Rg4.un rfl rfl rfl) ?_; (try simp only [Rg4.nrm])))
            (refine Rg4.w4_any (Rg4.want_none rfl) rfl ?_; apply Exists.intro; refine ⟨fun w' => ?_, ?_⟩; (focus (first | (go_simp; done) | (go_simp; first | rfl | (rw [if_neg] <;> first | rfl | omega) | (rw [if_pos] <;> first | rfl | omega)))); (try simp only [Rg4.nrm]))
            refine Rg4.w4_nil (fun w' hw' hcl' _ => ?_); subst hw'; clear hcl'
            go_wp2_with fail
            refine Rg4.wp_region4_eq #[0, 0, 0, 0, 8, 0, 0, 64, 224, 480, 0, 0, 3072, 7168, 16355, 32739, 65535, 131071] [15, 17] [9, 13] (fun _ => True) [0, 1, 2, 3, 4, 5, 6, 7, 8, 9, 10, 11, 12, 13, 14, 15, 16, 17] (by kernel_rfl) (by kernel_rfl) (by kernel_rfl) (by kernel_rfl) (show Rg4.PB _ by repeat (first | with_reducible exact Rg4.pb_body | with_reducible exact Rg4.pb_bodyD rfl | with_reducible refine Rg4.pb_then ?_ | with_reducible refine Rg4.pb_inBlock ?_ | with_reducible refine Rg4.pb_noGoto ?_)) (trivial) ?_
            replace st := st.drew
            change Rg4.wp4 _ _ _ _ _ _ _ _ _ (World.drew _) _ _
            generalize World.drew _ = w at st ⊢
            (try clear hc); have hc := st.facts; (try simp only [nfl, nft, Nat.reduceAdd] at hc)
            iterate 9 (refine Rg4.w4_any (Rg4.want_none rfl) rfl ?_; apply Exists.intro; refine ⟨fun w' => ?_, ?_⟩; (focus (first | (go_simp; done) | (go_simp; first | rfl | (rw [if_neg] <;> first | rfl | omega) | (rw [if_pos] <;> first | rfl | omega)))); (try simp only [Rg4.nrm]))
            (refine Rg4.w4_read (Rg4.want_none rfl) rfl rfl ?_; apply Exists.intro; refine ⟨fun w' hw' hcl' => ?_, ?_⟩; focus (subst hw'; have r0 := st.rowC (i := 0) get0 _ _ HU.out.1; have r1 := st.rowC (i := 0) get0 _ _ HU.out.2.1; have r2 := st.rowC (i := 0) get0 _ _ HU.out.2.2.1; have r3 := st.rowC (i := 0) get0 _ _ HU.out.2.2.2.1; have r4 := st.rowC (i := 0) get0 _ _ HU.out.2.2.2.2; have q0 := st.rowC (i := 0) get0 _ _ HV.out.1; have q1 := st.rowC (i := 0) get0 _ _ HV.out.2.1; have q2 := st.rowC (i := 0) get0 _ _ HV.out.2.2.1; have q3 := st.rowC (i := 0) get0 _ _ HV.out.2.2.2.1; have q4 := st.rowC (i := 0) get0 _ _ HV.out.2.2.2.2; (focus (first | (go_simp; done) | (go_simp; first | rfl | (rw [if_neg] <;> first | rfl | omega) | (rw [if_pos] <;> first | rfl | omega))))); (try simp only [Rg4.nrm]))
            iterate 3 (refine Rg4.w4_any (Rg4.want_none rfl) rfl ?_; apply Exists.intro; refine ⟨fun w' => ?_, ?_⟩; (focus (first | (go_simp; done) | (go_simp; first | rfl | (rw [if_neg] <;> first | rfl | omega) | (rw [if_pos] <;> first | rfl | omega)))); (try simp only [Rg4.nrm]))
            (refine Rg4.w4_read (Rg4.want_none rfl) rfl rfl ?_; apply Exists.intro; refine ⟨fun w' hw' hcl' => ?_, ?_⟩; focus (subst hw'; have r0 := st.rowC (i := 0) get0 _ _ HU.out.1; have r1 := st.rowC (i := 0) get0 _ _ HU.out.2.1; have r2 := st.rowC (i := 0) get0 _ _ HU.out.2.2.1; have r3 := st.rowC (i := 0) get0 _ _ HU.out.2.2.2.1; have r4 := st.rowC (i := 0) get0 _ _ HU.out.2.2.2.2; have q0 := st.rowC (i := 0) get0 _ _ HV.out.1; have q1 := st.rowC (i := 0) get0 _ _ HV.out.2.1; have q2 := st.rowC (i := 0) get0 _ _ HV.out.2.2.1; have q3 := st.rowC (i := 0) get0 _ _ HV.out.2.2.2.1; have q4 := st.rowC (i := 0) get0 _ _ HV.out.2.2.2.2; (focus (first | (go_simp; done) | (go_simp; first | rfl | (rw [if_neg] <;> first | rfl | omega) | (rw [if_pos] <;> first | rfl | omega))))); (try simp only [Rg4.nrm]))
            (refine Rg4.w4_any (Rg4.want_none rfl) rfl ?_; apply Exists.intro; refine ⟨fun w' => ?_, ?_⟩; (focus (first | (go_simp; done) | (go_simp; first | rfl | (rw [if_neg] <;> first | rfl | omega) | (rw [if_pos] <;> first | rfl | omega)))); (try simp only [Rg4.nrm]))
            refine Rg4.w4_bar (Rg4.want_none rfl) rfl (fun w' hw' hcl _ K hK => ?_)
            subst hw'
            refine owp_storeRow' rfl st ?_
            apply Exists.intro; apply Exists.intro
            refine ⟨?_, ?_, ?_⟩
            (focus (go_simp; try rfl))
            (focus (go_simp; try rfl))
            refine ⟨0, _, _, _, _, _, _, _, _, get0, rfl, rfl, ?_, ?_, ?_, ?_⟩
            · kernel_rfl
            · simp [Value.cells]; omega
            · rfl
            clear st
            intro w st
            simp only [List.set_cons_zero, Value.cells] at st
            rw [HS1.out] at st
            refine hK _ _ ⟨trivial, ?_⟩
            clear hK
            (try simp only [Rg4.nrm])
            (refine Rg4.w4_any (Rg4.want_none rfl) rfl ?_; apply Exists.intro; refine ⟨fun w' => ?_, ?_⟩; (focus (first | (go_simp; done) | (go_simp; first | rfl | (rw [if_neg] <;> first | rfl | omega) | (rw [if_pos] <;> first | rfl | omega)))); (try simp only [Rg4.nrm]))
            refine Rg4.w4_bar (Rg4.want_none rfl) rfl (fun w' hw' hcl _ K hK => ?_)
            subst hw'
            refine owp_storeRow' rfl st ?_
            apply Exists.intro; apply Exists.intro
            refine ⟨?_, ?_, ?_⟩
            (focus (go_simp; try rfl))
            (focus (go_simp; try rfl))
            refine ⟨0, _, _, _, _, _, _, _, _, get0, rfl, rfl, ?_, ?_, ?_, ?_⟩
            · kernel_rfl
            · simp [Value.cells]; omega
            · rfl
            clear st
            intro w st
            simp only [List.set_cons_zero, Value.cells] at st
            rw [HS2.out] at st
            refine hK _ _ ⟨trivial, ?_⟩
            clear hK
            (try simp only [Rg4.nrm])
            refine Rg4.w4_nil (fun w' hw' hcl' _ => ?_); subst hw'; clear hcl'
            rw [HN.out] at st
            go_wp2_with fail
            go_roundg (p + 1)
            case measure => omega
            case rel => exact ⟨p, A', _ :: B, rfl, by omega, by go_num, HJ3, st⟩
    · have hibi : ¬ (i : Int) < (b : Int) := by omega
      have hM2 : M2 = [] := by
        rcases HR.out.1 with ⟨q1, q2⟩ | ⟨q1, q2, q3⟩
        · exact List.eq_nil_of_length_eq_zero (by omega)
        · exact q2
      subst hM2
      have HF : Hid (SP fK M M1 ∧ Srt fK M1) := Lib.hid ⟨by simpa using HR.out.2.1, HR.out.2.2⟩
      clear hsl hln hBl hAl
      go_wp2_with fail
      go_end0
      exact ⟨rfl, M1, HF.out, by simpa using st⟩
end Go.Proofs.Ythjaopojlhdjpaa

namespace Go.Proofs.Ythjaopojlhdjpaa
set_option linter.unusedSimpArgs false
set_option linter.unusedVariables false
open Go Go.RowKit
theorem take_le {X : List Fm} {t : Nat} {x : Fm} (hs : Srt fK X) (hx : X[t]? = some x) : ∀ l ∈ X.take (t + 1), kLt fK x l = false := fun l hl => by
  obtain ⟨ht, rfl⟩ := List.getElem?_eq_some_iff.1 hx
  obtain ⟨q, hq⟩ := List.getElem?_of_mem hl
  have hq2 := (List.getElem?_eq_some_iff.1 hq).1
  rw [List.length_take] at hq2
  rw [List.getElem?_take_of_lt (by omega)] at hq
  obtain ⟨hq3, rfl⟩ := List.getElem?_eq_some_iff.1 hq
  rcases Nat.lt_or_ge q t with r | r
  · exact List.pairwise_iff_getElem.1 hs q t hq3 ht r
  · have e : q = t := by omega
    subst e
    exact kLt_irr _
theorem drop_ge {X : List Fm} {t : Nat} {x : Fm} (hs : Srt fK X) (hx : X[t]? = some x) : ∀ r ∈ X.drop t, kLt fK r x = false := fun r hr => by
  obtain ⟨ht, rfl⟩ := List.getElem?_eq_some_iff.1 hx
  obtain ⟨q, hq⟩ := List.getElem?_of_mem hr
  rw [List.getElem?_drop] at hq
  obtain ⟨hq3, rfl⟩ := List.getElem?_eq_some_iff.1 hq
  rcases Nat.lt_or_ge t (t + q) with r | r
  · exact List.pairwise_iff_getElem.1 hs t (t + q) ht hq3 r
  · have e : q = 0 := by omega
    subst e
    exact kLt_irr _
theorem at_L {P L R : List Fm} {h : Nat} (h1 : P.length ≤ h) (h2 : h < P.length + L.length) : (P ++ (L ++ R))[h]? = L[h - P.length]? := by
  rw [List.getElem?_append_right h1, List.getElem?_append_left (by omega)]
theorem at_R {P L R Q : List Fm} {h : Nat} (h1 : P.length + L.length ≤ h) (h2 : h < P.length + L.length + R.length) : (P ++ (L ++ (R ++ Q)))[h]? = R[h - (P.length + L.length)]? := by
  rw [List.getElem?_append_right (by omega), List.getElem?_append_right (by omega), List.getElem?_append_left (by omega)]
  congr 1; omega
theorem fm_ex (u : Fm) : ∃ op k o d fa fn fc kids, Fm.mk op k (o, d) fa fn fc kids = u := by
  obtain ⟨op, k, ⟨o, d⟩, fa, fn, fc, kids⟩ := u
  exact ⟨op, k, o, d, fa, fn, fc, kids, rfl⟩
theorem srt_one (u : Fm) : Srt fK [u] := List.pairwise_cons.2 ⟨by simp, List.Pairwise.nil⟩
set_option maxRecDepth 100000 in
set_option maxHeartbeats 8000000 in
theorem symMerge_c {g n c : Nat} (base : List Fm) (hn : n ≤ 2000000) (hB : FmsR base) : ∀ (N : Nat) (P L R Q : List Fm), L.length + R.length ≤ N → 0 < L.length → 0 < R.length → Srt fK L → Srt fK R → (∀ x ∈ L ++ R, x ∈ base) → ∀ (fr al : Nat → Prop) (W : World) (a m b : Nat), a = P.length → m = P.length + L.length → b = P.length + L.length + R.length →
    Own fr al W [rowI 26 5 (.slice (some ⟨g, 0, none⟩) n c) n (cellsL (P ++ (L ++ (R ++ Q)))), fmsI base] W →
    Calls Try.prog 179 #[.slice (some ⟨g, 0, none⟩) n c, .int .i64 (a : Int), .int .i64 (m : Int), .int .i64 (b : Int), .func (.func 47) #[] #[]] W fun e w' => e = .returned (.tuple #[]) ∧ ∃ M, (SP fK (L ++ R) M ∧ Srt fK M) ∧ Own fr al W [rowI 26 5 (.slice (some ⟨g, 0, none⟩) n c) n (cellsL (P ++ (M ++ Q))), fmsI base] w' := by
  intro N
  induction N with
  | zero => intro P L R Q h1 h2 h3; omega
  | succ N ih =>
  intro P L R Q hN hL hR hsL hsR hM fr al W a m b ha hm hb st
  have hlen := st.rowLen (i := 0) get0
  simp only [List.length_append] at hlen
  have hbn : b ≤ n ∧ a < m ∧ m < b := by omega
  have HIH := Lib.hid ih
  have HMB := Lib.hid hM
  have HSL := Lib.hid hsL
  have HSR := Lib.hid hsR
  have HCM := Lib.hid (fun x y hx hy W' hw => fmCmp_any hB (x := x) (y := y) hx hy W' hw)
  obtain ⟨ll, hll⟩ : ∃ q, m - a = q := ⟨_, rfl⟩
  obtain ⟨rl, hrl⟩ : ∃ q, b - m = q := ⟨_, rfl⟩
  have w1 : IntKind.i64.wrap ((m : Int) - (a : Int)) = (ll : Int) := by rw [← hll, show (((m - a : Nat)) : Int) = (m : Int) - (a : Int) by omega]; exact IntWalk.i64_in _ ⟨by omega, by omega⟩
  have w2 : IntKind.i64.wrap ((b : Int) - (m : Int)) = (rl : Int) := by rw [← hrl, show (((b - m : Nat)) : Int) = (b : Int) - (m : Int) by omega]; exact IntWalk.i64_in _ ⟨by omega, by omega⟩
  have HD := Lib.hid (show (a = P.length ∧ m = P.length + L.length ∧ b = P.length + L.length + R.length) ∧ (ll = L.length ∧ rl = R.length) ∧ L.length + R.length ≤ N + 1 by omega)
  have HIN : Hid (∀ h x, a ≤ h → h < b → (P ++ (L ++ (R ++ Q)))[h]? = some x → x ∈ base) := Lib.hid (fun h x h1 h2 hx => by
    refine hM x ?_
    rw [← List.append_assoc L, at_L (by omega) (by simp; omega)] at hx
    exact List.mem_of_getElem? hx)
  clear ih ha hm hb hM hsL hsR hN hL hR hll hrl hlen
  by_cases hl1 : ll = 1
  · subst hl1
    obtain ⟨u, rfl⟩ : ∃ u, L = [u] := List.length_eq_one_iff.1 HD.out.2.1.1.symm
    obtain ⟨op, k, o, d, fa, fn, fc, kids, hu⟩ := fm_ex u
    have HUE := Lib.hid hu
    clear hu
    obtain ⟨zs, hz⟩ : ∃ zs, P ++ ([u] ++ (R ++ Q)) = zs := ⟨_, rfl⟩
    rw [hz] at st HIN
    have HZ := Lib.hid hz
    have HZL := Lib.hid (st.rowLen (i := 0) get0)
    have hza : zs[a]? = some u := by rw [← hz, HD.out.1.1]; simp
    have hub := HIN.out a u (by omega) (by omega) hza
    have HUB := Lib.hid hub
    have HZA := Lib.hid hza
    have HU := Lib.hid (fm_cells (by rw [HUE.out]; exact hza))
    clear hz hza hub
    (try simp only [nsl, Value.cells, unB] at st)
    (try clear hc); have hc := st.facts; (try simp only [nfl, nft, Nat.reduceAdd] at hc)
    go_enter Try.func179, Try.ntmps179
    go_wp2_with fail
    go_loopg [10, 11] (b - m) (fun q iv jv wr => ∃ (i j : Nat), q = j - i ∧ (m ≤ i ∧ i ≤ j ∧ j ≤ b) ∧ iv = .int .i64 (i : Int) ∧ jv = .int .i64 (j : Int) ∧ Hid ((i = m ∨ ∃ x, zs[i - 1]? = some x ∧ kLt fK x u = true) ∧ (j = b ∨ ∃ x, zs[j]? = some x ∧ kLt fK x u = false)) ∧ Own fr al W [rowI 26 5 (.slice (some ⟨g, 0, none⟩) n c) n (cellsL zs), fmsI base] wr)
    case atStart => exact ⟨m, b, rfl, by omega, rfl, rfl, Lib.hid ⟨.inl rfl, .inl rfl⟩, st⟩
    case round =>
      obtain ⟨i, j, rfl, hij, rfl, rfl, HIJ, st'⟩ := hrel
      clear st hc
      have st := st'
      clear st'
      by_cases hlt : i < j
      · skip
        obtain ⟨s, hs⟩ : ∃ q, i + j = q := ⟨_, rfl⟩
        have w3 : IntKind.i64.wrap ((i : Int) + (j : Int)) = (s : Int) := by rw [← hs]; exact IntWalk.i64_in _ ⟨by omega, by omega⟩
        obtain ⟨h, hh⟩ : ∃ q, s / 2 = q := ⟨_, rfl⟩
        have w4 : (s : Int) / 2 = (h : Int) := by omega
        have hhr : i ≤ h ∧ h < j := by omega
        have w5 : IntKind.i64.wrap ((h : Int) + 1) = ((h + 1 : Nat) : Int) := IntWalk.i64_in _ ⟨by omega, by omega⟩
        have hsn : s ≤ 4000000 := by omega
        obtain ⟨x, hx⟩ : ∃ x, zs[h]? = some x := ⟨_, List.getElem?_eq_getElem (by have := HZL.out; omega)⟩
        have hxb := HIN.out h x (by omega) (by omega) hx
        obtain ⟨cv, hcv⟩ : ∃ z, cmp2 (fK x) (fK u) = z := ⟨_, rfl⟩
        have HC2 := Lib.hid (fun W' hw => HCM.out x u hxb HUB.out W' hw)
        have hneg := cmp2_neg (fK x) (fK u)
        rw [hcv] at HC2 hneg
        obtain ⟨lv, hlv⟩ : ∃ z, kLt fK x u = z := ⟨_, rfl⟩
        have hlv2 : strLt (fK x) (fK u) = lv := hlv
        rw [hlv2] at hneg
        have HX := Lib.hid hx
        have HQ : Hid (kLt fK x u = lv) := Lib.hid hlv
        have HE : Hid (∃ x, zs[h]? = some x ∧ kLt fK x u = lv) := Lib.hid ⟨x, hx, hlv⟩
        rw [← HUE.out] at HC2
        have hhn : h < n := by omega
        have han : a < n := by omega
        clear hcv hlv hlv2 hs hh hxb HQ HX
        obtain ⟨op2, k2, ⟨o2, d2⟩, fa2, fn2, fc2, kids2⟩ := x
        have HV := Lib.hid (fm_cells hx)
        clear hx
        unfold fmV S at HC2
        simp only at HC2
        cases lv with
        | true =>
          have hng : cv < 0 := hneg.2 rfl
          have HIJ2 : Hid ((h + 1 = m ∨ ∃ x, zs[h + 1 - 1]? = some x ∧ kLt fK x u = true) ∧ (j = b ∨ ∃ x, zs[j]? = some x ∧ kLt fK x u = false)) := Lib.hid ⟨.inr (by simpa using HE.out), HIJ.out.2⟩
          clear hneg
          (try simp only [nsl, Value.cells, unB] at st)
          (try clear hc); have hc := st.facts; (try simp only [nfl, nft, Nat.reduceAdd] at hc)
          go_wp2_with fail
          refine Rg4.wp_region4_eq #[0, 0, 0, 6, 14, 0, 0, 96, 224, 511, 1023] [9] [4, 8] (fun _ => True) [0, 1, 2, 3, 4, 5, 6, 7, 8, 9, 10] (by kernel_rfl) (by kernel_rfl) (by kernel_rfl) (by kernel_rfl) (show Rg4.PB _ by repeat (first | with_reducible exact Rg4.pb_body | with_reducible exact Rg4.pb_bodyD rfl | with_reducible refine Rg4.pb_then ?_ | with_reducible refine Rg4.pb_inBlock ?_ | with_reducible refine Rg4.pb_noGoto ?_)) (trivial) ?_
          replace st := st.drew
          change Rg4.wp4 _ _ _ _ _ _ _ _ _ (World.drew _) _ _
          generalize World.drew _ = w at st ⊢
          (try clear hc); have hc := st.facts; (try simp only [nfl, nft, Nat.reduceAdd] at hc)
          iterate 4 (refine Rg4.w4_any (Rg4.want_none rfl) rfl ?_; apply Exists.intro; refine ⟨fun w' => ?_, ?_⟩; (focus (first | (go_simp; done) | (go_simp; first | rfl | (rw [if_neg] <;> first | rfl | omega) | (rw [if_pos] <;> first | rfl | omega)))); (try simp only [Rg4.nrm]))
          (refine Rg4.w4_read (Rg4.want_none rfl) rfl rfl ?_; apply Exists.intro; refine ⟨fun w' hw' hcl' => ?_, ?_⟩; focus (subst hw'; have r0 := st.rowC (i := 0) get0 _ _ HU.out.1; have r1 := st.rowC (i := 0) get0 _ _ HU.out.2.1; have r2 := st.rowC (i := 0) get0 _ _ HU.out.2.2.1; have r3 := st.rowC (i := 0) get0 _ _ HU.out.2.2.2.1; have r4 := st.rowC (i := 0) get0 _ _ HU.out.2.2.2.2; have q0 := st.rowC (i := 0) get0 _ _ HV.out.1; have q1 := st.rowC (i := 0) get0 _ _ HV.out.2.1; have q2 := st.rowC (i := 0) get0 _ _ HV.out.2.2.1; have q3 := st.rowC (i := 0) get0 _ _ HV.out.2.2.2.1; have q4 := st.rowC (i := 0) get0 _ _ HV.out.2.2.2.2; (focus (first | (go_simp; done) | (go_simp; first | rfl | (rw [if_neg] <;> first | rfl | omega) | (rw [if_pos] <;> first | rfl | omega))))); (try simp only [Rg4.nrm]))
          iterate 3 (refine Rg4.w4_any (Rg4.want_none rfl) rfl ?_; apply Exists.intro; refine ⟨fun w' => ?_, ?_⟩; (focus (first | (go_simp; done) | (go_simp; first | rfl | (rw [if_neg] <;> first | rfl | omega) | (rw [if_pos] <;> first | rfl | omega)))); (try simp only [Rg4.nrm]))
          (refine Rg4.w4_read (Rg4.want_none rfl) rfl rfl ?_; apply Exists.intro; refine ⟨fun w' hw' hcl' => ?_, ?_⟩; focus (subst hw'; have r0 := st.rowC (i := 0) get0 _ _ HU.out.1; have r1 := st.rowC (i := 0) get0 _ _ HU.out.2.1; have r2 := st.rowC (i := 0) get0 _ _ HU.out.2.2.1; have r3 := st.rowC (i := 0) get0 _ _ HU.out.2.2.2.1; have r4 := st.rowC (i := 0) get0 _ _ HU.out.2.2.2.2; have q0 := st.rowC (i := 0) get0 _ _ HV.out.1; have q1 := st.rowC (i := 0) get0 _ _ HV.out.2.1; have q2 := st.rowC (i := 0) get0 _ _ HV.out.2.2.1; have q3 := st.rowC (i := 0) get0 _ _ HV.out.2.2.2.1; have q4 := st.rowC (i := 0) get0 _ _ HV.out.2.2.2.2; (focus (first | (go_simp; done) | (go_simp; first | rfl | (rw [if_neg] <;> first | rfl | omega) | (rw [if_pos] <;> first | rfl | omega))))); (try simp only [Rg4.nrm]))
          refine Rg4.w4_bar (Rg4.want_none rfl) rfl (fun w' hw' hcl _ K hK => ?_)
          subst hw'
          go_wp2_with fail
          refine (HC2.out _ (st.fms (i := 1) get1)).mono ?_
          rintro en w ⟨rfl, hx⟩
          replace st := st.ext hx
          clear hx
          (try clear hc); have hc := st.facts; (try simp only [nfl, nft, Nat.reduceAdd] at hc)
          refine hK _ _ ⟨trivial, ?_⟩
          clear hK
          (try simp only [Rg4.nrm])
          (refine Rg4.w4_any (Rg4.want_none rfl) rfl ?_; apply Exists.intro; refine ⟨fun w' => ?_, ?_⟩; (focus (first | (go_simp; done) | (go_simp; first | rfl | (rw [if_neg] <;> first | rfl | omega) | (rw [if_pos] <;> first | rfl | omega)))); (try simp only [Rg4.nrm]))
          refine Rg4.w4_nil (fun w' hw' hcl' _ => ?_); subst hw'; clear hcl'
          go_wp2_with fail
          go_roundg (j - (h + 1))
          case measure => omega
          case rel => exact ⟨h + 1, j, rfl, by omega, rfl, rfl, HIJ2, st⟩
        | false =>
          have hng : ¬ cv < 0 := fun q => by have := hneg.1 q; cases this
          have HIJ2 : Hid ((i = m ∨ ∃ x, zs[i - 1]? = some x ∧ kLt fK x u = true) ∧ (h = b ∨ ∃ x, zs[h]? = some x ∧ kLt fK x u = false)) := Lib.hid ⟨HIJ.out.1, .inr HE.out⟩
          clear hneg
          (try simp only [nsl, Value.cells, unB] at st)
          (try clear hc); have hc := st.facts; (try simp only [nfl, nft, Nat.reduceAdd] at hc)
          go_wp2_with fail
          refine Rg4.wp_region4_eq #[0, 0, 0, 6, 14, 0, 0, 96, 224, 511, 1023] [9] [4, 8] (fun _ => True) [0, 1, 2, 3, 4, 5, 6, 7, 8, 9, 10] (by kernel_rfl) (by kernel_rfl) (by kernel_rfl) (by kernel_rfl) (show Rg4.PB _ by repeat (first | with_reducible exact Rg4.pb_body | with_reducible exact Rg4.pb_bodyD rfl | with_reducible refine Rg4.pb_then ?_ | with_reducible refine Rg4.pb_inBlock ?_ | with_reducible refine Rg4.pb_noGoto ?_)) (trivial) ?_
          replace st := st.drew
          change Rg4.wp4 _ _ _ _ _ _ _ _ _ (World.drew _) _ _
          generalize World.drew _ = w at st ⊢
          (try clear hc); have hc := st.facts; (try simp only [nfl, nft, Nat.reduceAdd] at hc)
          iterate 4 (refine Rg4.w4_any (Rg4.want_none rfl) rfl ?_; apply Exists.intro; refine ⟨fun w' => ?_, ?_⟩; (focus (first | (go_simp; done) | (go_simp; first | rfl | (rw [if_neg] <;> first | rfl | omega) | (rw [if_pos] <;> first | rfl | omega)))); (try simp only [Rg4.nrm]))
          (refine Rg4.w4_read (Rg4.want_none rfl) rfl rfl ?_; apply Exists.intro; refine ⟨fun w' hw' hcl' => ?_, ?_⟩; focus (subst hw'; have r0 := st.rowC (i := 0) get0 _ _ HU.out.1; have r1 := st.rowC (i := 0) get0 _ _ HU.out.2.1; have r2 := st.rowC (i := 0) get0 _ _ HU.out.2.2.1; have r3 := st.rowC (i := 0) get0 _ _ HU.out.2.2.2.1; have r4 := st.rowC (i := 0) get0 _ _ HU.out.2.2.2.2; have q0 := st.rowC (i := 0) get0 _ _ HV.out.1; have q1 := st.rowC (i := 0) get0 _ _ HV.out.2.1; have q2 := st.rowC (i := 0) get0 _ _ HV.out.2.2.1; have q3 := st.rowC (i := 0) get0 _ _ HV.out.2.2.2.1; have q4 := st.rowC (i := 0) get0 _ _ HV.out.2.2.2.2; (focus (first | (go_simp; done) | (go_simp; first | rfl | (rw [if_neg] <;> first | rfl | omega) | (rw [if_pos] <;> first | rfl | omega))))); (try simp only [Rg4.nrm]))
          iterate 3 (refine Rg4.w4_any (Rg4.want_none rfl) rfl ?_; apply Exists.intro; refine ⟨fun w' => ?_, ?_⟩; (focus (first | (go_simp; done) | (go_simp; first | rfl | (rw [if_neg] <;> first | rfl | omega) | (rw [if_pos] <;> first | rfl | omega)))); (try simp only [Rg4.nrm]))
          (refine Rg4.w4_read (Rg4.want_none rfl) rfl rfl ?_; apply Exists.intro; refine ⟨fun w' hw' hcl' => ?_, ?_⟩; focus (subst hw'; have r0 := st.rowC (i := 0) get0 _ _ HU.out.1; have r1 := st.rowC (i := 0) get0 _ _ HU.out.2.1; have r2 := st.rowC (i := 0) get0 _ _ HU.out.2.2.1; have r3 := st.rowC (i := 0) get0 _ _ HU.out.2.2.2.1; have r4 := st.rowC (i := 0) get0 _ _ HU.out.2.2.2.2; have q0 := st.rowC (i := 0) get0 _ _ HV.out.1; have q1 := st.rowC (i := 0) get0 _ _ HV.out.2.1; have q2 := st.rowC (i := 0) get0 _ _ HV.out.2.2.1; have q3 := st.rowC (i := 0) get0 _ _ HV.out.2.2.2.1; have q4 := st.rowC (i := 0) get0 _ _ HV.out.2.2.2.2; (focus (first | (go_simp; done) | (go_simp; first | rfl | (rw [if_neg] <;> first | rfl | omega) | (rw [if_pos] <;> first | rfl | omega))))); (try simp only [Rg4.nrm]))
          refine Rg4.w4_bar (Rg4.want_none rfl) rfl (fun w' hw' hcl _ K hK => ?_)
          subst hw'
          go_wp2_with fail
          refine (HC2.out _ (st.fms (i := 1) get1)).mono ?_
          rintro en w ⟨rfl, hx⟩
          replace st := st.ext hx
          clear hx
          (try clear hc); have hc := st.facts; (try simp only [nfl, nft, Nat.reduceAdd] at hc)
          refine hK _ _ ⟨trivial, ?_⟩
          clear hK
          (try simp only [Rg4.nrm])
          (refine Rg4.w4_any (Rg4.want_none rfl) rfl ?_; apply Exists.intro; refine ⟨fun w' => ?_, ?_⟩; (focus (first | (go_simp; done) | (go_simp; first | rfl | (rw [if_neg] <;> first | rfl | omega) | (rw [if_pos] <;> first | rfl | omega)))); (try simp only [Rg4.nrm]))
          refine Rg4.w4_nil (fun w' hw' hcl' _ => ?_); subst hw'; clear hcl'
          go_wp2_with fail
          go_roundg (h - i)
          case measure => omega
          case rel => exact ⟨i, h, rfl, by omega, rfl, rfl, HIJ2, st⟩
      · obtain rfl : i = j := by omega
        obtain ⟨t, ht⟩ : ∃ q, i - m = q := ⟨_, rfl⟩
        have hD := HD.out
        simp only [List.length_cons, List.length_nil] at hD
        have hc1 : ∀ r ∈ R.take t, kLt fK r u = true := by
          rcases HIJ.out.1 with q | ⟨x, q1, q2⟩
          · have : t = 0 := by omega
            subst this; simp
          · rcases Nat.eq_zero_or_pos t with t0 | t0
            · subst t0; simp
            · rw [← HZ.out, at_R (by simp; omega) (by simp; omega)] at q1
              simp only [List.length_cons, List.length_nil] at q1
              rw [show i - 1 - (P.length + (0 + 1)) = t - 1 by omega] at q1
              have := take_le HSR.out q1
              rw [show t - 1 + 1 = t by omega] at this
              exact fun r hr => kLe_lt (this r hr) q2
        have hc2 : ∀ r ∈ R.drop t, kLt fK r u = false := by
          rcases HIJ.out.2 with q | ⟨x, q1, q2⟩
          · rw [List.drop_of_length_le (by omega)]; simp
          · rcases Nat.lt_or_ge i b with t0 | t0
            · rw [← HZ.out, at_R (by simp; omega) (by simp; omega)] at q1
              simp only [List.length_cons, List.length_nil] at q1
              rw [show i - (P.length + (0 + 1)) = t by omega] at q1
              exact fun r hr => kLe_tr q2 (drop_ge HSR.out q1 r hr)
            · rw [List.drop_of_length_le (by omega)]; simp
        have eR : R = R.take t ++ R.drop t := (List.take_append_drop _ _).symm
        have lR : (R.take t).length = t := by simp; omega
        generalize R.take t = R1 at *
        generalize R.drop t = R2 at *
        subst eR
        have hsp := sym_sp (key := fK) (L1 := []) (L2 := [u]) (R1 := R1) (R2 := R2) (fun r hr l hl => by rw [List.mem_singleton.1 hl]; exact hc1 r hr)
        have hst := sym_srt (key := fK) (L1 := []) (L2 := [u]) (R1 := R1) (R2 := R2) (A := R1) (B := u :: R2) (srt_one u) HSR.out (by simp) (fun r hr l hl => by rw [List.mem_singleton.1 hl]; exact hc1 r hr) (SP.refl _) HSR.out.left (SP.refl _) (List.pairwise_cons.2 ⟨hc2, HSR.out.right⟩)
        have HF : Hid (SP fK ([u] ++ (R1 ++ R2)) (R1 ++ u :: R2) ∧ Srt fK (R1 ++ u :: R2)) := Lib.hid ⟨by simpa using hsp, hst⟩
        obtain ⟨i1, hi1⟩ : ∃ q, i - 1 = q := ⟨_, rfl⟩
        have w6 : IntKind.i64.wrap ((i : Int) - 1) = (i1 : Int) := by rw [← hi1, show (((i - 1 : Nat)) : Int) = (i : Int) - 1 by omega]; exact IntWalk.i64_in _ ⟨by omega, by omega⟩
        have hi1t : i1 = a + t := by omega
        have HRT := Lib.hid lR
        have htn : a + t + 1 ≤ n := by omega
        have st0 : Own fr al W [rowI 26 5 (.slice (some ⟨g, 0, none⟩) n c) n (cellsL (P ++ (R1.take 0 ++ u :: (R1.drop 0 ++ (R2 ++ Q))))), fmsI base] wr := by
          have := HZ.out
          rw [← this] at st
          simpa using st
        clear st hc1 hc2 hsp hst hD ht hi1 HIJ HZ lR hij
        have st := st0
        clear st0
        (try simp only [nsl, Value.cells, unB] at st)
        (try clear hc); have hc := st.facts; (try simp only [nfl, nft, Nat.reduceAdd] at hc)
        go_wp2_with fail
        go_loopg [13] t (fun q kv wr => ∃ (y : Nat), q = t - y ∧ y ≤ t ∧ kv = .int .i64 ((a + y : Nat) : Int) ∧ Own fr al W [rowI 26 5 (.slice (some ⟨g, 0, none⟩) n c) n (cellsL (P ++ (R1.take y ++ u :: (R1.drop y ++ (R2 ++ Q))))), fmsI base] wr)
        case atStart => exact ⟨0, by omega, by omega, rfl, st⟩
        case round =>
          obtain ⟨y, rfl, hy, rfl, st'⟩ := hrel
          clear st hc
          have st := st'
          clear st'
          obtain ⟨p, hp⟩ : ∃ q, a + y = q := ⟨_, rfl⟩
          rw [hp]
          by_cases hyt : y < t
          · have hyr : y < R1.length := by have := HRT.out; omega
            obtain ⟨v, hv⟩ : ∃ v, R1[y] = v := ⟨_, rfl⟩
            have e1 : R1.drop y = v :: R1.drop (y + 1) := by rw [List.drop_eq_getElem_cons hyr, hv]
            have e2 : R1.take (y + 1) = R1.take y ++ [v] := by rw [← hv]; exact (List.take_append_getElem hyr).symm
            have hpl : p = (P ++ R1.take y).length := by have := HD.out.1.1; simp; omega
            obtain ⟨q, hq⟩ : ∃ q, p + 1 = q := ⟨_, rfl⟩
            have hql : q = (P ++ R1.take y).length + 1 + ([] : List Fm).length := by simp at hpl ⊢; omega
            obtain ⟨zz, hzz⟩ : ∃ z, (P ++ R1.take y) ++ u :: ([] ++ v :: (R1.drop (y + 1) ++ (R2 ++ Q))) = z := ⟨_, rfl⟩
            have hz2 : P ++ (R1.take y ++ u :: (R1.drop y ++ (R2 ++ Q))) = zz := by rw [← hzz, e1]; simp
            rw [hz2] at st
            have hzl2 := st.rowLen (i := 0) get0
            have hzp : zz[p]? = some u := by rw [← hzz, hpl]; exact at_p _ _ _ _ _
            have hzq : zz[q]? = some v := by rw [← hzz, hql]; exact at_q _ _ _ _ _
            have hpz : p < zz.length := (List.getElem?_eq_some_iff.1 hzp).1
            have hqz : q < zz.length := (List.getElem?_eq_some_iff.1 hzq).1
            have HN : Hid ((zz.set p v).set q u = P ++ (R1.take (y + 1) ++ u :: (R1.drop (y + 1) ++ (R2 ++ Q)))) := Lib.hid (by
              have := swap_pq (P ++ R1.take y) [] (R1.drop (y + 1) ++ (R2 ++ Q)) u v
              rw [← hql, ← hpl, hzz] at this
              rw [this, e2]; simp)
            have w7 : IntKind.i64.wrap ((p : Int) + 1) = (q : Int) := by rw [← hq]; exact IntWalk.i64_in _ ⟨by omega, by omega⟩
            have hpi : (p : Int) < (i1 : Int) := by omega
            have hpn : p < n := by omega
            have hqn : q < n := by omega
            have hay : ((a + (y + 1) : Nat) : Int) = (q : Int) := by omega
            rw [← HUE.out] at hzp HN
            obtain ⟨op2, k2, ⟨o2, d2⟩, fa2, fn2, fc2, kids2⟩ := v
            have HU := Lib.hid (fm_cells hzp)
            have HV := Lib.hid (fm_cells hzq)
            have HS1 := Lib.hid (fm_store hpz op2 k2 o2 d2 fa2 fn2 fc2 kids2)
            have HS2 := Lib.hid (fm_store (zs := zz.set p (.mk op2 k2 (o2, d2) fa2 fn2 fc2 kids2)) (j := q) (by simpa using hqz) op k o d fa fn fc kids)
            clear hzp hzq hpz hqz e1 e2 hpl hql hzz hz2 hzl2 hv hyr hp hq
            (try simp only [nsl, Value.cells, unB] at st)
            (try clear hc); have hc := st.facts; (try simp only [nfl, nft, Nat.reduceAdd] at hc)
            go_wp2_with fail
            refine Rg4.wp_region4_eq #[0, 0, 0, 0, 8, 0, 0, 64, 224, 480, 0, 0, 3072, 7168, 16355, 32739, 65535, 131071] [15, 17] [9, 13] (fun _ => True) [0, 1, 2, 3, 4, 5, 6, 7, 8, 9, 10, 11, 12, 13, 14, 15, 16, 17] (by kernel_rfl) (by kernel_rfl) (by kernel_rfl) (by kernel_rfl) (show Rg4.PB _ by repeat (first | with_reducible exact Rg4.pb_body | with_reducible exact Rg4.pb_bodyD rfl | with_reducible refine Rg4.pb_then ?_ | with_reducible refine Rg4.pb_inBlock ?_ | with_reducible refine Rg4.pb_noGoto ?_)) (trivial) ?_
            replace st := st.drew
            change Rg4.wp4 _ _ _ _ _ _ _ _ _ (World.drew _) _ _
            generalize World.drew _ = w at st ⊢
            (try clear hc); have hc := st.facts; (try simp only [nfl, nft, Nat.reduceAdd] at hc)
            iterate 9 (refine Rg4.w4_any (Rg4.want_none rfl) rfl ?_; apply Exists.intro; refine ⟨fun w' => ?_, ?_⟩; (focus (first | (go_simp; done) | (go_simp; first | rfl | (rw [if_neg] <;> first | rfl | omega) | (rw [if_pos] <;> first | rfl | omega)))); (try simp only [Rg4.nrm]))
            (refine Rg4.w4_read (Rg4.want_none rfl) rfl rfl ?_; apply Exists.intro; refine ⟨fun w' hw' hcl' => ?_, ?_⟩; focus (subst hw'; have r0 := st.rowC (i := 0) get0 _ _ HU.out.1; have r1 := st.rowC (i := 0) get0 _ _ HU.out.2.1; have r2 := st.rowC (i := 0) get0 _ _ HU.out.2.2.1; have r3 := st.rowC (i := 0) get0 _ _ HU.out.2.2.2.1; have r4 := st.rowC (i := 0) get0 _ _ HU.out.2.2.2.2; have q0 := st.rowC (i := 0) get0 _ _ HV.out.1; have q1 := st.rowC (i := 0) get0 _ _ HV.out.2.1; have q2 := st.rowC (i := 0) get0 _ _ HV.out.2.2.1; have q3 := st.rowC (i := 0) get0 _ _ HV.out.2.2.2.1; have q4 := st.rowC (i := 0) get0 _ _ HV.out.2.2.2.2; (focus (first | (go_simp; done) | (go_simp; first | rfl | (rw [if_neg] <;> first | rfl | omega) | (rw [if_pos] <;> first | rfl | omega))))); (try simp only [Rg4.nrm]))
            iterate 3 (refine Rg4.w4_any (Rg4.want_none rfl) rfl ?_; apply Exists.intro; refine ⟨fun w' => ?_, ?_⟩; (focus (first | (go_simp; done) | (go_simp; first | rfl | (rw [if_neg] <;> first | rfl | omega) | (rw [if_pos] <;> first | rfl | omega)))); (try simp only [Rg4.nrm]))
            (refine Rg4.w4_read (Rg4.want_none rfl) rfl rfl ?_; apply Exists.intro; refine ⟨fun w' hw' hcl' => ?_, ?_⟩; focus (subst hw'; have r0 := st.rowC (i := 0) get0 _ _ HU.out.1; have r1 := st.rowC (i := 0) get0 _ _ HU.out.2.1; have r2 := st.rowC (i := 0) get0 _ _ HU.out.2.2.1; have r3 := st.rowC (i := 0) get0 _ _ HU.out.2.2.2.1; have r4 := st.rowC (i := 0) get0 _ _ HU.out.2.2.2.2; have q0 := st.rowC (i := 0) get0 _ _ HV.out.1; have q1 := st.rowC (i := 0) get0 _ _ HV.out.2.1; have q2 := st.rowC (i := 0) get0 _ _ HV.out.2.2.1; have q3 := st.rowC (i := 0) get0 _ _ HV.out.2.2.2.1; have q4 := st.rowC (i := 0) get0 _ _ HV.out.2.2.2.2; (focus (first | (go_simp; done) | (go_simp; first | rfl | (rw [if_neg] <;> first | rfl | omega) | (rw [if_pos] <;> first | rfl | omega))))); (try simp only [Rg4.nrm]))
            (refine Rg4.w4_any (Rg4.want_none rfl) rfl ?_; apply Exists.intro; refine ⟨fun w' => ?_, ?_⟩; (focus (first | (go_simp; done) | (go_simp; first | rfl | (rw [if_neg] <;> first | rfl | omega) | (rw [if_pos] <;> first | rfl | omega)))); (try simp only [Rg4.nrm]))
            refine Rg4.w4_bar (Rg4.want_none rfl) rfl (fun w' hw' hcl _ K hK => ?_)
            subst hw'
            refine owp_storeRow' rfl st ?_
            apply Exists.intro; apply Exists.intro
            refine ⟨?_, ?_, ?_⟩
            (focus (go_simp; try rfl))
            (focus (go_simp; try rfl))
            refine ⟨0, _, _, _, _, _, _, _, _, get0, rfl, rfl, ?_, ?_, ?_, ?_⟩
            · kernel_rfl
            · simp [Value.cells]; omega
            · rfl
            clear st
            intro w st
            simp only [List.set_cons_zero, Value.cells] at st
            rw [HS1.out] at st
            refine hK _ _ ⟨trivial, ?_⟩
            clear hK
            (try simp only [Rg4.nrm])
            (refine Rg4.w4_any (Rg4.want_none rfl) rfl ?_; apply Exists.intro; refine ⟨fun w' => ?_, ?_⟩; (focus (first | (go_simp; done) | (go_simp; first | rfl | (rw [if_neg] <;> first | rfl | omega) | (rw [if_pos] <;> first | rfl | omega)))); (try simp only [Rg4.nrm]))
            refine Rg4.w4_bar (Rg4.want_none rfl) rfl (fun w' hw' hcl _ K hK => ?_)
            subst hw'
            refine owp_storeRow' rfl st ?_
            apply Exists.intro; apply Exists.intro
            refine ⟨?_, ?_, ?_⟩
            (focus (go_simp; try rfl))
            (focus (go_simp; try rfl))
            refine ⟨0, _, _, _, _, _, _, _, _, get0, rfl, rfl, ?_, ?_, ?_, ?_⟩
            · kernel_rfl
            · simp [Value.cells]; omega
            · rfl
            clear st
            intro w st
            simp only [List.set_cons_zero, Value.cells] at st
            rw [HS2.out] at st
            refine hK _ _ ⟨trivial, ?_⟩
            clear hK
            (try simp only [Rg4.nrm])
            refine Rg4.w4_nil (fun w' hw' hcl' _ => ?_); subst hw'; clear hcl'
            rw [HN.out, HUE.out] at st
            go_wp2_with fail
            go_roundg (t - (y + 1))
            case measure => omega
            case rel => exact ⟨y + 1, rfl, by omega, by rw [hay], st⟩
          · obtain rfl : y = t := by omega
            have hpi : ¬ (p : Int) < (i1 : Int) := by omega
            have st0 : Own fr al W [rowI 26 5 (.slice (some ⟨g, 0, none⟩) n c) n (cellsL (P ++ ((R1 ++ u :: R2) ++ Q))), fmsI base] wr := by
              rw [List.take_of_length_le (by have := HRT.out; omega), List.drop_of_length_le (by have := HRT.out; omega)] at st
              simpa using st
            clear st
            have st := st0
            clear st0
            go_wp2_with fail
            (try simp only [Exit.inBlock, Exit.then])
            refine bodyPost_ret (results_none rfl _ _ _) rfl ?_
            exact ⟨rfl, R1 ++ u :: R2, HF.out, st⟩
  · by_cases hr1 : rl = 1
    · subst hr1
      obtain ⟨v, rfl⟩ : ∃ v, R = [v] := List.length_eq_one_iff.1 HD.out.2.1.2.symm
      obtain ⟨op, k, o, d, fa, fn, fc, kids, hu⟩ := fm_ex v
      have HUE := Lib.hid hu
      clear hu
      obtain ⟨zs, hz⟩ : ∃ zs, P ++ (L ++ ([v] ++ Q)) = zs := ⟨_, rfl⟩
      rw [hz] at st HIN
      have HZ := Lib.hid hz
      have HZL := Lib.hid (st.rowLen (i := 0) get0)
      have hza : zs[m]? = some v := by
        have hD := HD.out
        simp only [List.length_cons, List.length_nil] at hD
        rw [← hz, at_R (by omega) (by simp; omega), show m - (P.length + L.length) = 0 by omega]; rfl
      have hub := HIN.out m v (by omega) (by omega) hza
      have HUB := Lib.hid hub
      have HU := Lib.hid (fm_cells (by rw [HUE.out]; exact hza))
      have hlne : ¬ (ll : Int) = 1 := by omega
      have hlneb : ((ll : Int) == 1) = false := by simp; omega
      clear hz hza hub
      (try simp only [nsl, Value.cells, unB] at st)
      (try clear hc); have hc := st.facts; (try simp only [nfl, nft, Nat.reduceAdd] at hc)
      go_enter Try.func179, Try.ntmps179
      go_wp2_with fail
      go_loopg [14, 15] (m - a) (fun q iv jv wr => ∃ (i j : Nat), q = j - i ∧ (a ≤ i ∧ i ≤ j ∧ j ≤ m) ∧ iv = .int .i64 (i : Int) ∧ jv = .int .i64 (j : Int) ∧ Hid ((i = a ∨ ∃ x, zs[i - 1]? = some x ∧ kLt fK v x = false) ∧ (j = m ∨ ∃ x, zs[j]? = some x ∧ kLt fK v x = true)) ∧ Own fr al W [rowI 26 5 (.slice (some ⟨g, 0, none⟩) n c) n (cellsL zs), fmsI base] wr)
      case atStart => exact ⟨a, m, rfl, by omega, rfl, rfl, Lib.hid ⟨.inl rfl, .inl rfl⟩, st⟩
      case round =>
        obtain ⟨i, j, rfl, hij, rfl, rfl, HIJ, st'⟩ := hrel
        clear st hc
        have st := st'
        clear st'
        by_cases hlt : i < j
        · skip
          obtain ⟨s, hs⟩ : ∃ q, i + j = q := ⟨_, rfl⟩
          have w3 : IntKind.i64.wrap ((i : Int) + (j : Int)) = (s : Int) := by rw [← hs]; exact IntWalk.i64_in _ ⟨by omega, by omega⟩
          obtain ⟨h, hh⟩ : ∃ q, s / 2 = q := ⟨_, rfl⟩
          have w4 : (s : Int) / 2 = (h : Int) := by omega
          have hhr : i ≤ h ∧ h < j := by omega
          have w5 : IntKind.i64.wrap ((h : Int) + 1) = ((h + 1 : Nat) : Int) := IntWalk.i64_in _ ⟨by omega, by omega⟩
          have hsn : s ≤ 4000000 := by omega
          obtain ⟨x, hx⟩ : ∃ x, zs[h]? = some x := ⟨_, List.getElem?_eq_getElem (by have := HZL.out; omega)⟩
          have hxb := HIN.out h x (by omega) (by omega) hx
          obtain ⟨cv, hcv⟩ : ∃ z, cmp2 (fK v) (fK x) = z := ⟨_, rfl⟩
          have HC2 := Lib.hid (fun W' hw => HCM.out v x HUB.out hxb W' hw)
          have hneg := cmp2_neg (fK v) (fK x)
          rw [hcv] at HC2 hneg
          obtain ⟨lv, hlv⟩ : ∃ z, kLt fK v x = z := ⟨_, rfl⟩
          have hlv2 : strLt (fK v) (fK x) = lv := hlv
          rw [hlv2] at hneg
          have HE : Hid (∃ x, zs[h]? = some x ∧ kLt fK v x = lv) := Lib.hid ⟨x, hx, hlv⟩
          rw [← HUE.out] at HC2
          have hhn : h < n := by omega
          have han : m < n := by omega
          clear hcv hlv hlv2 hs hh hxb
          obtain ⟨op2, k2, ⟨o2, d2⟩, fa2, fn2, fc2, kids2⟩ := x
          have HV := Lib.hid (fm_cells hx)
          clear hx
          unfold fmV S at HC2
          simp only at HC2
          cases lv with
          | false =>
            have hng : ¬ cv < 0 := fun q => by have := hneg.1 q; cases this
            have hdc : decide (cv < 0) = false := decide_eq_false hng
            have HIJ2 : Hid ((h + 1 = a ∨ ∃ x, zs[h + 1 - 1]? = some x ∧ kLt fK v x = false) ∧ (j = m ∨ ∃ x, zs[j]? = some x ∧ kLt fK v x = true)) := Lib.hid ⟨.inr (by simpa using HE.out), HIJ.out.2⟩
            clear hneg
            (try simp only [nsl, Value.cells, unB] at st)
            (try clear hc); have hc := st.facts; (try simp only [nfl, nft, Nat.reduceAdd] at hc)
            go_wp2_with fail
            refine Rg4.wp_region4_eq #[0, 0, 0, 6, 14, 0, 0, 96, 224, 511, 1023, 2047] [9] [4, 8] (fun _ => True) [0, 1, 2, 3, 4, 5, 6, 7, 8, 9, 10, 11] (by kernel_rfl) (by kernel_rfl) (by kernel_rfl) (by kernel_rfl) (show Rg4.PB _ by repeat (first | with_reducible exact Rg4.pb_body | with_reducible exact Rg4.pb_bodyD rfl | with_reducible refine Rg4.pb_then ?_ | with_reducible refine Rg4.pb_inBlock ?_ | with_reducible refine Rg4.pb_noGoto ?_)) (trivial) ?_
            replace st := st.drew
            change Rg4.wp4 _ _ _ _ _ _ _ _ _ (World.drew _) _ _
            generalize World.drew _ = w at st ⊢
            (try clear hc); have hc := st.facts; (try simp only [nfl, nft, Nat.reduceAdd] at hc)
            iterate 4 (refine Rg4.w4_any (Rg4.want_none rfl) rfl ?_; apply Exists.intro; refine ⟨fun w' => ?_, ?_⟩; (focus (first | (go_simp; done) | (go_simp; first | rfl | (rw [if_neg] <;> first | rfl | omega) | (rw [if_pos] <;> first | rfl | omega)))); (try simp only [Rg4.nrm]))
            (refine Rg4.w4_read (Rg4.want_none rfl) rfl rfl ?_; apply Exists.intro; refine ⟨fun w' hw' hcl' => ?_, ?_⟩; focus (subst hw'; have r0 := st.rowC (i := 0) get0 _ _ HU.out.1; have r1 := st.rowC (i := 0) get0 _ _ HU.out.2.1; have r2 := st.rowC (i := 0) get0 _ _ HU.out.2.2.1; have r3 := st.rowC (i := 0) get0 _ _ HU.out.2.2.2.1; have r4 := st.rowC (i := 0) get0 _ _ HU.out.2.2.2.2; have q0 := st.rowC (i := 0) get0 _ _ HV.out.1; have q1 := st.rowC (i := 0) get0 _ _ HV.out.2.1; have q2 := st.rowC (i := 0) get0 _ _ HV.out.2.2.1; have q3 := st.rowC (i := 0) get0 _ _ HV.out.2.2.2.1; have q4 := st.rowC (i := 0) get0 _ _ HV.out.2.2.2.2; (focus (first | (go_simp; done) | (go_simp; first | rfl | (rw [if_neg] <;> first | rfl | omega) | (rw [if_pos] <;> first | rfl | omega))))); (try simp only [Rg4.nrm]))
            iterate 3 (refine Rg4.w4_any (Rg4.want_none rfl) rfl ?_; apply Exists.intro; refine ⟨fun w' => ?_, ?_⟩; (focus (first | (go_simp; done) | (go_simp; first | rfl | (rw [if_neg] <;> first | rfl | omega) | (rw [if_pos] <;> first | rfl | omega)))); (try simp only [Rg4.nrm]))
            (refine Rg4.w4_read (Rg4.want_none rfl) rfl rfl ?_; apply Exists.intro; refine ⟨fun w' hw' hcl' => ?_, ?_⟩; focus (subst hw'; have r0 := st.rowC (i := 0) get0 _ _ HU.out.1; have r1 := st.rowC (i := 0) get0 _ _ HU.out.2.1; have r2 := st.rowC (i := 0) get0 _ _ HU.out.2.2.1; have r3 := st.rowC (i := 0) get0 _ _ HU.out.2.2.2.1; have r4 := st.rowC (i := 0) get0 _ _ HU.out.2.2.2.2; have q0 := st.rowC (i := 0) get0 _ _ HV.out.1; have q1 := st.rowC (i := 0) get0 _ _ HV.out.2.1; have q2 := st.rowC (i := 0) get0 _ _ HV.out.2.2.1; have q3 := st.rowC (i := 0) get0 _ _ HV.out.2.2.2.1; have q4 := st.rowC (i := 0) get0 _ _ HV.out.2.2.2.2; (focus (first | (go_simp; done) | (go_simp; first | rfl | (rw [if_neg] <;> first | rfl | omega) | (rw [if_pos] <;> first | rfl | omega))))); (try simp only [Rg4.nrm]))
            refine Rg4.w4_bar (Rg4.want_none rfl) rfl (fun w' hw' hcl _ K hK => ?_)
            subst hw'
            go_wp2_with fail
            refine (HC2.out _ (st.fms (i := 1) get1)).mono ?_
            rintro en w ⟨rfl, hx⟩
            replace st := st.ext hx
            clear hx
            (try clear hc); have hc := st.facts; (try simp only [nfl, nft, Nat.reduceAdd] at hc)
            refine hK _ _ ⟨trivial, ?_⟩
            clear hK
            (try simp only [Rg4.nrm])
            iterate 2 (refine Rg4.w4_any (Rg4.want_none rfl) rfl ?_; apply Exists.intro; refine ⟨fun w' => ?_, ?_⟩; (focus (first | (go_simp; done) | (go_simp; first | rfl | (rw [if_neg] <;> first | rfl | omega) | (rw [if_pos] <;> first | rfl | omega)))); (try simp only [Rg4.nrm]))
            refine Rg4.w4_nil (fun w' hw' hcl' _ => ?_); subst hw'; clear hcl'
            go_wp2_with fail
            go_roundg (j - (h + 1))
            case measure => omega
            case rel => exact ⟨h + 1, j, rfl, by omega, rfl, rfl, HIJ2, st⟩
          | true =>
            have hng : cv < 0 := hneg.2 rfl
            have hdc : decide (cv < 0) = true := decide_eq_true hng
            have HIJ2 : Hid ((i = a ∨ ∃ x, zs[i - 1]? = some x ∧ kLt fK v x = false) ∧ (h = m ∨ ∃ x, zs[h]? = some x ∧ kLt fK v x = true)) := Lib.hid ⟨HIJ.out.1, .inr HE.out⟩
            clear hneg
            (try simp only [nsl, Value.cells, unB] at st)
            (try clear hc); have hc := st.facts; (try simp only [nfl, nft, Nat.reduceAdd] at hc)
            go_wp2_with fail
            refine Rg4.wp_region4_eq #[0, 0, 0, 6, 14, 0, 0, 96, 224, 511, 1023, 2047] [9] [4, 8] (fun _ => True) [0, 1, 2, 3, 4, 5, 6, 7, 8, 9, 10, 11] (by kernel_rfl) (by kernel_rfl) (by kernel_rfl) (by kernel_rfl) (show Rg4.PB _ by repeat (first | with_reducible exact Rg4.pb_body | with_reducible exact Rg4.pb_bodyD rfl | with_reducible refine Rg4.pb_then ?_ | with_reducible refine Rg4.pb_inBlock ?_ | with_reducible refine Rg4.pb_noGoto ?_)) (trivial) ?_
            replace st := st.drew
            change Rg4.wp4 _ _ _ _ _ _ _ _ _ (World.drew _) _ _
            generalize World.drew _ = w at st ⊢
            (try clear hc); have hc := st.facts; (try simp only [nfl, nft, Nat.reduceAdd] at hc)
            iterate 4 (refine Rg4.w4_any (Rg4.want_none rfl) rfl ?_; apply Exists.intro; refine ⟨fun w' => ?_, ?_⟩; (focus (first | (go_simp; done) | (go_simp; first | rfl | (rw [if_neg] <;> first | rfl | omega) | (rw [if_pos] <;> first | rfl | omega)))); (try simp only [Rg4.nrm]))
            (refine Rg4.w4_read (Rg4.want_none rfl) rfl rfl ?_; apply Exists.intro; refine ⟨fun w' hw' hcl' => ?_, ?_⟩; focus (subst hw'; have r0 := st.rowC (i := 0) get0 _ _ HU.out.1; have r1 := st.rowC (i := 0) get0 _ _ HU.out.2.1; have r2 := st.rowC (i := 0) get0 _ _ HU.out.2.2.1; have r3 := st.rowC (i := 0) get0 _ _ HU.out.2.2.2.1; have r4 := st.rowC (i := 0) get0 _ _ HU.out.2.2.2.2; have q0 := st.rowC (i := 0) get0 _ _ HV.out.1; have q1 := st.rowC (i := 0) get0 _ _ HV.out.2.1; have q2 := st.rowC (i := 0) get0 _ _ HV.out.2.2.1; have q3 := st.rowC (i := 0) get0 _ _ HV.out.2.2.2.1; have q4 := st.rowC (i := 0) get0 _ _ HV.out.2.2.2.2; (focus (first | (go_simp; done) | (go_simp; first | rfl | (rw [if_neg] <;> first | rfl | omega) | (rw [if_pos] <;> first | rfl | omega))))); (try simp only [Rg4.nrm]))
            iterate 3 (refine Rg4.w4_any (Rg4.want_none rfl) rfl ?_; apply Exists.intro; refine ⟨fun w' => ?_, ?_⟩; (focus (first | (go_simp; done) | (go_simp; first | rfl | (rw [if_neg] <;> first | rfl | omega) | (rw [if_pos] <;> first | rfl | omega)))); (try simp only [Rg4.nrm]))
            (refine Rg4.w4_read (Rg4.want_none rfl) rfl rfl ?_; apply Exists.intro; refine ⟨fun w' hw' hcl' => ?_, ?_⟩; focus (subst hw'; have r0 := st.rowC (i := 0) get0 _ _ HU.out.1; have r1 := st.rowC (i := 0) get0 _ _ HU.out.2.1; have r2 := st.rowC (i := 0) get0 _ _ HU.out.2.2.1; have r3 := st.rowC (i := 0) get0 _ _ HU.out.2.2.2.1; have r4 := st.rowC (i := 0) get0 _ _ HU.out.2.2.2.2; have q0 := st.rowC (i := 0) get0 _ _ HV.out.1; have q1 := st.rowC (i := 0) get0 _ _ HV.out.2.1; have q2 := st.rowC (i := 0) get0 _ _ HV.out.2.2.1; have q3 := st.rowC (i := 0) get0 _ _ HV.out.2.2.2.1; have q4 := st.rowC (i := 0) get0 _ _ HV.out.2.2.2.2; (focus (first | (go_simp; done) | (go_simp; first | rfl | (rw [if_neg] <;> first | rfl | omega) | (rw [if_pos] <;> first | rfl | omega))))); (try simp only [Rg4.nrm]))
            refine Rg4.w4_bar (Rg4.want_none rfl) rfl (fun w' hw' hcl _ K hK => ?_)
            subst hw'
            go_wp2_with fail
            refine (HC2.out _ (st.fms (i := 1) get1)).mono ?_
            rintro en w ⟨rfl, hx⟩
            replace st := st.ext hx
            clear hx
            (try clear hc); have hc := st.facts; (try simp only [nfl, nft, Nat.reduceAdd] at hc)
            refine hK _ _ ⟨trivial, ?_⟩
            clear hK
            (try simp only [Rg4.nrm])
            iterate 2 (refine Rg4.w4_any (Rg4.want_none rfl) rfl ?_; apply Exists.intro; refine ⟨fun w' => ?_, ?_⟩; (focus (first | (go_simp; done) | (go_simp; first | rfl | (rw [if_neg] <;> first | rfl | omega) | (rw [if_pos] <;> first | rfl | omega)))); (try simp only [Rg4.nrm]))
            refine Rg4.w4_nil (fun w' hw' hcl' _ => ?_); subst hw'; clear hcl'
            go_wp2_with fail
            go_roundg (h - i)
            case measure => omega
            case rel => exact ⟨i, h, rfl, by omega, rfl, rfl, HIJ2, st⟩
        · obtain rfl : i = j := by omega
          obtain ⟨t, ht⟩ : ∃ q, i - a = q := ⟨_, rfl⟩
          have hD := HD.out
          simp only [List.length_cons, List.length_nil] at hD
          have hc1 : ∀ l ∈ L.take t, kLt fK v l = false := by
            rcases HIJ.out.1 with q | ⟨x, q1, q2⟩
            · have : t = 0 := by omega
              subst this; simp
            · rcases Nat.eq_zero_or_pos t with t0 | t0
              · subst t0; simp
              · rw [← HZ.out, at_L (by omega) (by omega), show i - 1 - P.length = t - 1 by omega] at q1
                have := take_le HSL.out q1
                rw [show t - 1 + 1 = t by omega] at this
                exact fun l hl => kLe_tr (this l hl) q2
          have hc2 : ∀ l ∈ L.drop t, kLt fK v l = true := by
            rcases HIJ.out.2 with q | ⟨x, q1, q2⟩
            · rw [List.drop_of_length_le (by omega)]; simp
            · rcases Nat.lt_or_ge i m with t0 | t0
              · rw [← HZ.out, at_L (by omega) (by omega), show i - P.length = t by omega] at q1
                exact fun l hl => kLt_le q2 (drop_ge HSL.out q1 l hl)
              · rw [List.drop_of_length_le (by omega)]; simp
          have eL : L = L.take t ++ L.drop t := (List.take_append_drop _ _).symm
          have lL : (L.take t).length = t := by simp; omega
          have lL2 : (L.drop t).length = L.length - t := by simp
          obtain ⟨t2, ht2⟩ : ∃ q, L.length - t = q := ⟨_, rfl⟩
          rw [ht2] at lL2
          have hit2 : i + t2 = m ∧ i = a + t := by omega
          clear ht2
          generalize L.take t = L1 at *
          generalize L.drop t = L2 at *
          subst eL
          have HF : Hid (SP fK ((L1 ++ L2) ++ [v]) (L1 ++ v :: L2) ∧ Srt fK (L1 ++ v :: L2)) := Lib.hid ⟨ins_sp hc2, ins_srt HSL.out hc2 hc1⟩
          have HLL := Lib.hid (And.intro lL lL2)
          have st0 : Own fr al W [rowI 26 5 (.slice (some ⟨g, 0, none⟩) n c) n (cellsL (P ++ (L1 ++ (L2.take t2 ++ v :: (L2.drop t2 ++ Q))))), fmsI base] wr := by
            have := HZ.out
            rw [← this] at st
            rw [List.take_of_length_le (by omega), List.drop_of_length_le (by omega)]
            simpa using st
          have hPl : Hid (P.length + t = i) := Lib.hid (by omega)
          clear st hc1 hc2 hD ht HIJ HZ lL lL2 hij
          have st := st0
          clear st0
          obtain ⟨hit3, hit4⟩ := hit2
          have hmi : (m : Int) = ((i + t2 : Nat) : Int) := by omega
          (try simp only [nsl, Value.cells, unB] at st)
          (try clear hc); have hc := st.facts; (try simp only [nfl, nft, Nat.reduceAdd] at hc)
          go_wp2_with fail
          go_loopg [17] t2 (fun q kv wr => ∃ (y : Nat), y = q ∧ y ≤ t2 ∧ kv = .int .i64 ((i + y : Nat) : Int) ∧ Own fr al W [rowI 26 5 (.slice (some ⟨g, 0, none⟩) n c) n (cellsL (P ++ (L1 ++ (L2.take y ++ v :: (L2.drop y ++ Q))))), fmsI base] wr)
          case atStart => exact ⟨t2, rfl, by omega, by rw [← hmi], st⟩
          case round =>
            obtain ⟨y, hqy, hy, rfl, st'⟩ := hrel
            subst hqy
            clear st hc
            have st := st'
            clear st'
            rcases Nat.eq_zero_or_pos y with hy0 | hy0
            · subst hy0
              have hgt : ¬ (i : Int) < ((i + 0 : Nat) : Int) := by omega
              have st0 : Own fr al W [rowI 26 5 (.slice (some ⟨g, 0, none⟩) n c) n (cellsL (P ++ ((L1 ++ v :: L2) ++ Q))), fmsI base] wr := by simpa using st
              clear st hmi
              have st := st0
              clear st0
              go_wp2_with fail
              (try simp only [Exit.inBlock, Exit.then])
              refine bodyPost_ret (results_none rfl _ _ _) rfl ?_
              exact ⟨rfl, L1 ++ v :: L2, by simpa [List.append_assoc] using HF.out, st⟩
            · obtain ⟨z, rfl⟩ : ∃ z, y = z + 1 := ⟨y - 1, by omega⟩
              have hzr : z < L2.length := by have := HLL.out; omega
              obtain ⟨x, hx⟩ : ∃ x, L2[z] = x := ⟨_, rfl⟩
              have e1 : L2.drop z = x :: L2.drop (z + 1) := by rw [List.drop_eq_getElem_cons hzr, hx]
              have e2 : L2.take (z + 1) = L2.take z ++ [x] := by rw [← hx]; exact (List.take_append_getElem hzr).symm
              obtain ⟨p, hp⟩ : ∃ q, i + z = q := ⟨_, rfl⟩
              have hpl : p = (P ++ (L1 ++ L2.take z)).length := by have h1 := hPl.out; have h2 := HLL.out; simp; omega
              obtain ⟨q, hq⟩ : ∃ q, i + (z + 1) = q := ⟨_, rfl⟩
              rw [hq]
              have hql : q = (P ++ (L1 ++ L2.take z)).length + 1 + ([] : List Fm).length := by simp at hpl ⊢; omega
              obtain ⟨zz, hzz⟩ : ∃ y, (P ++ (L1 ++ L2.take z)) ++ x :: ([] ++ v :: (L2.drop (z + 1) ++ Q)) = y := ⟨_, rfl⟩
              have hz2 : P ++ (L1 ++ (L2.take (z + 1) ++ v :: (L2.drop (z + 1) ++ Q))) = zz := by rw [← hzz, e2]; simp
              rw [hz2] at st
              have hzl2 := st.rowLen (i := 0) get0
              have hzp : zz[p]? = some x := by rw [← hzz, hpl]; exact at_p _ _ _ _ _
              have hzq : zz[q]? = some v := by rw [← hzz, hql]; exact at_q _ _ _ _ _
              have hpz : p < zz.length := (List.getElem?_eq_some_iff.1 hzp).1
              have hqz : q < zz.length := (List.getElem?_eq_some_iff.1 hzq).1
              have HN : Hid ((zz.set q x).set p v = P ++ (L1 ++ (L2.take z ++ v :: (L2.drop z ++ Q)))) := Lib.hid (by
                have := swap_qp (P ++ (L1 ++ L2.take z)) [] (L2.drop (z + 1) ++ Q) x v
                rw [← hql, ← hpl, hzz] at this
                rw [this, e1]; simp)
              have w7 : IntKind.i64.wrap ((q : Int) - 1) = (p : Int) := by rw [show (q : Int) - 1 = (p : Int) by omega]; exact IntWalk.i64_in _ ⟨by omega, by omega⟩
              have hpi : (i : Int) < (q : Int) := by omega
              have hpn : p < n := by omega
              have hqn : q < n := by omega
              have hay : ((i + z : Nat) : Int) = (p : Int) := by omega
              rw [← HUE.out] at hzq HN
              obtain ⟨op2, k2, ⟨o2, d2⟩, fa2, fn2, fc2, kids2⟩ := x
              have HU := Lib.hid (fm_cells hzp)
              have HV := Lib.hid (fm_cells hzq)
              have HS1 := Lib.hid (fm_store hqz op2 k2 o2 d2 fa2 fn2 fc2 kids2)
              have HS2 := Lib.hid (fm_store (zs := zz.set q (.mk op2 k2 (o2, d2) fa2 fn2 fc2 kids2)) (j := p) (by simpa using hpz) op k o d fa fn fc kids)
              clear hzp hzq hpz hqz e1 e2 hpl hql hzz hz2 hzl2 hx hzr hp hq hmi
              (try simp only [nsl, Value.cells, unB] at st)
              (try clear hc); have hc := st.facts; (try simp only [nfl, nft, Nat.reduceAdd] at hc)
              go_wp2_with fail
              refine Rg4.wp_region4_eq #[0, 0, 0, 0, 8, 0, 0, 64, 224, 480, 0, 0, 3072, 7168, 16355, 32739, 65535, 131071] [15, 17] [9, 13] (fun _ => True) [0, 1, 2, 3, 4, 5, 6, 7, 8, 9, 10, 11, 12, 13, 14, 15, 16, 17] (by kernel_rfl) (by kernel_rfl) (by kernel_rfl) (by kernel_rfl) (show Rg4.PB _ by repeat (first | with_reducible exact Rg4.pb_body | with_reducible exact Rg4.pb_bodyD rfl | with_reducible refine Rg4.pb_then ?_ | with_reducible refine Rg4.pb_inBlock ?_ | with_reducible refine Rg4.pb_noGoto ?_)) (trivial) ?_
              replace st := st.drew
              change Rg4.wp4 _ _ _ _ _ _ _ _ _ (World.drew _) _ _
              generalize World.drew _ = w at st ⊢
              (try clear hc); have hc := st.facts; (try simp only [nfl, nft, Nat.reduceAdd] at hc)
              iterate 9 (refine Rg4.w4_any (Rg4.want_none rfl) rfl ?_; apply Exists.intro; refine ⟨fun w' => ?_, ?_⟩; (focus (first | (go_simp; done) | (go_simp; first | rfl | (rw [if_neg] <;> first | rfl | omega) | (rw [if_pos] <;> first | rfl | omega)))); (try simp only [Rg4.nrm]))
              (refine Rg4.w4_read (Rg4.want_none rfl) rfl rfl ?_; apply Exists.intro; refine ⟨fun w' hw' hcl' => ?_, ?_⟩; focus (subst hw'; have r0 := st.rowC (i := 0) get0 _ _ HU.out.1; have r1 := st.rowC (i := 0) get0 _ _ HU.out.2.1; have r2 := st.rowC (i := 0) get0 _ _ HU.out.2.2.1; have r3 := st.rowC (i := 0) get0 _ _ HU.out.2.2.2.1; have r4 := st.rowC (i := 0) get0 _ _ HU.out.2.2.2.2; have q0 := st.rowC (i := 0) get0 _ _ HV.out.1; have q1 := st.rowC (i := 0) get0 _ _ HV.out.2.1; have q2 := st.rowC (i := 0) get0 _ _ HV.out.2.2.1; have q3 := st.rowC (i := 0) get0 _ _ HV.out.2.2.2.1; have q4 := st.rowC (i := 0) get0 _ _ HV.out.2.2.2.2; (focus (first | (go_simp; done) | (go_simp; first | rfl | (rw [if_neg] <;> first | rfl | omega) | (rw [if_pos] <;> first | rfl | omega))))); (try simp only [Rg4.nrm]))
              iterate 3 (refine Rg4.w4_any (Rg4.want_none rfl) rfl ?_; apply Exists.intro; refine ⟨fun w' => ?_, ?_⟩; (focus (first | (go_simp; done) | (go_simp; first | rfl | (rw [if_neg] <;> first | rfl | omega) | (rw [if_pos] <;> first | rfl | omega)))); (try simp only [Rg4.nrm]))
              (refine Rg4.w4_read (Rg4.want_none rfl) rfl rfl ?_; apply Exists.intro; refine ⟨fun w' hw' hcl' => ?_, ?_⟩; focus (subst hw'; have r0 := st.rowC (i := 0) get0 _ _ HU.out.1; have r1 := st.rowC (i := 0) get0 _ _ HU.out.2.1; have r2 := st.rowC (i := 0) get0 _ _ HU.out.2.2.1; have r3 := st.rowC (i := 0) get0 _ _ HU.out.2.2.2.1; have r4 := st.rowC (i := 0) get0 _ _ HU.out.2.2.2.2; have q0 := st.rowC (i := 0) get0 _ _ HV.out.1; have q1 := st.rowC (i := 0) get0 _ _ HV.out.2.1; have q2 := st.rowC (i := 0) get0 _ _ HV.out.2.2.1; have q3 := st.rowC (i := 0) get0 _ _ HV.out.2.2.2.1; have q4 := st.rowC (i := 0) get0 _ _ HV.out.2.2.2.2; (focus (first | (go_simp; done) | (go_simp; first | rfl | (rw [if_neg] <;> first | rfl | omega) | (rw [if_pos] <;> first | rfl | omega))))); (try simp only [Rg4.nrm]))
              (refine Rg4.w4_any (Rg4.want_none rfl) rfl ?_; apply Exists.intro; refine ⟨fun w' => ?_, ?_⟩; (focus (first | (go_simp; done) | (go_simp; first | rfl | (rw [if_neg] <;> first | rfl | omega) | (rw [if_pos] <;> first | rfl | omega)))); (try simp only [Rg4.nrm]))
              refine Rg4.w4_bar (Rg4.want_none rfl) rfl (fun w' hw' hcl _ K hK => ?_)
              subst hw'
              refine owp_storeRow' rfl st ?_
              apply Exists.intro; apply Exists.intro
              refine ⟨?_, ?_, ?_⟩
              (focus (go_simp; try rfl))
              (focus (go_simp; try rfl))
              refine ⟨0, _, _, _, _, _, _, _, _, get0, rfl, rfl, ?_, ?_, ?_, ?_⟩
              · kernel_rfl
              · simp [Value.cells]; omega
              · rfl
              clear st
              intro w st
              simp only [List.set_cons_zero, Value.cells] at st
              rw [HS1.out] at st
              refine hK _ _ ⟨trivial, ?_⟩
              clear hK
              (try simp only [Rg4.nrm])
              (refine Rg4.w4_any (Rg4.want_none rfl) rfl ?_; apply Exists.intro; refine ⟨fun w' => ?_, ?_⟩; (focus (first | (go_simp; done) | (go_simp; first | rfl | (rw [if_neg] <;> first | rfl | omega) | (rw [if_pos] <;> first | rfl | omega)))); (try simp only [Rg4.nrm]))
              refine Rg4.w4_bar (Rg4.want_none rfl) rfl (fun w' hw' hcl _ K hK => ?_)
              subst hw'
              refine owp_storeRow' rfl st ?_
              apply Exists.intro; apply Exists.intro
              refine ⟨?_, ?_, ?_⟩
              (focus (go_simp; try rfl))
              (focus (go_simp; try rfl))
              refine ⟨0, _, _, _, _, _, _, _, _, get0, rfl, rfl, ?_, ?_, ?_, ?_⟩
              · kernel_rfl
              · simp [Value.cells]; omega
              · rfl
              clear st
              intro w st
              simp only [List.set_cons_zero, Value.cells] at st
              rw [HS2.out] at st
              refine hK _ _ ⟨trivial, ?_⟩
              clear hK
              (try simp only [Rg4.nrm])
              refine Rg4.w4_nil (fun w' hw' hcl' _ => ?_); subst hw'; clear hcl'
              rw [HN.out, HUE.out] at st
              go_wp2_with fail
              go_roundg z
              case measure => omega
              case rel => exact ⟨z, rfl, by omega, by rw [hay], st⟩
    · have hlne : ((ll : Int) == 1) = false := by simp; omega
      have hrne : ((rl : Int) == 1) = false := by simp; omega
      have hlni : ¬ (ll : Int) = 1 := by omega
      have hrni : ¬ (rl : Int) = 1 := by omega
      obtain ⟨zs, hz⟩ : ∃ zs, P ++ (L ++ (R ++ Q)) = zs := ⟨_, rfl⟩
      rw [hz] at st HIN
      have HZ := Lib.hid hz
      have HZL := Lib.hid (st.rowLen (i := 0) get0)
      obtain ⟨s0, hs0⟩ : ∃ q, a + b = q := ⟨_, rfl⟩
      have w3 : IntKind.i64.wrap ((a : Int) + (b : Int)) = (s0 : Int) := by rw [← hs0]; exact IntWalk.i64_in _ ⟨by omega, by omega⟩
      obtain ⟨mid, hmid⟩ : ∃ q, s0 / 2 = q := ⟨_, rfl⟩
      have w4 : (s0 : Int) / 2 = (mid : Int) := by omega
      obtain ⟨nn, hnn⟩ : ∃ q, mid + m = q := ⟨_, rfl⟩
      have w5 : IntKind.i64.wrap ((mid : Int) + (m : Int)) = (nn : Int) := by rw [← hnn]; exact IntWalk.i64_in _ ⟨by omega, by omega⟩
      obtain ⟨pp, hpp⟩ : ∃ q, nn - 1 = q := ⟨_, rfl⟩
      have w6 : IntKind.i64.wrap ((nn : Int) - 1) = (pp : Int) := by rw [← hpp, show (((nn - 1 : Nat)) : Int) = (nn : Int) - 1 by omega]; exact IntWalk.i64_in _ ⟨by omega, by omega⟩
      obtain ⟨nb, hnb⟩ : ∃ q, nn - b = q := ⟨_, rfl⟩
      have HMID := Lib.hid (show mid = (a + b) / 2 ∧ nn = mid + m ∧ pp = nn - 1 by omega)
      have hsn : s0 ≤ 4000000 ∧ nn ≤ 8000000 := by omega
      clear hz hs0 hmid hnn hpp
      by_cases hmm : mid < m
      · have hmmi : (mid : Int) < (m : Int) := by omega
        have w7 : IntKind.i64.wrap ((nn : Int) - (b : Int)) = (nb : Int) := by have := HMID.out; rw [← hnb, show (((nn - b : Nat)) : Int) = (nn : Int) - (b : Int) by omega]; exact IntWalk.i64_in _ ⟨by omega, by omega⟩
        have HST := Lib.hid (show (nb = nn - b ∧ mid = mid) ∧ (a ≤ nb ∧ nb ≤ mid ∧ mid ≤ m) ∧ ((nn = nb + b ∧ mid = mid) ∨ (nb = a ∧ mid = m)) by have := HMID.out; omega)
        clear hnb
        (try simp only [nsl, Value.cells, unB] at st)
        (try clear hc); have hc := st.facts; (try simp only [nfl, nft, Nat.reduceAdd] at hc)
        go_enter Try.func179, Try.ntmps179
        go_wp2_with fail
        go_loopg [20, 21] (mid - nb) (fun q iv jv wr => ∃ (i j : Nat), q = j - i ∧ (nb ≤ i ∧ i ≤ j ∧ j ≤ mid) ∧ iv = .int .i64 (i : Int) ∧ jv = .int .i64 (j : Int) ∧ Hid ((i = nb ∨ ∃ x y, zs[pp - (i - 1)]? = some x ∧ zs[i - 1]? = some y ∧ kLt fK x y = false) ∧ (j = mid ∨ ∃ x y, zs[pp - j]? = some x ∧ zs[j]? = some y ∧ kLt fK x y = true)) ∧ Own fr al W [rowI 26 5 (.slice (some ⟨g, 0, none⟩) n c) n (cellsL zs), fmsI base] wr)
        case atStart => exact ⟨nb, mid, rfl, by have := HST.out; omega, rfl, rfl, Lib.hid ⟨.inl rfl, .inl rfl⟩, st⟩
        case round =>
          obtain ⟨i, j, rfl, hij, rfl, rfl, HIJ, st'⟩ := hrel
          clear st hc
          have st := st'
          clear st'
          have hSTo := HST.out
          have hMo := HMID.out
          have hDo := HD.out
          by_cases hlt : i < j
          · skip
            obtain ⟨s, hs⟩ : ∃ q, i + j = q := ⟨_, rfl⟩
            have w3 : IntKind.i64.wrap ((i : Int) + (j : Int)) = (s : Int) := by rw [← hs]; exact IntWalk.i64_in _ ⟨by omega, by omega⟩
            obtain ⟨h, hh⟩ : ∃ q, s / 2 = q := ⟨_, rfl⟩
            have w4 : (s : Int) / 2 = (h : Int) := by omega
            have hhr : i ≤ h ∧ h < j := by omega
            have w5 : IntKind.i64.wrap ((h : Int) + 1) = ((h + 1 : Nat) : Int) := IntWalk.i64_in _ ⟨by omega, by omega⟩
            have hsn : s ≤ 4000000 := by omega
            obtain ⟨e, he⟩ : ∃ q, pp - h = q := ⟨_, rfl⟩
            have heb : m ≤ e ∧ e < b ∧ h < m ∧ a ≤ h := by omega
            have w8 : IntKind.i64.wrap ((pp : Int) - (h : Int)) = (e : Int) := by rw [← he, show (((pp - h : Nat)) : Int) = (pp : Int) - (h : Int) by omega]; exact IntWalk.i64_in _ ⟨by omega, by omega⟩
            obtain ⟨x, hx⟩ : ∃ x, zs[e]? = some x := ⟨_, List.getElem?_eq_getElem (by have := HZL.out; omega)⟩
            obtain ⟨y, hy⟩ : ∃ x, zs[h]? = some x := ⟨_, List.getElem?_eq_getElem (by have := HZL.out; omega)⟩
            have hxb := HIN.out e x (by omega) (by omega) hx
            have hyb := HIN.out h y (by omega) (by omega) hy
            obtain ⟨cv, hcv⟩ : ∃ z, cmp2 (fK x) (fK y) = z := ⟨_, rfl⟩
            have HC2 := Lib.hid (fun W' hw => HCM.out x y hxb hyb W' hw)
            have hneg := cmp2_neg (fK x) (fK y)
            rw [hcv] at HC2 hneg
            obtain ⟨lv, hlv⟩ : ∃ z, kLt fK x y = z := ⟨_, rfl⟩
            have hlv2 : strLt (fK x) (fK y) = lv := hlv
            rw [hlv2] at hneg
            have HE : Hid (∃ x y, zs[pp - h]? = some x ∧ zs[h]? = some y ∧ kLt fK x y = lv) := Lib.hid ⟨x, y, by rw [he]; exact hx, hy, hlv⟩
            have hhn : h < n := by omega
            have hen : e < n := by omega
            clear hcv hlv hlv2 hs hh hxb hyb he hSTo hMo hDo
            obtain ⟨op2, k2, ⟨o2, d2⟩, fa2, fn2, fc2, kids2⟩ := x
            obtain ⟨op, k, ⟨o, d⟩, fa, fn, fc, kids⟩ := y
            have HU := Lib.hid (fm_cells hx)
            have HV := Lib.hid (fm_cells hy)
            clear hx hy
            unfold fmV S at HC2
            simp only at HC2
            cases lv with
            | false =>
              have hng : ¬ cv < 0 := fun q => by have := hneg.1 q; cases this
              have hdc : decide (cv < 0) = false := decide_eq_false hng
              have HIJ2 : Hid ((h + 1 = nb ∨ ∃ x y, zs[pp - (h + 1 - 1)]? = some x ∧ zs[h + 1 - 1]? = some y ∧ kLt fK x y = false) ∧ (j = mid ∨ ∃ x y, zs[pp - j]? = some x ∧ zs[j]? = some y ∧ kLt fK x y = true)) := Lib.hid ⟨.inr (by simpa using HE.out), HIJ.out.2⟩
              clear hneg
              (try simp only [nsl, Value.cells, unB] at st)
              (try clear hc); have hc := st.facts; (try simp only [nfl, nft, Nat.reduceAdd] at hc)
              go_wp2_with fail
              refine Rg4.wp_region4_eq #[0, 0, 0, 0, 12, 30, 62, 0, 0, 384, 896, 2047, 4095, 8191] [11] [6, 10] (fun _ => True) [0, 1, 2, 3, 4, 5, 6, 7, 8, 9, 10, 11, 12, 13] (by kernel_rfl) (by kernel_rfl) (by kernel_rfl) (by kernel_rfl) (show Rg4.PB _ by repeat (first | with_reducible exact Rg4.pb_body | with_reducible exact Rg4.pb_bodyD rfl | with_reducible refine Rg4.pb_then ?_ | with_reducible refine Rg4.pb_inBlock ?_ | with_reducible refine Rg4.pb_noGoto ?_)) (trivial) ?_
              replace st := st.drew
              change Rg4.wp4 _ _ _ _ _ _ _ _ _ (World.drew _) _ _
              generalize World.drew _ = w at st ⊢
              (try clear hc); have hc := st.facts; (try simp only [nfl, nft, Nat.reduceAdd] at hc)
              iterate 6 (refine Rg4.w4_any (Rg4.want_none rfl) rfl ?_; apply Exists.intro; refine ⟨fun w' => ?_, ?_⟩; (focus (first | (go_simp; done) | (go_simp; first | rfl | (rw [if_neg] <;> first | rfl | omega) | (rw [if_pos] <;> first | rfl | omega)))); (try simp only [Rg4.nrm]))
              (refine Rg4.w4_read (Rg4.want_none rfl) rfl rfl ?_; apply Exists.intro; refine ⟨fun w' hw' hcl' => ?_, ?_⟩; focus (subst hw'; have r0 := st.rowC (i := 0) get0 _ _ HU.out.1; have r1 := st.rowC (i := 0) get0 _ _ HU.out.2.1; have r2 := st.rowC (i := 0) get0 _ _ HU.out.2.2.1; have r3 := st.rowC (i := 0) get0 _ _ HU.out.2.2.2.1; have r4 := st.rowC (i := 0) get0 _ _ HU.out.2.2.2.2; have q0 := st.rowC (i := 0) get0 _ _ HV.out.1; have q1 := st.rowC (i := 0) get0 _ _ HV.out.2.1; have q2 := st.rowC (i := 0) get0 _ _ HV.out.2.2.1; have q3 := st.rowC (i := 0) get0 _ _ HV.out.2.2.2.1; have q4 := st.rowC (i := 0) get0 _ _ HV.out.2.2.2.2; (focus (first | (go_simp; done) | (go_simp; first | rfl | (rw [if_neg] <;> first | rfl | omega) | (rw [if_pos] <;> first | rfl | omega))))); (try simp only [Rg4.nrm]))
              iterate 3 (refine Rg4.w4_any (Rg4.want_none rfl) rfl ?_; apply Exists.intro; refine ⟨fun w' => ?_, ?_⟩; (focus (first | (go_simp; done) | (go_simp; first | rfl | (rw [if_neg] <;> first | rfl | omega) | (rw [if_pos] <;> first | rfl | omega)))); (try simp only [Rg4.nrm]))
              (refine Rg4.w4_read (Rg4.want_none rfl) rfl rfl ?_; apply Exists.intro; refine ⟨fun w' hw' hcl' => ?_, ?_⟩; focus (subst hw'; have r0 := st.rowC (i := 0) get0 _ _ HU.out.1; have r1 := st.rowC (i := 0) get0 _ _ HU.out.2.1; have r2 := st.rowC (i := 0) get0 _ _ HU.out.2.2.1; have r3 := st.rowC (i := 0) get0 _ _ HU.out.2.2.2.1; have r4 := st.rowC (i := 0) get0 _ _ HU.out.2.2.2.2; have q0 := st.rowC (i := 0) get0 _ _ HV.out.1; have q1 := st.rowC (i := 0) get0 _ _ HV.out.2.1; have q2 := st.rowC (i := 0) get0 _ _ HV.out.2.2.1; have q3 := st.rowC (i := 0) get0 _ _ HV.out.2.2.2.1; have q4 := st.rowC (i := 0) get0 _ _ HV.out.2.2.2.2; (focus (first | (go_simp; done) | (go_simp; first | rfl | (rw [if_neg] <;> first | rfl | omega) | (rw [if_pos] <;> first | rfl | omega))))); (try simp only [Rg4.nrm]))
              refine Rg4.w4_bar (Rg4.want_none rfl) rfl (fun w' hw' hcl _ K hK => ?_)
              subst hw'
              go_wp2_with fail
              refine (HC2.out _ (st.fms (i := 1) get1)).mono ?_
              rintro en w ⟨rfl, hx⟩
              replace st := st.ext hx
              clear hx
              (try clear hc); have hc := st.facts; (try simp only [nfl, nft, Nat.reduceAdd] at hc)
              refine hK _ _ ⟨trivial, ?_⟩
              clear hK
              (try simp only [Rg4.nrm])
              iterate 2 (refine Rg4.w4_any (Rg4.want_none rfl) rfl ?_; apply Exists.intro; refine ⟨fun w' => ?_, ?_⟩; (focus (first | (go_simp; done) | (go_simp; first | rfl | (rw [if_neg] <;> first | rfl | omega) | (rw [if_pos] <;> first | rfl | omega)))); (try simp only [Rg4.nrm]))
              refine Rg4.w4_nil (fun w' hw' hcl' _ => ?_); subst hw'; clear hcl'
              go_wp2_with fail
              go_roundg (j - (h + 1))
              case measure => omega
              case rel => exact ⟨h + 1, j, rfl, by omega, rfl, rfl, HIJ2, st⟩
            | true =>
              have hng : cv < 0 := hneg.2 rfl
              have hdc : decide (cv < 0) = true := decide_eq_true hng
              have HIJ2 : Hid ((i = nb ∨ ∃ x y, zs[pp - (i - 1)]? = some x ∧ zs[i - 1]? = some y ∧ kLt fK x y = false) ∧ (h = mid ∨ ∃ x y, zs[pp - h]? = some x ∧ zs[h]? = some y ∧ kLt fK x y = true)) := Lib.hid ⟨HIJ.out.1, .inr HE.out⟩
              clear hneg
              (try simp only [nsl, Value.cells, unB] at st)
              (try clear hc); have hc := st.facts; (try simp only [nfl, nft, Nat.reduceAdd] at hc)
              go_wp2_with fail
              refine Rg4.wp_region4_eq #[0, 0, 0, 0, 12, 30, 62, 0, 0, 384, 896, 2047, 4095, 8191] [11] [6, 10] (fun _ => True) [0, 1, 2, 3, 4, 5, 6, 7, 8, 9, 10, 11, 12, 13] (by kernel_rfl) (by kernel_rfl) (by kernel_rfl) (by kernel_rfl) (show Rg4.PB _ by repeat (first | with_reducible exact Rg4.pb_body | with_reducible exact Rg4.pb_bodyD rfl | with_reducible refine Rg4.pb_then ?_ | with_reducible refine Rg4.pb_inBlock ?_ | with_reducible refine Rg4.pb_noGoto ?_)) (trivial) ?_
              replace st := st.drew
              change Rg4.wp4 _ _ _ _ _ _ _ _ _ (World.drew _) _ _
              generalize World.drew _ = w at st ⊢
              (try clear hc); have hc := st.facts; (try simp only [nfl, nft, Nat.reduceAdd] at hc)
              iterate 6 (refine Rg4.w4_any (Rg4.want_none rfl) rfl ?_; apply Exists.intro; refine ⟨fun w' => ?_, ?_⟩; (focus (first | (go_simp; done) | (go_simp; first | rfl | (rw [if_neg] <;> first | rfl | omega) | (rw [if_pos] <;> first | rfl | omega)))); (try simp only [Rg4.nrm]))
              (refine Rg4.w4_read (Rg4.want_none rfl) rfl rfl ?_; apply Exists.intro; refine ⟨fun w' hw' hcl' => ?_, ?_⟩; focus (subst hw'; have r0 := st.rowC (i := 0) get0 _ _ HU.out.1; have r1 := st.rowC (i := 0) get0 _ _ HU.out.2.1; have r2 := st.rowC (i := 0) get0 _ _ HU.out.2.2.1; have r3 := st.rowC (i := 0) get0 _ _ HU.out.2.2.2.1; have r4 := st.rowC (i := 0) get0 _ _ HU.out.2.2.2.2; have q0 := st.rowC (i := 0) get0 _ _ HV.out.1; have q1 := st.rowC (i := 0) get0 _ _ HV.out.2.1; have q2 := st.rowC (i := 0) get0 _ _ HV.out.2.2.1; have q3 := st.rowC (i := 0) get0 _ _ HV.out.2.2.2.1; have q4 := st.rowC (i := 0) get0 _ _ HV.out.2.2.2.2; (focus (first | (go_simp; done) | (go_simp; first | rfl | (rw [if_neg] <;> first | rfl | omega) | (rw [if_pos] <;> first | rfl | omega))))); (try simp only [Rg4.nrm]))
              iterate 3 (refine Rg4.w4_any (Rg4.want_none rfl) rfl ?_; apply Exists.intro; refine ⟨fun w' => ?_, ?_⟩; (focus (first | (go_simp; done) | (go_simp; first | rfl | (rw [if_neg] <;> first | rfl | omega) | (rw [if_pos] <;> first | rfl | omega)))); (try simp only [Rg4.nrm]))
              (refine Rg4.w4_read (Rg4.want_none rfl) rfl rfl ?_; apply Exists.intro; refine ⟨fun w' hw' hcl' => ?_, ?_⟩; focus (subst hw'; have r0 := st.rowC (i := 0) get0 _ _ HU.out.1; have r1 := st.rowC (i := 0) get0 _ _ HU.out.2.1; have r2 := st.rowC (i := 0) get0 _ _ HU.out.2.2.1; have r3 := st.rowC (i := 0) get0 _ _ HU.out.2.2.2.1; have r4 := st.rowC (i := 0) get0 _ _ HU.out.2.2.2.2; have q0 := st.rowC (i := 0) get0 _ _ HV.out.1; have q1 := st.rowC (i := 0) get0 _ _ HV.out.2.1; have q2 := st.rowC (i := 0) get0 _ _ HV.out.2.2.1; have q3 := st.rowC (i := 0) get0 _ _ HV.out.2.2.2.1; have q4 := st.rowC (i := 0) get0 _ _ HV.out.2.2.2.2; (focus (first | (go_simp; done) | (go_simp; first | rfl | (rw [if_neg] <;> first | rfl | omega) | (rw [if_pos] <;> first | rfl | omega))))); (try simp only [Rg4.nrm]))
              refine Rg4.w4_bar (Rg4.want_none rfl) rfl (fun w' hw' hcl _ K hK => ?_)
              subst hw'
              go_wp2_with fail
              refine (HC2.out _ (st.fms (i := 1) get1)).mono ?_
              rintro en w ⟨rfl, hx⟩
              replace st := st.ext hx
              clear hx
              (try clear hc); have hc := st.facts; (try simp only [nfl, nft, Nat.reduceAdd] at hc)
              refine hK _ _ ⟨trivial, ?_⟩
              clear hK
              (try simp only [Rg4.nrm])
              iterate 2 (refine Rg4.w4_any (Rg4.want_none rfl) rfl ?_; apply Exists.intro; refine ⟨fun w' => ?_, ?_⟩; (focus (first | (go_simp; done) | (go_simp; first | rfl | (rw [if_neg] <;> first | rfl | omega) | (rw [if_pos] <;> first | rfl | omega)))); (try simp only [Rg4.nrm]))
              refine Rg4.w4_nil (fun w' hw' hcl' _ => ?_); subst hw'; clear hcl'
              go_wp2_with fail
              go_roundg (h - i)
              case measure => omega
              case rel => exact ⟨i, h, rfl, by omega, rfl, rfl, HIJ2, st⟩
          · obtain rfl : i = j := by omega
            obtain ⟨en, hen⟩ : ∃ q, nn - i = q := ⟨_, rfl⟩
            have w8 : IntKind.i64.wrap ((nn : Int) - (i : Int)) = (en : Int) := by rw [← hen, show (((nn - i : Nat)) : Int) = (nn : Int) - (i : Int) by omega]; exact IntWalk.i64_in _ ⟨by omega, by omega⟩
            have hrg : a ≤ i ∧ i ≤ m ∧ m ≤ en ∧ en ≤ b ∧ (i - a) + (en - m) = mid - a ∧ a < mid ∧ mid < b := by omega
            obtain ⟨t, ht⟩ : ∃ q, i - a = q := ⟨_, rfl⟩
            obtain ⟨t2, ht2⟩ : ∃ q, en - m = q := ⟨_, rfl⟩
            have hc1 : ∀ l ∈ L.take t, ∀ r ∈ R.drop t2, kLt fK r l = false := by
              rcases HIJ.out.1 with q | ⟨x, y, q1, q2, q3⟩
              · rcases hSTo.2.2 with q4 | q4
                · rw [List.drop_of_length_le (l := R) (by omega)]; simp
                · have : t = 0 := by omega
                  subst this; simp
              · rcases Nat.eq_zero_or_pos t with t0 | t0
                · subst t0; simp
                · rcases Nat.lt_or_ge en b with e0 | e0
                  · rw [← HZ.out, at_R (by omega) (by omega), show pp - (i - 1) - (P.length + L.length) = t2 by omega] at q1
                    rw [← HZ.out, at_L (by omega) (by omega), show i - 1 - P.length = t - 1 by omega] at q2
                    have h1 := take_le HSL.out q2
                    rw [show t - 1 + 1 = t by omega] at h1
                    have h2 := drop_ge HSR.out q1
                    exact fun l hl r hr => kLe_tr (h1 l hl) (kLe_tr q3 (h2 r hr))
                  · rw [List.drop_of_length_le (l := R) (by omega)]; simp
            have hc2 : ∀ r ∈ R.take t2, ∀ l ∈ L.drop t, kLt fK r l = true := by
              rcases HIJ.out.2 with q | ⟨x, y, q1, q2, q3⟩
              · rcases hSTo.2.2 with q4 | q4
                · have : t2 = 0 := by omega
                  subst this; simp
                · rw [List.drop_of_length_le (l := L) (by omega)]; simp
              · rcases Nat.eq_zero_or_pos t2 with t0 | t0
                · subst t0; simp
                · rcases Nat.lt_or_ge i m with e0 | e0
                  · rw [← HZ.out, at_R (by omega) (by omega), show pp - i - (P.length + L.length) = t2 - 1 by omega] at q1
                    rw [← HZ.out, at_L (by omega) (by omega), show i - P.length = t by omega] at q2
                    have h1 := take_le HSR.out q1
                    rw [show t2 - 1 + 1 = t2 by omega] at h1
                    have h2 := drop_ge HSL.out q2
                    exact fun r hr l hl => kLt_le (kLe_lt (h1 r hr) q3) (h2 l hl)
                  · rw [List.drop_of_length_le (l := L) (by omega)]; simp
            have eL : L = L.take t ++ L.drop t := (List.take_append_drop _ _).symm
            have eR : R = R.take t2 ++ R.drop t2 := (List.take_append_drop _ _).symm
            have l1 : (L.take t).length = t := by simp; omega
            have l2 : (L.drop t).length = L.length - t := by simp
            have r1 : (R.take t2).length = t2 := by simp; omega
            have r2 : (R.drop t2).length = R.length - t2 := by simp
            generalize L.take t = L1 at *
            generalize L.drop t = L2 at *
            generalize R.take t2 = R1 at *
            generalize R.drop t2 = R2 at *
            have hsz : P.length = a ∧ i = a + L1.length ∧ m = i + L2.length ∧ en = m + R1.length ∧ b = en + R2.length ∧ mid = a + L1.length + R1.length ∧ 0 < L1.length + R1.length ∧ 0 < L2.length + R2.length ∧ L1.length + R1.length + (L2.length + R2.length) ≤ N + 1 := by omega
            have HSZ := Lib.hid hsz
            subst eL eR
            have HCC := Lib.hid (And.intro hc1 hc2)
            have st0 : Own fr al W [rowI 26 5 (.slice (some ⟨g, 0, none⟩) n c) n (cellsL ((P ++ L1) ++ (L2 ++ (R1 ++ (R2 ++ Q))))), fmsI base] wr := by
              have := HZ.out
              rw [← this] at st
              simpa using st
            have HROT := Lib.hid (fun (h1 : 0 < L2.length) (h2 : 0 < R1.length) fr al W st => rotate_c (fr := fr) (al := al) (W := W) (g := g) (n := n) (c := c) (.func (.func 47) #[] #[]) base (P ++ L1) L2 R1 (R2 ++ Q) i m en (by simp; omega) (by simp; omega) (by simp; omega) h1 h2 st hn)
            have HI1 := Lib.hid (fun (h1 : 0 < L1.length) (h2 : 0 < R1.length) fr al W st => HIH.out P L1 R1 (L2 ++ (R2 ++ Q)) (by omega) h1 h2 HSL.out.left HSR.out.left (fun x hx => HMB.out x (by rcases List.mem_append.1 hx with q | q <;> simp [q])) fr al W a i mid (by omega) (by omega) (by omega) st)
            have HI2 := Lib.hid (fun (h1 : 0 < L2.length) (h2 : 0 < R2.length) (A : List Fm) (hA : A.length = L1.length + R1.length) fr al W st => HIH.out (P ++ A) L2 R2 Q (by omega) h1 h2 HSL.out.right HSR.out.right (fun x hx => HMB.out x (by rcases List.mem_append.1 hx with q | q <;> simp [q])) fr al W mid en b (by simp; omega) (by simp; omega) (by simp; omega) st)
            clear st hc1 hc2 HIJ HZ l1 l2 r1 r2 hSTo hMo hDo hen ht ht2 hrg hij hsz HIH HIN HD HST HMID
            have st := st0
            clear st0
            rcases Nat.eq_zero_or_pos L1.length with pL1 | pL1
            · have pR1 : 0 < R1.length := by have := HSZ.out; omega
              rcases Nat.eq_zero_or_pos L2.length with pL2 | pL2
              · have pR2 : 0 < R2.length := by have := HSZ.out; omega
                have hsz := HSZ.out
                have ca1 : ¬ (a : Int) < (i : Int) := by omega
                have ca2 : (i : Int) < (mid : Int) := by omega
                have cb1 : ¬ (i : Int) < (m : Int) := by omega
                have cb2 : (m : Int) < (en : Int) := by omega
                have cc1 : ¬ (mid : Int) < (en : Int) := by omega
                have cc2 : (en : Int) < (b : Int) := by omega
                clear hsz
                have HXA0 : Hid (SP fK (L1 ++ R1) (L1 ++ R1) ∧ Srt fK (L1 ++ R1)) := Lib.hid ⟨SP.refl _, by
                  have hnil : L1 = [] := List.eq_nil_of_length_eq_zero (by have := HSZ.out; omega)
                  rw [hnil]; simpa using HSR.out.left⟩
                have HYA : Hid (SP fK (L2 ++ R2) (L2 ++ R2) ∧ Srt fK (L2 ++ R2)) := Lib.hid ⟨SP.refl _, by
                  have hnil : L2 = [] := List.eq_nil_of_length_eq_zero (by have := HSZ.out; omega)
                  rw [hnil]; simpa using HSR.out.right⟩
                rw [show L2 ++ (R1 ++ (R2 ++ Q)) = R1 ++ (L2 ++ (R2 ++ Q)) by rw [List.eq_nil_of_length_eq_zero (l := L2) (by have := HSZ.out; omega)]; simp] at st
                (try simp only [nsl, Value.cells, unB] at st)
                (try clear hc); have hc := st.facts; (try simp only [nfl, nft, Nat.reduceAdd] at hc)
                go_wp2_with fail
                rw [List.append_assoc P L1] at st
                rw [← List.append_assoc L1 R1] at st
                obtain ⟨X, hX⟩ : ∃ X, L1 ++ R1 = X := ⟨_, rfl⟩
                have HXA : Hid (SP fK (L1 ++ R1) X ∧ Srt fK X) := Lib.hid (by rw [← hX]; exact HXA0.out)
                rw [hX] at st
                clear hX HXA0
                all_goals (go_end0; exact ⟨rfl, X ++ (L2 ++ R2), ⟨(by have h9 := (sym_sp HCC.out.2).trans (HXA.out.1.app HYA.out.1); simpa only [List.append_assoc] using h9), sym_srt HSL.out HSR.out HCC.out.1 HCC.out.2 HXA.out.1 HXA.out.2 HYA.out.1 HYA.out.2⟩, by simpa using st⟩)
              · rcases Nat.eq_zero_or_pos R2.length with pR2 | pR2
                · have hsz := HSZ.out
                  have ca1 : ¬ (a : Int) < (i : Int) := by omega
                  have ca2 : (i : Int) < (mid : Int) := by omega
                  have cb1 : (i : Int) < (m : Int) := by omega
                  have cb2 : (m : Int) < (en : Int) := by omega
                  have cc1 : (mid : Int) < (en : Int) := by omega
                  have cc2 : ¬ (en : Int) < (b : Int) := by omega
                  clear hsz
                  have HXA0 : Hid (SP fK (L1 ++ R1) (L1 ++ R1) ∧ Srt fK (L1 ++ R1)) := Lib.hid ⟨SP.refl _, by
                    have hnil : L1 = [] := List.eq_nil_of_length_eq_zero (by have := HSZ.out; omega)
                    rw [hnil]; simpa using HSR.out.left⟩
                  have HYA : Hid (SP fK (L2 ++ R2) (L2 ++ R2) ∧ Srt fK (L2 ++ R2)) := Lib.hid ⟨SP.refl _, by
                    have hnil : R2 = [] := List.eq_nil_of_length_eq_zero (by have := HSZ.out; omega)
                    rw [hnil]; simpa using HSL.out.right⟩
                  (try simp only [nsl, Value.cells, unB] at st)
                  (try clear hc); have hc := st.facts; (try simp only [nfl, nft, Nat.reduceAdd] at hc)
                  go_wp2_with fail
                  obtain ⟨fr', al', st', back⟩ := st.sub [0, 1] (by decide) (by simp)
                  (try simp only [nsl, Value.cells, unB] at st')
                  refine (HROT.out (by have := HSZ.out; omega) (by have := HSZ.out; omega) _ _ _ st').mono ?_
                  clear st'
                  rintro en w ⟨rfl, st'⟩
                  replace st := back _ _ (by simp) st'
                  clear back st'
                  (try simp only [nsl, Value.cells, unB] at st)
                  (try clear hc); have hc := st.facts; (try simp only [nfl, nft, Nat.reduceAdd] at hc)
                  go_wp2_with fail
                  rw [List.append_assoc P L1] at st
                  rw [← List.append_assoc L1 R1] at st
                  obtain ⟨X, hX⟩ : ∃ X, L1 ++ R1 = X := ⟨_, rfl⟩
                  have HXA : Hid (SP fK (L1 ++ R1) X ∧ Srt fK X) := Lib.hid (by rw [← hX]; exact HXA0.out)
                  rw [hX] at st
                  clear hX HXA0
                  all_goals (go_end0; exact ⟨rfl, X ++ (L2 ++ R2), ⟨(by have h9 := (sym_sp HCC.out.2).trans (HXA.out.1.app HYA.out.1); simpa only [List.append_assoc] using h9), sym_srt HSL.out HSR.out HCC.out.1 HCC.out.2 HXA.out.1 HXA.out.2 HYA.out.1 HYA.out.2⟩, by simpa using st⟩)
                · have hsz := HSZ.out
                  have ca1 : ¬ (a : Int) < (i : Int) := by omega
                  have ca2 : (i : Int) < (mid : Int) := by omega
                  have cb1 : (i : Int) < (m : Int) := by omega
                  have cb2 : (m : Int) < (en : Int) := by omega
                  have cc1 : (mid : Int) < (en : Int) := by omega
                  have cc2 : (en : Int) < (b : Int) := by omega
                  clear hsz
                  have HXA0 : Hid (SP fK (L1 ++ R1) (L1 ++ R1) ∧ Srt fK (L1 ++ R1)) := Lib.hid ⟨SP.refl _, by
                    have hnil : L1 = [] := List.eq_nil_of_length_eq_zero (by have := HSZ.out; omega)
                    rw [hnil]; simpa using HSR.out.left⟩
                  (try simp only [nsl, Value.cells, unB] at st)
                  (try clear hc); have hc := st.facts; (try simp only [nfl, nft, Nat.reduceAdd] at hc)
                  go_wp2_with fail
                  obtain ⟨fr', al', st', back⟩ := st.sub [0, 1] (by decide) (by simp)
                  (try simp only [nsl, Value.cells, unB] at st')
                  refine (HROT.out (by have := HSZ.out; omega) (by have := HSZ.out; omega) _ _ _ st').mono ?_
                  clear st'
                  rintro en w ⟨rfl, st'⟩
                  replace st := back _ _ (by simp) st'
                  clear back st'
                  (try simp only [nsl, Value.cells, unB] at st)
                  (try clear hc); have hc := st.facts; (try simp only [nfl, nft, Nat.reduceAdd] at hc)
                  go_wp2_with fail
                  rw [List.append_assoc P L1] at st
                  rw [← List.append_assoc L1 R1] at st
                  obtain ⟨X, hX⟩ : ∃ X, L1 ++ R1 = X := ⟨_, rfl⟩
                  have HXA : Hid (SP fK (L1 ++ R1) X ∧ Srt fK X) := Lib.hid (by rw [← hX]; exact HXA0.out)
                  rw [hX] at st
                  clear hX HXA0
                  rw [← List.append_assoc P X] at st
                  obtain ⟨fr', al', st', back⟩ := st.sub [0, 1] (by decide) (by simp)
                  (try simp only [nsl, Value.cells, unB] at st')
                  refine (HI2.out (by have := HSZ.out; omega) (by have := HSZ.out; omega) X (by have := HXA.out.1.len; simpa using this) _ _ _ st').mono ?_
                  clear st'
                  rintro en w ⟨rfl, Y, hY, st'⟩
                  replace st := back _ _ (by simp) st'
                  clear back st'
                  (try simp only [nsl, Value.cells, unB] at st)
                  (try clear hc); have hc := st.facts; (try simp only [nfl, nft, Nat.reduceAdd] at hc)
                  have HYA := Lib.hid hY
                  clear hY
                  go_wp2_with fail
                  all_goals (go_end0; exact ⟨rfl, X ++ Y, ⟨(by have h9 := (sym_sp HCC.out.2).trans (HXA.out.1.app HYA.out.1); simpa only [List.append_assoc] using h9), sym_srt HSL.out HSR.out HCC.out.1 HCC.out.2 HXA.out.1 HXA.out.2 HYA.out.1 HYA.out.2⟩, by simpa using st⟩)
            · rcases Nat.eq_zero_or_pos R1.length with pR1 | pR1
              · rcases Nat.eq_zero_or_pos L2.length with pL2 | pL2
                · have pR2 : 0 < R2.length := by have := HSZ.out; omega
                  have hsz := HSZ.out
                  have ca1 : (a : Int) < (i : Int) := by omega
                  have ca2 : ¬ (i : Int) < (mid : Int) := by omega
                  have cb1 : ¬ (i : Int) < (m : Int) := by omega
                  have cb2 : ¬ (m : Int) < (en : Int) := by omega
                  have cc1 : ¬ (mid : Int) < (en : Int) := by omega
                  have cc2 : (en : Int) < (b : Int) := by omega
                  clear hsz
                  have HXA0 : Hid (SP fK (L1 ++ R1) (L1 ++ R1) ∧ Srt fK (L1 ++ R1)) := Lib.hid ⟨SP.refl _, by
                    have hnil : R1 = [] := List.eq_nil_of_length_eq_zero (by have := HSZ.out; omega)
                    rw [hnil]; simpa using HSL.out.left⟩
                  have HYA : Hid (SP fK (L2 ++ R2) (L2 ++ R2) ∧ Srt fK (L2 ++ R2)) := Lib.hid ⟨SP.refl _, by
                    have hnil : L2 = [] := List.eq_nil_of_length_eq_zero (by have := HSZ.out; omega)
                    rw [hnil]; simpa using HSR.out.right⟩
                  rw [show L2 ++ (R1 ++ (R2 ++ Q)) = R1 ++ (L2 ++ (R2 ++ Q)) by rw [List.eq_nil_of_length_eq_zero (l := L2) (by have := HSZ.out; omega)]; simp] at st
                  (try simp only [nsl, Value.cells, unB] at st)
                  (try clear hc); have hc := st.facts; (try simp only [nfl, nft, Nat.reduceAdd] at hc)
                  go_wp2_with fail
                  rw [List.append_assoc P L1] at st
                  rw [← List.append_assoc L1 R1] at st
                  obtain ⟨X, hX⟩ : ∃ X, L1 ++ R1 = X := ⟨_, rfl⟩
                  have HXA : Hid (SP fK (L1 ++ R1) X ∧ Srt fK X) := Lib.hid (by rw [← hX]; exact HXA0.out)
                  rw [hX] at st
                  clear hX HXA0
                  all_goals (go_end0; exact ⟨rfl, X ++ (L2 ++ R2), ⟨(by have h9 := (sym_sp HCC.out.2).trans (HXA.out.1.app HYA.out.1); simpa only [List.append_assoc] using h9), sym_srt HSL.out HSR.out HCC.out.1 HCC.out.2 HXA.out.1 HXA.out.2 HYA.out.1 HYA.out.2⟩, by simpa using st⟩)
                · rcases Nat.eq_zero_or_pos R2.length with pR2 | pR2
                  · have hsz := HSZ.out
                    have ca1 : (a : Int) < (i : Int) := by omega
                    have ca2 : ¬ (i : Int) < (mid : Int) := by omega
                    have cb1 : (i : Int) < (m : Int) := by omega
                    have cb2 : ¬ (m : Int) < (en : Int) := by omega
                    have cc1 : (mid : Int) < (en : Int) := by omega
                    have cc2 : ¬ (en : Int) < (b : Int) := by omega
                    clear hsz
                    have HXA0 : Hid (SP fK (L1 ++ R1) (L1 ++ R1) ∧ Srt fK (L1 ++ R1)) := Lib.hid ⟨SP.refl _, by
                      have hnil : R1 = [] := List.eq_nil_of_length_eq_zero (by have := HSZ.out; omega)
                      rw [hnil]; simpa using HSL.out.left⟩
                    have HYA : Hid (SP fK (L2 ++ R2) (L2 ++ R2) ∧ Srt fK (L2 ++ R2)) := Lib.hid ⟨SP.refl _, by
                      have hnil : R2 = [] := List.eq_nil_of_length_eq_zero (by have := HSZ.out; omega)
                      rw [hnil]; simpa using HSL.out.right⟩
                    rw [show L2 ++ (R1 ++ (R2 ++ Q)) = R1 ++ (L2 ++ (R2 ++ Q)) by rw [List.eq_nil_of_length_eq_zero (l := R1) (by have := HSZ.out; omega)]; simp] at st
                    (try simp only [nsl, Value.cells, unB] at st)
                    (try clear hc); have hc := st.facts; (try simp only [nfl, nft, Nat.reduceAdd] at hc)
                    go_wp2_with fail
                    rw [List.append_assoc P L1] at st
                    rw [← List.append_assoc L1 R1] at st
                    obtain ⟨X, hX⟩ : ∃ X, L1 ++ R1 = X := ⟨_, rfl⟩
                    have HXA : Hid (SP fK (L1 ++ R1) X ∧ Srt fK X) := Lib.hid (by rw [← hX]; exact HXA0.out)
                    rw [hX] at st
                    clear hX HXA0
                    all_goals (go_end0; exact ⟨rfl, X ++ (L2 ++ R2), ⟨(by have h9 := (sym_sp HCC.out.2).trans (HXA.out.1.app HYA.out.1); simpa only [List.append_assoc] using h9), sym_srt HSL.out HSR.out HCC.out.1 HCC.out.2 HXA.out.1 HXA.out.2 HYA.out.1 HYA.out.2⟩, by simpa using st⟩)
                  · have hsz := HSZ.out
                    have ca1 : (a : Int) < (i : Int) := by omega
                    have ca2 : ¬ (i : Int) < (mid : Int) := by omega
                    have cb1 : (i : Int) < (m : Int) := by omega
                    have cb2 : ¬ (m : Int) < (en : Int) := by omega
                    have cc1 : (mid : Int) < (en : Int) := by omega
                    have cc2 : (en : Int) < (b : Int) := by omega
                    clear hsz
                    have HXA0 : Hid (SP fK (L1 ++ R1) (L1 ++ R1) ∧ Srt fK (L1 ++ R1)) := Lib.hid ⟨SP.refl _, by
                      have hnil : R1 = [] := List.eq_nil_of_length_eq_zero (by have := HSZ.out; omega)
                      rw [hnil]; simpa using HSL.out.left⟩
                    rw [show L2 ++ (R1 ++ (R2 ++ Q)) = R1 ++ (L2 ++ (R2 ++ Q)) by rw [List.eq_nil_of_length_eq_zero (l := R1) (by have := HSZ.out; omega)]; simp] at st
                    (try simp only [nsl, Value.cells, unB] at st)
                    (try clear hc); have hc := st.facts; (try simp only [nfl, nft, Nat.reduceAdd] at hc)
                    go_wp2_with fail
                    rw [List.append_assoc P L1] at st
                    rw [← List.append_assoc L1 R1] at st
                    obtain ⟨X, hX⟩ : ∃ X, L1 ++ R1 = X := ⟨_, rfl⟩
                    have HXA : Hid (SP fK (L1 ++ R1) X ∧ Srt fK X) := Lib.hid (by rw [← hX]; exact HXA0.out)
                    rw [hX] at st
                    clear hX HXA0
                    rw [← List.append_assoc P X] at st
                    obtain ⟨fr', al', st', back⟩ := st.sub [0, 1] (by decide) (by simp)
                    (try simp only [nsl, Value.cells, unB] at st')
                    refine (HI2.out (by have := HSZ.out; omega) (by have := HSZ.out; omega) X (by have := HXA.out.1.len; simpa using this) _ _ _ st').mono ?_
                    clear st'
                    rintro en w ⟨rfl, Y, hY, st'⟩
                    replace st := back _ _ (by simp) st'
                    clear back st'
                    (try simp only [nsl, Value.cells, unB] at st)
                    (try clear hc); have hc := st.facts; (try simp only [nfl, nft, Nat.reduceAdd] at hc)
                    have HYA := Lib.hid hY
                    clear hY
                    go_wp2_with fail
                    all_goals (go_end0; exact ⟨rfl, X ++ Y, ⟨(by have h9 := (sym_sp HCC.out.2).trans (HXA.out.1.app HYA.out.1); simpa only [List.append_assoc] using h9), sym_srt HSL.out HSR.out HCC.out.1 HCC.out.2 HXA.out.1 HXA.out.2 HYA.out.1 HYA.out.2⟩, by simpa using st⟩)
              · rcases Nat.eq_zero_or_pos L2.length with pL2 | pL2
                · have pR2 : 0 < R2.length := by have := HSZ.out; omega
                  have hsz := HSZ.out
                  have ca1 : (a : Int) < (i : Int) := by omega
                  have ca2 : (i : Int) < (mid : Int) := by omega
                  have cb1 : ¬ (i : Int) < (m : Int) := by omega
                  have cb2 : (m : Int) < (en : Int) := by omega
                  have cc1 : ¬ (mid : Int) < (en : Int) := by omega
                  have cc2 : (en : Int) < (b : Int) := by omega
                  clear hsz
                  have HYA : Hid (SP fK (L2 ++ R2) (L2 ++ R2) ∧ Srt fK (L2 ++ R2)) := Lib.hid ⟨SP.refl _, by
                    have hnil : L2 = [] := List.eq_nil_of_length_eq_zero (by have := HSZ.out; omega)
                    rw [hnil]; simpa using HSR.out.right⟩
                  rw [show L2 ++ (R1 ++ (R2 ++ Q)) = R1 ++ (L2 ++ (R2 ++ Q)) by rw [List.eq_nil_of_length_eq_zero (l := L2) (by have := HSZ.out; omega)]; simp] at st
                  (try simp only [nsl, Value.cells, unB] at st)
                  (try clear hc); have hc := st.facts; (try simp only [nfl, nft, Nat.reduceAdd] at hc)
                  go_wp2_with fail
                  rw [List.append_assoc P L1] at st
                  obtain ⟨fr', al', st', back⟩ := st.sub [0, 1] (by decide) (by simp)
                  (try simp only [nsl, Value.cells, unB] at st')
                  refine (HI1.out (by have := HSZ.out; omega) (by have := HSZ.out; omega) _ _ _ st').mono ?_
                  clear st'
                  rintro en w ⟨rfl, X, hX, st'⟩
                  replace st := back _ _ (by simp) st'
                  clear back st'
                  (try simp only [nsl, Value.cells, unB] at st)
                  (try clear hc); have hc := st.facts; (try simp only [nfl, nft, Nat.reduceAdd] at hc)
                  have HXA := Lib.hid hX
                  clear hX
                  go_wp2_with fail
                  all_goals (go_end0; exact ⟨rfl, X ++ (L2 ++ R2), ⟨(by have h9 := (sym_sp HCC.out.2).trans (HXA.out.1.app HYA.out.1); simpa only [List.append_assoc] using h9), sym_srt HSL.out HSR.out HCC.out.1 HCC.out.2 HXA.out.1 HXA.out.2 HYA.out.1 HYA.out.2⟩, by simpa using st⟩)
                · rcases Nat.eq_zero_or_pos R2.length with pR2 | pR2
                  · have hsz := HSZ.out
                    have ca1 : (a : Int) < (i : Int) := by omega
                    have ca2 : (i : Int) < (mid : Int) := by omega
                    have cb1 : (i : Int) < (m : Int) := by omega
                    have cb2 : (m : Int) < (en : Int) := by omega
                    have cc1 : (mid : Int) < (en : Int) := by omega
                    have cc2 : ¬ (en : Int) < (b : Int) := by omega
                    clear hsz
                    have HYA : Hid (SP fK (L2 ++ R2) (L2 ++ R2) ∧ Srt fK (L2 ++ R2)) := Lib.hid ⟨SP.refl _, by
                      have hnil : R2 = [] := List.eq_nil_of_length_eq_zero (by have := HSZ.out; omega)
                      rw [hnil]; simpa using HSL.out.right⟩
                    (try simp only [nsl, Value.cells, unB] at st)
                    (try clear hc); have hc := st.facts; (try simp only [nfl, nft, Nat.reduceAdd] at hc)
                    go_wp2_with fail
                    obtain ⟨fr', al', st', back⟩ := st.sub [0, 1] (by decide) (by simp)
                    (try simp only [nsl, Value.cells, unB] at st')
                    refine (HROT.out (by have := HSZ.out; omega) (by have := HSZ.out; omega) _ _ _ st').mono ?_
                    clear st'
                    rintro en w ⟨rfl, st'⟩
                    replace st := back _ _ (by simp) st'
                    clear back st'
                    (try simp only [nsl, Value.cells, unB] at st)
                    (try clear hc); have hc := st.facts; (try simp only [nfl, nft, Nat.reduceAdd] at hc)
                    go_wp2_with fail
                    rw [List.append_assoc P L1] at st
                    obtain ⟨fr', al', st', back⟩ := st.sub [0, 1] (by decide) (by simp)
                    (try simp only [nsl, Value.cells, unB] at st')
                    refine (HI1.out (by have := HSZ.out; omega) (by have := HSZ.out; omega) _ _ _ st').mono ?_
                    clear st'
                    rintro en w ⟨rfl, X, hX, st'⟩
                    replace st := back _ _ (by simp) st'
                    clear back st'
                    (try simp only [nsl, Value.cells, unB] at st)
                    (try clear hc); have hc := st.facts; (try simp only [nfl, nft, Nat.reduceAdd] at hc)
                    have HXA := Lib.hid hX
                    clear hX
                    go_wp2_with fail
                    all_goals (go_end0; exact ⟨rfl, X ++ (L2 ++ R2), ⟨(by have h9 := (sym_sp HCC.out.2).trans (HXA.out.1.app HYA.out.1); simpa only [List.append_assoc] using h9), sym_srt HSL.out HSR.out HCC.out.1 HCC.out.2 HXA.out.1 HXA.out.2 HYA.out.1 HYA.out.2⟩, by simpa using st⟩)
                  · have hsz := HSZ.out
                    have ca1 : (a : Int) < (i : Int) := by omega
                    have ca2 : (i : Int) < (mid : Int) := by omega
                    have cb1 : (i : Int) < (m : Int) := by omega
                    have cb2 : (m : Int) < (en : Int) := by omega
                    have cc1 : (mid : Int) < (en : Int) := by omega
                    have cc2 : (en : Int) < (b : Int) := by omega
                    clear hsz
                    (try simp only [nsl, Value.cells, unB] at st)
                    (try clear hc); have hc := st.facts; (try simp only [nfl, nft, Nat.reduceAdd] at hc)
                    go_wp2_with fail
                    obtain ⟨fr', al', st', back⟩ := st.sub [0, 1] (by decide) (by simp)
                    (try simp only [nsl, Value.cells, unB] at st')
                    refine (HROT.out (by have := HSZ.out; omega) (by have := HSZ.out; omega) _ _ _ st').mono ?_
                    clear st'
                    rintro en w ⟨rfl, st'⟩
                    replace st := back _ _ (by simp) st'
                    clear back st'
                    (try simp only [nsl, Value.cells, unB] at st)
                    (try clear hc); have hc := st.facts; (try simp only [nfl, nft, Nat.reduceAdd] at hc)
                    go_wp2_with fail
                    rw [List.append_assoc P L1] at st
                    obtain ⟨fr', al', st', back⟩ := st.sub [0, 1] (by decide) (by simp)
                    (try simp only [nsl, Value.cells, unB] at st')
                    refine (HI1.out (by have := HSZ.out; omega) (by have := HSZ.out; omega) _ _ _ st').mono ?_
                    clear st'
                    rintro en w ⟨rfl, X, hX, st'⟩
                    replace st := back _ _ (by simp) st'
                    clear back st'
                    (try simp only [nsl, Value.cells, unB] at st)
                    (try clear hc); have hc := st.facts; (try simp only [nfl, nft, Nat.reduceAdd] at hc)
                    have HXA := Lib.hid hX
                    clear hX
                    go_wp2_with fail
                    rw [← List.append_assoc P X] at st
                    obtain ⟨fr', al', st', back⟩ := st.sub [0, 1] (by decide) (by simp)
                    (try simp only [nsl, Value.cells, unB] at st')
                    refine (HI2.out (by have := HSZ.out; omega) (by have := HSZ.out; omega) X (by have := HXA.out.1.len; simpa using this) _ _ _ st').mono ?_
                    clear st'
                    rintro en w ⟨rfl, Y, hY, st'⟩
                    replace st := back _ _ (by simp) st'
                    clear back st'
                    (try simp only [nsl, Value.cells, unB] at st)
                    (try clear hc); have hc := st.facts; (try simp only [nfl, nft, Nat.reduceAdd] at hc)
                    have HYA := Lib.hid hY
                    clear hY
                    go_wp2_with fail
                    all_goals (go_end0; exact ⟨rfl, X ++ Y, ⟨(by have h9 := (sym_sp HCC.out.2).trans (HXA.out.1.app HYA.out.1); simpa only [List.append_assoc] using h9), sym_srt HSL.out HSR.out HCC.out.1 HCC.out.2 HXA.out.1 HXA.out.2 HYA.out.1 HYA.out.2⟩, by simpa using st⟩)
      · have hmmi : ¬ (mid : Int) < (m : Int) := by omega
        have HST : Hid (True ∧ (a ≤ a ∧ a ≤ m ∧ m ≤ m) ∧ ((nn = a + b ∧ m = mid) ∨ (a = a ∧ m = m))) := Lib.hid ⟨trivial, ⟨Nat.le_refl _, by omega, Nat.le_refl _⟩, .inr ⟨rfl, rfl⟩⟩
        clear hnb
        (try simp only [nsl, Value.cells, unB] at st)
        (try clear hc); have hc := st.facts; (try simp only [nfl, nft, Nat.reduceAdd] at hc)
        go_enter Try.func179, Try.ntmps179
        go_wp2_with fail
        go_loopg [20, 21] (m - a) (fun q iv jv wr => ∃ (i j : Nat), q = j - i ∧ (a ≤ i ∧ i ≤ j ∧ j ≤ m) ∧ iv = .int .i64 (i : Int) ∧ jv = .int .i64 (j : Int) ∧ Hid ((i = a ∨ ∃ x y, zs[pp - (i - 1)]? = some x ∧ zs[i - 1]? = some y ∧ kLt fK x y = false) ∧ (j = m ∨ ∃ x y, zs[pp - j]? = some x ∧ zs[j]? = some y ∧ kLt fK x y = true)) ∧ Own fr al W [rowI 26 5 (.slice (some ⟨g, 0, none⟩) n c) n (cellsL zs), fmsI base] wr)
        case atStart => exact ⟨a, m, rfl, by have := HST.out; omega, rfl, rfl, Lib.hid ⟨.inl rfl, .inl rfl⟩, st⟩
        case round =>
          obtain ⟨i, j, rfl, hij, rfl, rfl, HIJ, st'⟩ := hrel
          clear st hc
          have st := st'
          clear st'
          have hSTo := HST.out
          have hMo := HMID.out
          have hDo := HD.out
          by_cases hlt : i < j
          · skip
            obtain ⟨s, hs⟩ : ∃ q, i + j = q := ⟨_, rfl⟩
            have w3 : IntKind.i64.wrap ((i : Int) + (j : Int)) = (s : Int) := by rw [← hs]; exact IntWalk.i64_in _ ⟨by omega, by omega⟩
            obtain ⟨h, hh⟩ : ∃ q, s / 2 = q := ⟨_, rfl⟩
            have w4 : (s : Int) / 2 = (h : Int) := by omega
            have hhr : i ≤ h ∧ h < j := by omega
            have w5 : IntKind.i64.wrap ((h : Int) + 1) = ((h + 1 : Nat) : Int) := IntWalk.i64_in _ ⟨by omega, by omega⟩
            have hsn : s ≤ 4000000 := by omega
            obtain ⟨e, he⟩ : ∃ q, pp - h = q := ⟨_, rfl⟩
            have heb : m ≤ e ∧ e < b ∧ h < m ∧ a ≤ h := by omega
            have w8 : IntKind.i64.wrap ((pp : Int) - (h : Int)) = (e : Int) := by rw [← he, show (((pp - h : Nat)) : Int) = (pp : Int) - (h : Int) by omega]; exact IntWalk.i64_in _ ⟨by omega, by omega⟩
            obtain ⟨x, hx⟩ : ∃ x, zs[e]? = some x := ⟨_, List.getElem?_eq_getElem (by have := HZL.out; omega)⟩
            obtain ⟨y, hy⟩ : ∃ x, zs[h]? = some x := ⟨_, List.getElem?_eq_getElem (by have := HZL.out; omega)⟩
            have hxb := HIN.out e x (by omega) (by omega) hx
            have hyb := HIN.out h y (by omega) (by omega) hy
            obtain ⟨cv, hcv⟩ : ∃ z, cmp2 (fK x) (fK y) = z := ⟨_, rfl⟩
            have HC2 := Lib.hid (fun W' hw => HCM.out x y hxb hyb W' hw)
            have hneg := cmp2_neg (fK x) (fK y)
            rw [hcv] at HC2 hneg
            obtain ⟨lv, hlv⟩ : ∃ z, kLt fK x y = z := ⟨_, rfl⟩
            have hlv2 : strLt (fK x) (fK y) = lv := hlv
            rw [hlv2] at hneg
            have HE : Hid (∃ x y, zs[pp - h]? = some x ∧ zs[h]? = some y ∧ kLt fK x y = lv) := Lib.hid ⟨x, y, by rw [he]; exact hx, hy, hlv⟩
            have hhn : h < n := by omega
            have hen : e < n := by omega
            clear hcv hlv hlv2 hs hh hxb hyb he hSTo hMo hDo
            obtain ⟨op2, k2, ⟨o2, d2⟩, fa2, fn2, fc2, kids2⟩ := x
            obtain ⟨op, k, ⟨o, d⟩, fa, fn, fc, kids⟩ := y
            have HU := Lib.hid (fm_cells hx)
            have HV := Lib.hid (fm_cells hy)
            clear hx hy
            unfold fmV S at HC2
            simp only at HC2
            cases lv with
            | false =>
              have hng : ¬ cv < 0 := fun q => by have := hneg.1 q; cases this
              have hdc : decide (cv < 0) = false := decide_eq_false hng
              have HIJ2 : Hid ((h + 1 = a ∨ ∃ x y, zs[pp - (h + 1 - 1)]? = some x ∧ zs[h + 1 - 1]? = some y ∧ kLt fK x y = false) ∧ (j = m ∨ ∃ x y, zs[pp - j]? = some x ∧ zs[j]? = some y ∧ kLt fK x y = true)) := Lib.hid ⟨.inr (by simpa using HE.out), HIJ.out.2⟩
              clear hneg
              (try simp only [nsl, Value.cells, unB] at st)
              (try clear hc); have hc := st.facts; (try simp only [nfl, nft, Nat.reduceAdd] at hc)
              go_wp2_with fail
              refine Rg4.wp_region4_eq #[0, 0, 0, 0, 12, 30, 62, 0, 0, 384, 896, 2047, 4095, 8191] [11] [6, 10] (fun _ => True) [0, 1, 2, 3, 4, 5, 6, 7, 8, 9, 10, 11, 12, 13] (by kernel_rfl) (by kernel_rfl) (by kernel_rfl) (by kernel_rfl) (show Rg4.PB _ by repeat (first | with_reducible exact Rg4.pb_body | with_reducible exact Rg4.pb_bodyD rfl | with_reducible refine Rg4.pb_then ?_ | with_reducible refine Rg4.pb_inBlock ?_ | with_reducible refine Rg4.pb_noGoto ?_)) (trivial) ?_
              replace st := st.drew
              change Rg4.wp4 _ _ _ _ _ _ _ _ _ (World.drew _) _ _
              generalize World.drew _ = w at st ⊢
              (try clear hc); have hc := st.facts; (try simp only [nfl, nft, Nat.reduceAdd] at hc)
              iterate 6 (refine Rg4.w4_any (Rg4.want_none rfl) rfl ?_; apply Exists.intro; refine ⟨fun w' => ?_, ?_⟩; (focus (first | (go_simp; done) | (go_simp; first | rfl | (rw [if_neg] <;> first | rfl | omega) | (rw [if_pos] <;> first | rfl | omega)))); (try simp only [Rg4.nrm]))
              (refine Rg4.w4_read (Rg4.want_none rfl) rfl rfl ?_; apply Exists.intro; refine ⟨fun w' hw' hcl' => ?_, ?_⟩; focus (subst hw'; have r0 := st.rowC (i := 0) get0 _ _ HU.out.1; have r1 := st.rowC (i := 0) get0 _ _ HU.out.2.1; have r2 := st.rowC (i := 0) get0 _ _ HU.out.2.2.1; have r3 := st.rowC (i := 0) get0 _ _ HU.out.2.2.2.1; have r4 := st.rowC (i := 0) get0 _ _ HU.out.2.2.2.2; have q0 := st.rowC (i := 0) get0 _ _ HV.out.1; have q1 := st.rowC (i := 0) get0 _ _ HV.out.2.1; have q2 := st.rowC (i := 0) get0 _ _ HV.out.2.2.1; have q3 := st.rowC (i := 0) get0 _ _ HV.out.2.2.2.1; have q4 := st.rowC (i := 0) get0 _ _ HV.out.2.2.2.2; (focus (first | (go_simp; done) | (go_simp; first | rfl | (rw [if_neg] <;> first | rfl | omega) | (rw [if_pos] <;> first | rfl | omega))))); (try simp only [Rg4.nrm]))
              iterate 3 (refine Rg4.w4_any (Rg4.want_none rfl) rfl ?_; apply Exists.intro; refine ⟨fun w' => ?_, ?_⟩; (focus (first | (go_simp; done) | (go_simp; first | rfl | (rw [if_neg] <;> first | rfl | omega) | (rw [if_pos] <;> first | rfl | omega)))); (try simp only [Rg4.nrm]))
              (refine Rg4.w4_read (Rg4.want_none rfl) rfl rfl ?_; apply Exists.intro; refine ⟨fun w' hw' hcl' => ?_, ?_⟩; focus (subst hw'; have r0 := st.rowC (i := 0) get0 _ _ HU.out.1; have r1 := st.rowC (i := 0) get0 _ _ HU.out.2.1; have r2 := st.rowC (i := 0) get0 _ _ HU.out.2.2.1; have r3 := st.rowC (i := 0) get0 _ _ HU.out.2.2.2.1; have r4 := st.rowC (i := 0) get0 _ _ HU.out.2.2.2.2; have q0 := st.rowC (i := 0) get0 _ _ HV.out.1; have q1 := st.rowC (i := 0) get0 _ _ HV.out.2.1; have q2 := st.rowC (i := 0) get0 _ _ HV.out.2.2.1; have q3 := st.rowC (i := 0) get0 _ _ HV.out.2.2.2.1; have q4 := st.rowC (i := 0) get0 _ _ HV.out.2.2.2.2; (focus (first | (go_simp; done) | (go_simp; first | rfl | (rw [if_neg] <;> first | rfl | omega) | (rw [if_pos] <;> first | rfl | omega))))); (try simp only [Rg4.nrm]))
              refine Rg4.w4_bar (Rg4.want_none rfl) rfl (fun w' hw' hcl _ K hK => ?_)
              subst hw'
              go_wp2_with fail
              refine (HC2.out _ (st.fms (i := 1) get1)).mono ?_
              rintro en w ⟨rfl, hx⟩
              replace st := st.ext hx
              clear hx
              (try clear hc); have hc := st.facts; (try simp only [nfl, nft, Nat.reduceAdd] at hc)
              refine hK _ _ ⟨trivial, ?_⟩
              clear hK
              (try simp only [Rg4.nrm])
              iterate 2 (refine Rg4.w4_any (Rg4.want_none rfl) rfl ?_; apply Exists.intro; refine ⟨fun w' => ?_, ?_⟩; (focus (first | (go_simp; done) | (go_simp; first | rfl | (rw [if_neg] <;> first | rfl | omega) | (rw [if_pos] <;> first | rfl | omega)))); (try simp only [Rg4.nrm]))
              refine Rg4.w4_nil (fun w' hw' hcl' _ => ?_); subst hw'; clear hcl'
              go_wp2_with fail
              go_roundg (j - (h + 1))
              case measure => omega
              case rel => exact ⟨h + 1, j, rfl, by omega, rfl, rfl, HIJ2, st⟩
            | true =>
              have hng : cv < 0 := hneg.2 rfl
              have hdc : decide (cv < 0) = true := decide_eq_true hng
              have HIJ2 : Hid ((i = a ∨ ∃ x y, zs[pp - (i - 1)]? = some x ∧ zs[i - 1]? = some y ∧ kLt fK x y = false) ∧ (h = m ∨ ∃ x y, zs[pp - h]? = some x ∧ zs[h]? = some y ∧ kLt fK x y = true)) := Lib.hid ⟨HIJ.out.1, .inr HE.out⟩
              clear hneg
              (try simp only [nsl, Value.cells, unB] at st)
              (try clear hc); have hc := st.facts; (try simp only [nfl, nft, Nat.reduceAdd] at hc)
              go_wp2_with fail
              refine Rg4.wp_region4_eq #[0, 0, 0, 0, 12, 30, 62, 0, 0, 384, 896, 2047, 4095, 8191] [11] [6, 10] (fun _ => True) [0, 1, 2, 3, 4, 5, 6, 7, 8, 9, 10, 11, 12, 13] (by kernel_rfl) (by kernel_rfl) (by kernel_rfl) (by kernel_rfl) (show Rg4.PB _ by repeat (first | with_reducible exact Rg4.pb_body | with_reducible exact Rg4.pb_bodyD rfl | with_reducible refine Rg4.pb_then ?_ | with_reducible refine Rg4.pb_inBlock ?_ | with_reducible refine Rg4.pb_noGoto ?_)) (trivial) ?_
              replace st := st.drew
              change Rg4.wp4 _ _ _ _ _ _ _ _ _ (World.drew _) _ _
              generalize World.drew _ = w at st ⊢
              (try clear hc); have hc := st.facts; (try simp only [nfl, nft, Nat.reduceAdd] at hc)
              iterate 6 (refine Rg4.w4_any (Rg4.want_none rfl) rfl ?_; apply Exists.intro; refine ⟨fun w' => ?_, ?_⟩; (focus (first | (go_simp; done) | (go_simp; first | rfl | (rw [if_neg] <;> first | rfl | omega) | (rw [if_pos] <;> first | rfl | omega)))); (try simp only [Rg4.nrm]))
              (refine Rg4.w4_read (Rg4.want_none rfl) rfl rfl ?_; apply Exists.intro; refine ⟨fun w' hw' hcl' => ?_, ?_⟩; focus (subst hw'; have r0 := st.rowC (i := 0) get0 _ _ HU.out.1; have r1 := st.rowC (i := 0) get0 _ _ HU.out.2.1; have r2 := st.rowC (i := 0) get0 _ _ HU.out.2.2.1; have r3 := st.rowC (i := 0) get0 _ _ HU.out.2.2.2.1; have r4 := st.rowC (i := 0) get0 _ _ HU.out.2.2.2.2; have q0 := st.rowC (i := 0) get0 _ _ HV.out.1; have q1 := st.rowC (i := 0) get0 _ _ HV.out.2.1; have q2 := st.rowC (i := 0) get0 _ _ HV.out.2.2.1; have q3 := st.rowC (i := 0) get0 _ _ HV.out.2.2.2.1; have q4 := st.rowC (i := 0) get0 _ _ HV.out.2.2.2.2; (focus (first | (go_simp; done) | (go_simp; first | rfl | (rw [if_neg] <;> first | rfl | omega) | (rw [if_pos] <;> first | rfl | omega))))); (try simp only [Rg4.nrm]))
              iterate 3 (refine Rg4.w4_any (Rg4.want_none rfl) rfl ?_; apply Exists.intro; refine ⟨fun w' => ?_, ?_⟩; (focus (first | (go_simp; done) | (go_simp; first | rfl | (rw [if_neg] <;> first | rfl | omega) | (rw [if_pos] <;> first | rfl | omega)))); (try simp only [Rg4.nrm]))
              (refine Rg4.w4_read (Rg4.want_none rfl) rfl rfl ?_; apply Exists.intro; refine ⟨fun w' hw' hcl' => ?_, ?_⟩; focus (subst hw'; have r0 := st.rowC (i := 0) get0 _ _ HU.out.1; have r1 := st.rowC (i := 0) get0 _ _ HU.out.2.1; have r2 := st.rowC (i := 0) get0 _ _ HU.out.2.2.1; have r3 := st.rowC (i := 0) get0 _ _ HU.out.2.2.2.1; have r4 := st.rowC (i := 0) get0 _ _ HU.out.2.2.2.2; have q0 := st.rowC (i := 0) get0 _ _ HV.out.1; have q1 := st.rowC (i := 0) get0 _ _ HV.out.2.1; have q2 := st.rowC (i := 0) get0 _ _ HV.out.2.2.1; have q3 := st.rowC (i := 0) get0 _ _ HV.out.2.2.2.1; have q4 := st.rowC (i := 0) get0 _ _ HV.out.2.2.2.2; (focus (first | (go_simp; done) | (go_simp; first | rfl | (rw [if_neg] <;> first | rfl | omega) | (rw [if_pos] <;> first | rfl | omega))))); (try simp only [Rg4.nrm]))
              refine Rg4.w4_bar (Rg4.want_none rfl) rfl (fun w' hw' hcl _ K hK => ?_)
              subst hw'
              go_wp2_with fail
              refine (HC2.out _ (st.fms (i := 1) get1)).mono ?_
              rintro en w ⟨rfl, hx⟩
              replace st := st.ext hx
              clear hx
              (try clear hc); have hc := st.facts; (try simp only [nfl, nft, Nat.reduceAdd] at hc)
              refine hK _ _ ⟨trivial, ?_⟩
              clear hK
              (try simp only [Rg4.nrm])
              iterate 2 (refine Rg4.w4_any (Rg4.want_none rfl) rfl ?_; apply Exists.intro; refine ⟨fun w' => ?_, ?_⟩; (focus (first | (go_simp; done) | (go_simp; first | rfl | (rw [if_neg] <;> first | rfl | omega) | (rw [if_pos] <;> first | rfl | omega)))); (try simp only [Rg4.nrm]))
              refine Rg4.w4_nil (fun w' hw' hcl' _ => ?_); subst hw'; clear hcl'
              go_wp2_with fail
              go_roundg (h - i)
              case measure => omega
              case rel => exact ⟨i, h, rfl, by omega, rfl, rfl, HIJ2, st⟩
          · obtain rfl : i = j := by omega
            obtain ⟨en, hen⟩ : ∃ q, nn - i = q := ⟨_, rfl⟩
            have w8 : IntKind.i64.wrap ((nn : Int) - (i : Int)) = (en : Int) := by rw [← hen, show (((nn - i : Nat)) : Int) = (nn : Int) - (i : Int) by omega]; exact IntWalk.i64_in _ ⟨by omega, by omega⟩
            have hrg : a ≤ i ∧ i ≤ m ∧ m ≤ en ∧ en ≤ b ∧ (i - a) + (en - m) = mid - a ∧ a < mid ∧ mid < b := by omega
            obtain ⟨t, ht⟩ : ∃ q, i - a = q := ⟨_, rfl⟩
            obtain ⟨t2, ht2⟩ : ∃ q, en - m = q := ⟨_, rfl⟩
            have hc1 : ∀ l ∈ L.take t, ∀ r ∈ R.drop t2, kLt fK r l = false := by
              rcases HIJ.out.1 with q | ⟨x, y, q1, q2, q3⟩
              · rcases hSTo.2.2 with q4 | q4
                · rw [List.drop_of_length_le (l := R) (by omega)]; simp
                · have : t = 0 := by omega
                  subst this; simp
              · rcases Nat.eq_zero_or_pos t with t0 | t0
                · subst t0; simp
                · rcases Nat.lt_or_ge en b with e0 | e0
                  · rw [← HZ.out, at_R (by omega) (by omega), show pp - (i - 1) - (P.length + L.length) = t2 by omega] at q1
                    rw [← HZ.out, at_L (by omega) (by omega), show i - 1 - P.length = t - 1 by omega] at q2
                    have h1 := take_le HSL.out q2
                    rw [show t - 1 + 1 = t by omega] at h1
                    have h2 := drop_ge HSR.out q1
                    exact fun l hl r hr => kLe_tr (h1 l hl) (kLe_tr q3 (h2 r hr))
                  · rw [List.drop_of_length_le (l := R) (by omega)]; simp
            have hc2 : ∀ r ∈ R.take t2, ∀ l ∈ L.drop t, kLt fK r l = true := by
              rcases HIJ.out.2 with q | ⟨x, y, q1, q2, q3⟩
              · rcases hSTo.2.2 with q4 | q4
                · have : t2 = 0 := by omega
                  subst this; simp
                · rw [List.drop_of_length_le (l := L) (by omega)]; simp
              · rcases Nat.eq_zero_or_pos t2 with t0 | t0
                · subst t0; simp
                · rcases Nat.lt_or_ge i m with e0 | e0
                  · rw [← HZ.out, at_R (by omega) (by omega), show pp - i - (P.length + L.length) = t2 - 1 by omega] at q1
                    rw [← HZ.out, at_L (by omega) (by omega), show i - P.length = t by omega] at q2
                    have h1 := take_le HSR.out q1
                    rw [show t2 - 1 + 1 = t2 by omega] at h1
                    have h2 := drop_ge HSL.out q2
                    exact fun r hr l hl => kLt_le (kLe_lt (h1 r hr) q3) (h2 l hl)
                  · rw [List.drop_of_length_le (l := L) (by omega)]; simp
            have eL : L = L.take t ++ L.drop t := (List.take_append_drop _ _).symm
            have eR : R = R.take t2 ++ R.drop t2 := (List.take_append_drop _ _).symm
            have l1 : (L.take t).length = t := by simp; omega
            have l2 : (L.drop t).length = L.length - t := by simp
            have r1 : (R.take t2).length = t2 := by simp; omega
            have r2 : (R.drop t2).length = R.length - t2 := by simp
            generalize L.take t = L1 at *
            generalize L.drop t = L2 at *
            generalize R.take t2 = R1 at *
            generalize R.drop t2 = R2 at *
            have hsz : P.length = a ∧ i = a + L1.length ∧ m = i + L2.length ∧ en = m + R1.length ∧ b = en + R2.length ∧ mid = a + L1.length + R1.length ∧ 0 < L1.length + R1.length ∧ 0 < L2.length + R2.length ∧ L1.length + R1.length + (L2.length + R2.length) ≤ N + 1 := by omega
            have HSZ := Lib.hid hsz
            subst eL eR
            have HCC := Lib.hid (And.intro hc1 hc2)
            have st0 : Own fr al W [rowI 26 5 (.slice (some ⟨g, 0, none⟩) n c) n (cellsL ((P ++ L1) ++ (L2 ++ (R1 ++ (R2 ++ Q))))), fmsI base] wr := by
              have := HZ.out
              rw [← this] at st
              simpa using st
            have HROT := Lib.hid (fun (h1 : 0 < L2.length) (h2 : 0 < R1.length) fr al W st => rotate_c (fr := fr) (al := al) (W := W) (g := g) (n := n) (c := c) (.func (.func 47) #[] #[]) base (P ++ L1) L2 R1 (R2 ++ Q) i m en (by simp; omega) (by simp; omega) (by simp; omega) h1 h2 st hn)
            have HI1 := Lib.hid (fun (h1 : 0 < L1.length) (h2 : 0 < R1.length) fr al W st => HIH.out P L1 R1 (L2 ++ (R2 ++ Q)) (by omega) h1 h2 HSL.out.left HSR.out.left (fun x hx => HMB.out x (by rcases List.mem_append.1 hx with q | q <;> simp [q])) fr al W a i mid (by omega) (by omega) (by omega) st)
            have HI2 := Lib.hid (fun (h1 : 0 < L2.length) (h2 : 0 < R2.length) (A : List Fm) (hA : A.length = L1.length + R1.length) fr al W st => HIH.out (P ++ A) L2 R2 Q (by omega) h1 h2 HSL.out.right HSR.out.right (fun x hx => HMB.out x (by rcases List.mem_append.1 hx with q | q <;> simp [q])) fr al W mid en b (by simp; omega) (by simp; omega) (by simp; omega) st)
            clear st hc1 hc2 HIJ HZ l1 l2 r1 r2 hSTo hMo hDo hen ht ht2 hrg hij hsz HIH HIN HD HST HMID
            have st := st0
            clear st0
            rcases Nat.eq_zero_or_pos L1.length with pL1 | pL1
            · have pR1 : 0 < R1.length := by have := HSZ.out; omega
              rcases Nat.eq_zero_or_pos L2.length with pL2 | pL2
              · have pR2 : 0 < R2.length := by have := HSZ.out; omega
                have hsz := HSZ.out
                have ca1 : ¬ (a : Int) < (i : Int) := by omega
                have ca2 : (i : Int) < (mid : Int) := by omega
                have cb1 : ¬ (i : Int) < (m : Int) := by omega
                have cb2 : (m : Int) < (en : Int) := by omega
                have cc1 : ¬ (mid : Int) < (en : Int) := by omega
                have cc2 : (en : Int) < (b : Int) := by omega
                clear hsz
                have HXA0 : Hid (SP fK (L1 ++ R1) (L1 ++ R1) ∧ Srt fK (L1 ++ R1)) := Lib.hid ⟨SP.refl _, by
                  have hnil : L1 = [] := List.eq_nil_of_length_eq_zero (by have := HSZ.out; omega)
                  rw [hnil]; simpa using HSR.out.left⟩
                have HYA : Hid (SP fK (L2 ++ R2) (L2 ++ R2) ∧ Srt fK (L2 ++ R2)) := Lib.hid ⟨SP.refl _, by
                  have hnil : L2 = [] := List.eq_nil_of_length_eq_zero (by have := HSZ.out; omega)
                  rw [hnil]; simpa using HSR.out.right⟩
                rw [show L2 ++ (R1 ++ (R2 ++ Q)) = R1 ++ (L2 ++ (R2 ++ Q)) by rw [List.eq_nil_of_length_eq_zero (l := L2) (by have := HSZ.out; omega)]; simp] at st
                (try simp only [nsl, Value.cells, unB] at st)
                (try clear hc); have hc := st.facts; (try simp only [nfl, nft, Nat.reduceAdd] at hc)
                go_wp2_with fail
                rw [List.append_assoc P L1] at st
                rw [← List.append_assoc L1 R1] at st
                obtain ⟨X, hX⟩ : ∃ X, L1 ++ R1 = X := ⟨_, rfl⟩
                have HXA : Hid (SP fK (L1 ++ R1) X ∧ Srt fK X) := Lib.hid (by rw [← hX]; exact HXA0.out)
                rw [hX] at st
                clear hX HXA0
                all_goals (go_end0; exact ⟨rfl, X ++ (L2 ++ R2), ⟨(by have h9 := (sym_sp HCC.out.2).trans (HXA.out.1.app HYA.out.1); simpa only [List.append_assoc] using h9), sym_srt HSL.out HSR.out HCC.out.1 HCC.out.2 HXA.out.1 HXA.out.2 HYA.out.1 HYA.out.2⟩, by simpa using st⟩)
              · rcases Nat.eq_zero_or_pos R2.length with pR2 | pR2
                · have hsz := HSZ.out
                  have ca1 : ¬ (a : Int) < (i : Int) := by omega
                  have ca2 : (i : Int) < (mid : Int) := by omega
                  have cb1 : (i : Int) < (m : Int) := by omega
                  have cb2 : (m : Int) < (en : Int) := by omega
                  have cc1 : (mid : Int) < (en : Int) := by omega
                  have cc2 : ¬ (en : Int) < (b : Int) := by omega
                  clear hsz
                  have HXA0 : Hid (SP fK (L1 ++ R1) (L1 ++ R1) ∧ Srt fK (L1 ++ R1)) := Lib.hid ⟨SP.refl _, by
                    have hnil : L1 = [] := List.eq_nil_of_length_eq_zero (by have := HSZ.out; omega)
                    rw [hnil]; simpa using HSR.out.left⟩
                  have HYA : Hid (SP fK (L2 ++ R2) (L2 ++ R2) ∧ Srt fK (L2 ++ R2)) := Lib.hid ⟨SP.refl _, by
                    have hnil : R2 = [] := List.eq_nil_of_length_eq_zero (by have := HSZ.out; omega)
                    rw [hnil]; simpa using HSL.out.right⟩
                  (try simp only [nsl, Value.cells, unB] at st)
                  (try clear hc); have hc := st.facts; (try simp only [nfl, nft, Nat.reduceAdd] at hc)
                  go_wp2_with fail
                  obtain ⟨fr', al', st', back⟩ := st.sub [0, 1] (by decide) (by simp)
                  (try simp only [nsl, Value.cells, unB] at st')
                  refine (HROT.out (by have := HSZ.out; omega) (by have := HSZ.out; omega) _ _ _ st').mono ?_
                  clear st'
                  rintro en w ⟨rfl, st'⟩
                  replace st := back _ _ (by simp) st'
                  clear back st'
                  (try simp only [nsl, Value.cells, unB] at st)
                  (try clear hc); have hc := st.facts; (try simp only [nfl, nft, Nat.reduceAdd] at hc)
                  go_wp2_with fail
                  rw [List.append_assoc P L1] at st
                  rw [← List.append_assoc L1 R1] at st
                  obtain ⟨X, hX⟩ : ∃ X, L1 ++ R1 = X := ⟨_, rfl⟩
                  have HXA : Hid (SP fK (L1 ++ R1) X ∧ Srt fK X) := Lib.hid (by rw [← hX]; exact HXA0.out)
                  rw [hX] at st
                  clear hX HXA0
                  all_goals (go_end0; exact ⟨rfl, X ++ (L2 ++ R2), ⟨(by have h9 := (sym_sp HCC.out.2).trans (HXA.out.1.app HYA.out.1); simpa only [List.append_assoc] using h9), sym_srt HSL.out HSR.out HCC.out.1 HCC.out.2 HXA.out.1 HXA.out.2 HYA.out.1 HYA.out.2⟩, by simpa using st⟩)
                · have hsz := HSZ.out
                  have ca1 : ¬ (a : Int) < (i : Int) := by omega
                  have ca2 : (i : Int) < (mid : Int) := by omega
                  have cb1 : (i : Int) < (m : Int) := by omega
                  have cb2 : (m : Int) < (en : Int) := by omega
                  have cc1 : (mid : Int) < (en : Int) := by omega
                  have cc2 : (en : Int) < (b : Int) := by omega
                  clear hsz
                  have HXA0 : Hid (SP fK (L1 ++ R1) (L1 ++ R1) ∧ Srt fK (L1 ++ R1)) := Lib.hid ⟨SP.refl _, by
                    have hnil : L1 = [] := List.eq_nil_of_length_eq_zero (by have := HSZ.out; omega)
                    rw [hnil]; simpa using HSR.out.left⟩
                  (try simp only [nsl, Value.cells, unB] at st)
                  (try clear hc); have hc := st.facts; (try simp only [nfl, nft, Nat.reduceAdd] at hc)
                  go_wp2_with fail
                  obtain ⟨fr', al', st', back⟩ := st.sub [0, 1] (by decide) (by simp)
                  (try simp only [nsl, Value.cells, unB] at st')
                  refine (HROT.out (by have := HSZ.out; omega) (by have := HSZ.out; omega) _ _ _ st').mono ?_
                  clear st'
                  rintro en w ⟨rfl, st'⟩
                  replace st := back _ _ (by simp) st'
                  clear back st'
                  (try simp only [nsl, Value.cells, unB] at st)
                  (try clear hc); have hc := st.facts; (try simp only [nfl, nft, Nat.reduceAdd] at hc)
                  go_wp2_with fail
                  rw [List.append_assoc P L1] at st
                  rw [← List.append_assoc L1 R1] at st
                  obtain ⟨X, hX⟩ : ∃ X, L1 ++ R1 = X := ⟨_, rfl⟩
                  have HXA : Hid (SP fK (L1 ++ R1) X ∧ Srt fK X) := Lib.hid (by rw [← hX]; exact HXA0.out)
                  rw [hX] at st
                  clear hX HXA0
                  rw [← List.append_assoc P X] at st
                  obtain ⟨fr', al', st', back⟩ := st.sub [0, 1] (by decide) (by simp)
                  (try simp only [nsl, Value.cells, unB] at st')
                  refine (HI2.out (by have := HSZ.out; omega) (by have := HSZ.out; omega) X (by have := HXA.out.1.len; simpa using this) _ _ _ st').mono ?_
                  clear st'
                  rintro en w ⟨rfl, Y, hY, st'⟩
                  replace st := back _ _ (by simp) st'
                  clear back st'
                  (try simp only [nsl, Value.cells, unB] at st)
                  (try clear hc); have hc := st.facts; (try simp only [nfl, nft, Nat.reduceAdd] at hc)
                  have HYA := Lib.hid hY
                  clear hY
                  go_wp2_with fail
                  all_goals (go_end0; exact ⟨rfl, X ++ Y, ⟨(by have h9 := (sym_sp HCC.out.2).trans (HXA.out.1.app HYA.out.1); simpa only [List.append_assoc] using h9), sym_srt HSL.out HSR.out HCC.out.1 HCC.out.2 HXA.out.1 HXA.out.2 HYA.out.1 HYA.out.2⟩, by simpa using st⟩)
            · rcases Nat.eq_zero_or_pos R1.length with pR1 | pR1
              · rcases Nat.eq_zero_or_pos L2.length with pL2 | pL2
                · have pR2 : 0 < R2.length := by have := HSZ.out; omega
                  have hsz := HSZ.out
                  have ca1 : (a : Int) < (i : Int) := by omega
                  have ca2 : ¬ (i : Int) < (mid : Int) := by omega
                  have cb1 : ¬ (i : Int) < (m : Int) := by omega
                  have cb2 : ¬ (m : Int) < (en : Int) := by omega
                  have cc1 : ¬ (mid : Int) < (en : Int) := by omega
                  have cc2 : (en : Int) < (b : Int) := by omega
                  clear hsz
                  have HXA0 : Hid (SP fK (L1 ++ R1) (L1 ++ R1) ∧ Srt fK (L1 ++ R1)) := Lib.hid ⟨SP.refl _, by
                    have hnil : R1 = [] := List.eq_nil_of_length_eq_zero (by have := HSZ.out; omega)
                    rw [hnil]; simpa using HSL.out.left⟩
                  have HYA : Hid (SP fK (L2 ++ R2) (L2 ++ R2) ∧ Srt fK (L2 ++ R2)) := Lib.hid ⟨SP.refl _, by
                    have hnil : L2 = [] := List.eq_nil_of_length_eq_zero (by have := HSZ.out; omega)
                    rw [hnil]; simpa using HSR.out.right⟩
                  rw [show L2 ++ (R1 ++ (R2 ++ Q)) = R1 ++ (L2 ++ (R2 ++ Q)) by rw [List.eq_nil_of_length_eq_zero (l := L2) (by have := HSZ.out; omega)]; simp] at st
                  (try simp only [nsl, Value.cells, unB] at st)
                  (try clear hc); have hc := st.facts; (try simp only [nfl, nft, Nat.reduceAdd] at hc)
                  go_wp2_with fail
                  rw [List.append_assoc P L1] at st
                  rw [← List.append_assoc L1 R1] at st
                  obtain ⟨X, hX⟩ : ∃ X, L1 ++ R1 = X := ⟨_, rfl⟩
                  have HXA : Hid (SP fK (L1 ++ R1) X ∧ Srt fK X) := Lib.hid (by rw [← hX]; exact HXA0.out)
                  rw [hX] at st
                  clear hX HXA0
                  all_goals (go_end0; exact ⟨rfl, X ++ (L2 ++ R2), ⟨(by have h9 := (sym_sp HCC.out.2).trans (HXA.out.1.app HYA.out.1); simpa only [List.append_assoc] using h9), sym_srt HSL.out HSR.out HCC.out.1 HCC.out.2 HXA.out.1 HXA.out.2 HYA.out.1 HYA.out.2⟩, by simpa using st⟩)
                · rcases Nat.eq_zero_or_pos R2.length with pR2 | pR2
                  · have hsz := HSZ.out
                    have ca1 : (a : Int) < (i : Int) := by omega
                    have ca2 : ¬ (i : Int) < (mid : Int) := by omega
                    have cb1 : (i : Int) < (m : Int) := by omega
                    have cb2 : ¬ (m : Int) < (en : Int) := by omega
                    have cc1 : (mid : Int) < (en : Int) := by omega
                    have cc2 : ¬ (en : Int) < (b : Int) := by omega
                    clear hsz
                    have HXA0 : Hid (SP fK (L1 ++ R1) (L1 ++ R1) ∧ Srt fK (L1 ++ R1)) := Lib.hid ⟨SP.refl _, by
                      have hnil : R1 = [] := List.eq_nil_of_length_eq_zero (by have := HSZ.out; omega)
                      rw [hnil]; simpa using HSL.out.left⟩
                    have HYA : Hid (SP fK (L2 ++ R2) (L2 ++ R2) ∧ Srt fK (L2 ++ R2)) := Lib.hid ⟨SP.refl _, by
                      have hnil : R2 = [] := List.eq_nil_of_length_eq_zero (by have := HSZ.out; omega)
                      rw [hnil]; simpa using HSL.out.right⟩
                    rw [show L2 ++ (R1 ++ (R2 ++ Q)) = R1 ++ (L2 ++ (R2 ++ Q)) by rw [List.eq_nil_of_length_eq_zero (l := R1) (by have := HSZ.out; omega)]; simp] at st
                    (try simp only [nsl, Value.cells, unB] at st)
                    (try clear hc); have hc := st.facts; (try simp only [nfl, nft, Nat.reduceAdd] at hc)
                    go_wp2_with fail
                    rw [List.append_assoc P L1] at st
                    rw [← List.append_assoc L1 R1] at st
                    obtain ⟨X, hX⟩ : ∃ X, L1 ++ R1 = X := ⟨_, rfl⟩
                    have HXA : Hid (SP fK (L1 ++ R1) X ∧ Srt fK X) := Lib.hid (by rw [← hX]; exact HXA0.out)
                    rw [hX] at st
                    clear hX HXA0
                    all_goals (go_end0; exact ⟨rfl, X ++ (L2 ++ R2), ⟨(by have h9 := (sym_sp HCC.out.2).trans (HXA.out.1.app HYA.out.1); simpa only [List.append_assoc] using h9), sym_srt HSL.out HSR.out HCC.out.1 HCC.out.2 HXA.out.1 HXA.out.2 HYA.out.1 HYA.out.2⟩, by simpa using st⟩)
                  · have hsz := HSZ.out
                    have ca1 : (a : Int) < (i : Int) := by omega
                    have ca2 : ¬ (i : Int) < (mid : Int) := by omega
                    have cb1 : (i : Int) < (m : Int) := by omega
                    have cb2 : ¬ (m : Int) < (en : Int) := by omega
                    have cc1 : (mid : Int) < (en : Int) := by omega
                    have cc2 : (en : Int) < (b : Int) := by omega
                    clear hsz
                    have HXA0 : Hid (SP fK (L1 ++ R1) (L1 ++ R1) ∧ Srt fK (L1 ++ R1)) := Lib.hid ⟨SP.refl _, by
                      have hnil : R1 = [] := List.eq_nil_of_length_eq_zero (by have := HSZ.out; omega)
                      rw [hnil]; simpa using HSL.out.left⟩
                    rw [show L2 ++ (R1 ++ (R2 ++ Q)) = R1 ++ (L2 ++ (R2 ++ Q)) by rw [List.eq_nil_of_length_eq_zero (l := R1) (by have := HSZ.out; omega)]; simp] at st
                    (try simp only [nsl, Value.cells, unB] at st)
                    (try clear hc); have hc := st.facts; (try simp only [nfl, nft, Nat.reduceAdd] at hc)
                    go_wp2_with fail
                    rw [List.append_assoc P L1] at st
                    rw [← List.append_assoc L1 R1] at st
                    obtain ⟨X, hX⟩ : ∃ X, L1 ++ R1 = X := ⟨_, rfl⟩
                    have HXA : Hid (SP fK (L1 ++ R1) X ∧ Srt fK X) := Lib.hid (by rw [← hX]; exact HXA0.out)
                    rw [hX] at st
                    clear hX HXA0
                    rw [← List.append_assoc P X] at st
                    obtain ⟨fr', al', st', back⟩ := st.sub [0, 1] (by decide) (by simp)
                    (try simp only [nsl, Value.cells, unB] at st')
                    refine (HI2.out (by have := HSZ.out; omega) (by have := HSZ.out; omega) X (by have := HXA.out.1.len; simpa using this) _ _ _ st').mono ?_
                    clear st'
                    rintro en w ⟨rfl, Y, hY, st'⟩
                    replace st := back _ _ (by simp) st'
                    clear back st'
                    (try simp only [nsl, Value.cells, unB] at st)
                    (try clear hc); have hc := st.facts; (try simp only [nfl, nft, Nat.reduceAdd] at hc)
                    have HYA := Lib.hid hY
                    clear hY
                    go_wp2_with fail
                    all_goals (go_end0; exact ⟨rfl, X ++ Y, ⟨(by have h9 := (sym_sp HCC.out.2).trans (HXA.out.1.app HYA.out.1); simpa only [List.append_assoc] using h9), sym_srt HSL.out HSR.out HCC.out.1 HCC.out.2 HXA.out.1 HXA.out.2 HYA.out.1 HYA.out.2⟩, by simpa using st⟩)
              · rcases Nat.eq_zero_or_pos L2.length with pL2 | pL2
                · have pR2 : 0 < R2.length := by have := HSZ.out; omega
                  have hsz := HSZ.out
                  have ca1 : (a : Int) < (i : Int) := by omega
                  have ca2 : (i : Int) < (mid : Int) := by omega
                  have cb1 : ¬ (i : Int) < (m : Int) := by omega
                  have cb2 : (m : Int) < (en : Int) := by omega
                  have cc1 : ¬ (mid : Int) < (en : Int) := by omega
                  have cc2 : (en : Int) < (b : Int) := by omega
                  clear hsz
                  have HYA : Hid (SP fK (L2 ++ R2) (L2 ++ R2) ∧ Srt fK (L2 ++ R2)) := Lib.hid ⟨SP.refl _, by
                    have hnil : L2 = [] := List.eq_nil_of_length_eq_zero (by have := HSZ.out; omega)
                    rw [hnil]; simpa using HSR.out.right⟩
                  rw [show L2 ++ (R1 ++ (R2 ++ Q)) = R1 ++ (L2 ++ (R2 ++ Q)) by rw [List.eq_nil_of_length_eq_zero (l := L2) (by have := HSZ.out; omega)]; simp] at st
                  (try simp only [nsl, Value.cells, unB] at st)
                  (try clear hc); have hc := st.facts; (try simp only [nfl, nft, Nat.reduceAdd] at hc)
                  go_wp2_with fail
                  rw [List.append_assoc P L1] at st
                  obtain ⟨fr', al', st', back⟩ := st.sub [0, 1] (by decide) (by simp)
                  (try simp only [nsl, Value.cells, unB] at st')
                  refine (HI1.out (by have := HSZ.out; omega) (by have := HSZ.out; omega) _ _ _ st').mono ?_
                  clear st'
                  rintro en w ⟨rfl, X, hX, st'⟩
                  replace st := back _ _ (by simp) st'
                  clear back st'
                  (try simp only [nsl, Value.cells, unB] at st)
                  (try clear hc); have hc := st.facts; (try simp only [nfl, nft, Nat.reduceAdd] at hc)
                  have HXA := Lib.hid hX
                  clear hX
                  go_wp2_with fail
                  all_goals (go_end0; exact ⟨rfl, X ++ (L2 ++ R2), ⟨(by have h9 := (sym_sp HCC.out.2).trans (HXA.out.1.app HYA.out.1); simpa only [List.append_assoc] using h9), sym_srt HSL.out HSR.out HCC.out.1 HCC.out.2 HXA.out.1 HXA.out.2 HYA.out.1 HYA.out.2⟩, by simpa using st⟩)
                · rcases Nat.eq_zero_or_pos R2.length with pR2 | pR2
                  · have hsz := HSZ.out
                    have ca1 : (a : Int) < (i : Int) := by omega
                    have ca2 : (i : Int) < (mid : Int) := by omega
                    have cb1 : (i : Int) < (m : Int) := by omega
                    have cb2 : (m : Int) < (en : Int) := by omega
                    have cc1 : (mid : Int) < (en : Int) := by omega
                    have cc2 : ¬ (en : Int) < (b : Int) := by omega
                    clear hsz
                    have HYA : Hid (SP fK (L2 ++ R2) (L2 ++ R2) ∧ Srt fK (L2 ++ R2)) := Lib.hid ⟨SP.refl _, by
                      have hnil : R2 = [] := List.eq_nil_of_length_eq_zero (by have := HSZ.out; omega)
                      rw [hnil]; simpa using HSL.out.right⟩
                    (try simp only [nsl, Value.cells, unB] at st)
                    (try clear hc); have hc := st.facts; (try simp only [nfl, nft, Nat.reduceAdd] at hc)
                    go_wp2_with fail
                    obtain ⟨fr', al', st', back⟩ := st.sub [0, 1] (by decide) (by simp)
                    (try simp only [nsl, Value.cells, unB] at st')
                    refine (HROT.out (by have := HSZ.out; omega) (by have := HSZ.out; omega) _ _ _ st').mono ?_
                    clear st'
                    rintro en w ⟨rfl, st'⟩
                    replace st := back _ _ (by simp) st'
                    clear back st'
                    (try simp only [nsl, Value.cells, unB] at st)
                    (try clear hc); have hc := st.facts; (try simp only [nfl, nft, Nat.reduceAdd] at hc)
                    go_wp2_with fail
                    rw [List.append_assoc P L1] at st
                    obtain ⟨fr', al', st', back⟩ := st.sub [0, 1] (by decide) (by simp)
                    (try simp only [nsl, Value.cells, unB] at st')
                    refine (HI1.out (by have := HSZ.out; omega) (by have := HSZ.out; omega) _ _ _ st').mono ?_
                    clear st'
                    rintro en w ⟨rfl, X, hX, st'⟩
                    replace st := back _ _ (by simp) st'
                    clear back st'
                    (try simp only [nsl, Value.cells, unB] at st)
                    (try clear hc); have hc := st.facts; (try simp only [nfl, nft, Nat.reduceAdd] at hc)
                    have HXA := Lib.hid hX
                    clear hX
                    go_wp2_with fail
                    all_goals (go_end0; exact ⟨rfl, X ++ (L2 ++ R2), ⟨(by have h9 := (sym_sp HCC.out.2).trans (HXA.out.1.app HYA.out.1); simpa only [List.append_assoc] using h9), sym_srt HSL.out HSR.out HCC.out.1 HCC.out.2 HXA.out.1 HXA.out.2 HYA.out.1 HYA.out.2⟩, by simpa using st⟩)
                  · have hsz := HSZ.out
                    have ca1 : (a : Int) < (i : Int) := by omega
                    have ca2 : (i : Int) < (mid : Int) := by omega
                    have cb1 : (i : Int) < (m : Int) := by omega
                    have cb2 : (m : Int) < (en : Int) := by omega
                    have cc1 : (mid : Int) < (en : Int) := by omega
                    have cc2 : (en : Int) < (b : Int) := by omega
                    clear hsz
                    (try simp only [nsl, Value.cells, unB] at st)
                    (try clear hc); have hc := st.facts; (try simp only [nfl, nft, Nat.reduceAdd] at hc)
                    go_wp2_with fail
                    obtain ⟨fr', al', st', back⟩ := st.sub [0, 1] (by decide) (by simp)
                    (try simp only [nsl, Value.cells, unB] at st')
                    refine (HROT.out (by have := HSZ.out; omega) (by have := HSZ.out; omega) _ _ _ st').mono ?_
                    clear st'
                    rintro en w ⟨rfl, st'⟩
                    replace st := back _ _ (by simp) st'
                    clear back st'
                    (try simp only [nsl, Value.cells, unB] at st)
                    (try clear hc); have hc := st.facts; (try simp only [nfl, nft, Nat.reduceAdd] at hc)
                    go_wp2_with fail
                    rw [List.append_assoc P L1] at st
                    obtain ⟨fr', al', st', back⟩ := st.sub [0, 1] (by decide) (by simp)
                    (try simp only [nsl, Value.cells, unB] at st')
                    refine (HI1.out (by have := HSZ.out; omega) (by have := HSZ.out; omega) _ _ _ st').mono ?_
                    clear st'
                    rintro en w ⟨rfl, X, hX, st'⟩
                    replace st := back _ _ (by simp) st'
                    clear back st'
                    (try simp only [nsl, Value.cells, unB] at st)
                    (try clear hc); have hc := st.facts; (try simp only [nfl, nft, Nat.reduceAdd] at hc)
                    have HXA := Lib.hid hX
                    clear hX
                    go_wp2_with fail
                    rw [← List.append_assoc P X] at st
                    obtain ⟨fr', al', st', back⟩ := st.sub [0, 1] (by decide) (by simp)
                    (try simp only [nsl, Value.cells, unB] at st')
                    refine (HI2.out (by have := HSZ.out; omega) (by have := HSZ.out; omega) X (by have := HXA.out.1.len; simpa using this) _ _ _ st').mono ?_
                    clear st'
                    rintro en w ⟨rfl, Y, hY, st'⟩
                    replace st := back _ _ (by simp) st'
                    clear back st'
                    (try simp only [nsl, Value.cells, unB] at st)
                    (try clear hc); have hc := st.facts; (try simp only [nfl, nft, Nat.reduceAdd] at hc)
                    have HYA := Lib.hid hY
                    clear hY
                    go_wp2_with fail
                    all_goals (go_end0; exact ⟨rfl, X ++ Y, ⟨(by have h9 := (sym_sp HCC.out.2).trans (HXA.out.1.app HYA.out.1); simpa only [List.append_assoc] using h9), sym_srt HSL.out HSR.out HCC.out.1 HCC.out.2 HXA.out.1 HXA.out.2 HYA.out.1 HYA.out.2⟩, by simpa using st⟩)
end Go.Proofs.Ythjaopojlhdjpaa

namespace Go.Proofs.Ythjaopojlhdjpaa
set_option linter.unusedSimpArgs false
set_option linter.unusedVariables false
open Go Go.RowKit
/-- Runs of so many, each sorted; the last may be shorter. -/
inductive Chk (s : Nat) : List Fm → Prop
  | last {l : List Fm} (h : l.length ≤ s) (hs : Srt fK l) : Chk s l
  | cons {c l : List Fm} (h : c.length = s) (hs : Srt fK c) (k : Chk s l) : Chk s (c ++ l)
inductive Full (s : Nat) : List Fm → Prop
  | nil : Full s []
  | snoc {l c : List Fm} (k : Full s l) (h : c.length = s) (hs : Srt fK c) : Full s (l ++ c)
theorem Full.chk {s : Nat} {D : List Fm} (h : Full s D) : ∀ {E : List Fm}, Chk s E → Chk s (D ++ E) := by
  induction h with
  | nil => intro E hE; exact hE
  | snoc k h hs ih => intro E hE; rw [List.append_assoc]; exact ih (.cons h hs hE)
theorem Chk.one {s : Nat} {l : List Fm} (h : Chk s l) (hl : l.length ≤ s) : Srt fK l := by
  cases h with
  | last h hs => exact hs
  | @cons c l h hs k =>
    have : l = [] := List.eq_nil_of_length_eq_zero (by simp at hl; omega)
    subst this
    simpa using hs
theorem Chk.cut {s : Nat} {l : List Fm} (h : Chk s l) (hl : s < l.length) : ∃ c E, l = c ++ E ∧ c.length = s ∧ Srt fK c ∧ Chk s E := by
  cases h with
  | last h hs => omega
  | @cons c l h hs k => exact ⟨c, l, rfl, h, hs, k⟩
theorem Chk.two {s : Nat} (h0 : 0 < s) {l : List Fm} (h : Chk s l) (hl : 2 * s ≤ l.length) : ∃ c d E, l = c ++ (d ++ E) ∧ c.length = s ∧ d.length = s ∧ Srt fK c ∧ Srt fK d ∧ Chk s E := by
  obtain ⟨c, E, rfl, h1, h2, h3⟩ := h.cut (by omega)
  simp only [List.length_append] at hl
  by_cases he : E.length = s
  · exact ⟨c, E, [], by simp, h1, he, h2, h3.one (by omega), .last (by simp) List.Pairwise.nil⟩
  · obtain ⟨d, E2, rfl, k1, k2, k3⟩ := h3.cut (by omega)
    exact ⟨c, d, E2, rfl, h1, k1, h2, k2, k3⟩
set_option maxRecDepth 100000 in
set_option maxHeartbeats 8000000 in
theorem stableFm_c {fr al : Nat → Prop} {W : World} {g n c : Nat} (base xs : List Fm) (hn : n ≤ 2000000) (hB : FmsR base) (hx : ∀ x ∈ xs, x ∈ base)
    (st : Own fr al W [rowI 26 5 (.slice (some ⟨g, 0, none⟩) n c) n (cellsL xs), fmsI base] W) :
    Calls Try.prog 169 #[.slice (some ⟨g, 0, none⟩) n c, .int .i64 (n : Int), .func (.func 47) #[] #[]] W fun e w' => e = .returned (.tuple #[]) ∧ ∃ ys, (SP fK xs ys ∧ Srt fK ys) ∧ Own fr al W [rowI 26 5 (.slice (some ⟨g, 0, none⟩) n c) n (cellsL ys), fmsI base] w' := by
  have hlen := st.rowLen (i := 0) get0
  have HN := Lib.hid hlen
  have HINS := Lib.hid (fun P M Q a b ha hb hM fr al W st => insertFm_c (fr := fr) (al := al) (W := W) (g := g) (n := n) (c := c) base P M Q a b ha hb hB hM st hn)
  have HSYM := Lib.hid (fun P L R Q h1 h2 h3 h4 h5 fr al W a m b ha hm hb st => symMerge_c (g := g) (n := n) (c := c) base hn hB (L.length + R.length) P L R Q (Nat.le_refl _) h1 h2 h3 h4 h5 fr al W a m b ha hm hb st)
  have HX := Lib.hid hx
  clear hlen hB hx
  (try simp only [nsl, Value.cells, unB] at st)
  (try clear hc); have hc := st.facts; (try simp only [nfl, nft, Nat.reduceAdd] at hc)
  go_enter Try.func169, Try.ntmps169
  go_wp2_with fail
  go_loopg [7, 8] (n + 1) (fun q av bv wr => ∃ (a : Nat) (D E : List Fm), q = n + 1 - a ∧ a ≤ n ∧ av = .int .i64 (a : Int) ∧ bv = .int .i64 ((a + 20 : Nat) : Int) ∧ Hid (Full 20 D ∧ SP fK xs (D ++ E) ∧ a = D.length) ∧ Own fr al W [rowI 26 5 (.slice (some ⟨g, 0, none⟩) n c) n (cellsL (D ++ E)), fmsI base] wr)
  case atStart => exact ⟨0, [], xs, rfl, by omega, rfl, rfl, Lib.hid ⟨.nil, SP.refl _, rfl⟩, st⟩
  case round =>
    obtain ⟨a, D, E, rfl, han, rfl, rfl, HR, st'⟩ := hrel
    clear st hc
    have st := st'
    clear st'
    have hl := st.rowLen (i := 0) get0
    simp only [List.length_append] at hl
    obtain ⟨h1, h2, h3⟩ := HR.out
    obtain ⟨b, hb⟩ : ∃ q, a + 20 = q := ⟨_, rfl⟩
    rw [hb]
    by_cases hbn : b ≤ n
    · have hbi : (b : Int) ≤ (n : Int) := by omega
      have eE : E = E.take 20 ++ E.drop 20 := (List.take_append_drop _ _).symm
      have lE : (E.take 20).length = 20 := by simp; omega
      generalize E.take 20 = M at *
      generalize E.drop 20 = E2 at *
      subst eE
      have HI := Lib.hid (fun fr al W st => HINS.out D M E2 a b h3 (by omega) (fun x hx => HX.out x (h2.mem.1 (by simp [hx]))) fr al W st)
      have w1 : IntKind.i64.wrap ((b : Int) + 20) = ((b + 20 : Nat) : Int) := IntWalk.i64_in _ ⟨by omega, by omega⟩
      have hD : a = D.length := h3
      have HD := Lib.hid hD
      have HM := Lib.hid lE
      clear hl h1 h2 h3 lE hD
      (try simp only [nsl, Value.cells, unB] at st)
      (try clear hc); have hc := st.facts; (try simp only [nfl, nft, Nat.reduceAdd] at hc)
      go_wp2_with fail
      obtain ⟨fr', al', st', back⟩ := st.sub [0, 1] (by decide) (by simp)
      (try simp only [nsl, Value.cells, unB] at st')
      refine (HI.out _ _ _ st').mono ?_
      clear st'
      rintro en w ⟨rfl, M2, hM2, st'⟩
      replace st := back _ _ (by simp) st'
      clear back st'
      (try simp only [nsl, Value.cells, unB] at st)
      (try clear hc); have hc := st.facts; (try simp only [nfl, nft, Nat.reduceAdd] at hc)
      have HR2 : Hid (Full 20 (D ++ M2) ∧ SP fK xs ((D ++ M2) ++ E2) ∧ b = (D ++ M2).length) := Lib.hid ⟨.snoc HR.out.1 (by rw [hM2.1.len]; exact HM.out) hM2.2, by
        have h2 := HR.out.2.1
        rw [← List.append_assoc] at h2
        exact h2.trans (((SP.refl D).app hM2.1).app (SP.refl E2)), by
        have h5 := hM2.1.len
        have h6 := HD.out
        have h7 := HM.out
        simp; omega⟩
      clear hM2
      go_wp2_with fail
      go_roundg (n + 1 - b)
      case measure => omega
      case rel => exact ⟨b, D ++ M2, E2, rfl, hbn, rfl, by go_num, HR2, by rw [List.append_assoc]; exact st⟩
    · have hbi : ¬ (b : Int) ≤ (n : Int) := by omega
      have HI := Lib.hid (fun fr al W (st : Own fr al W [rowI 26 5 (.slice (some ⟨g, 0, none⟩) n c) n (cellsL (D ++ E)), fmsI base] W) => HINS.out D E [] a n h3 (by omega) (fun x hx => HX.out x (h2.mem.1 (by simp [hx]))) fr al W (by rw [List.append_nil]; exact st))
      have hEl : E.length ≤ 20 := by omega
      have HE := Lib.hid hEl
      clear hl h1 h2 h3 hb hEl
      (try simp only [nsl, Value.cells, unB] at st)
      (try clear hc); have hc := st.facts; (try simp only [nfl, nft, Nat.reduceAdd] at hc)
      go_wp2_with fail
      obtain ⟨fr', al', st', back⟩ := st.sub [0, 1] (by decide) (by simp)
      (try simp only [nsl, Value.cells, unB] at st')
      refine (HI.out _ _ _ st').mono ?_
      clear st'
      rintro en w ⟨rfl, E2, hE2, st'⟩
      replace st := back _ _ (by simp) st'
      clear back st'
      (try simp only [nsl, Value.cells, unB] at st)
      (try clear hc); have hc := st.facts; (try simp only [nfl, nft, Nat.reduceAdd] at hc)
      (try rw [List.append_nil] at st)
      have HR2 : Hid (Chk 20 (D ++ E2) ∧ SP fK xs (D ++ E2)) := Lib.hid ⟨HR.out.1.chk (.last (by rw [hE2.1.len]; exact HE.out) hE2.2), HR.out.2.1.trans ((SP.refl D).app hE2.1)⟩
      clear hE2 HI HE HR
      obtain ⟨zs, hz⟩ : ∃ z, D ++ E2 = z := ⟨_, rfl⟩
      rw [hz] at st HR2
      clear hz
      go_wp2_with fail
      go_loopg [6] (n - 20) (fun q sv wr => ∃ (s : Nat) (zs : List Fm), q = n - s ∧ 20 ≤ s ∧ s ≤ 4000000 ∧ sv = .int .i64 (s : Int) ∧ Hid (Chk s zs ∧ SP fK xs zs) ∧ Own fr al W [rowI 26 5 (.slice (some ⟨g, 0, none⟩) n c) n (cellsL zs), fmsI base] wr)
      case atStart => exact ⟨20, zs, rfl, by omega, by omega, rfl, HR2, st⟩
      case round =>
        obtain ⟨s, ws, rfl, hs20, hs4, rfl, HS, st'⟩ := hrel
        clear st hc HR2
        have st := st'
        clear st'
        by_cases hsn : s < n
        · have hsi : (s : Int) < (n : Int) := by omega
          obtain ⟨s2, hs2⟩ : ∃ q, 2 * s = q := ⟨_, rfl⟩
          have w2 : IntKind.i64.wrap (2 * (s : Int)) = (s2 : Int) := by rw [← hs2, show ((2 * s : Nat) : Int) = 2 * (s : Int) by omega]; exact IntWalk.i64_in _ ⟨by omega, by omega⟩
          have w3 : IntKind.i64.wrap ((s : Int) * 2) = (s2 : Int) := by rw [← hs2, show ((2 * s : Nat) : Int) = (s : Int) * 2 by omega]; exact IntWalk.i64_in _ ⟨by omega, by omega⟩
          have hs2b : s2 ≤ 4000000 ∧ s < s2 := by omega
          have HS2 := Lib.hid hs2
          clear hs2
          (try simp only [nsl, Value.cells, unB] at st)
          (try clear hc); have hc := st.facts; (try simp only [nfl, nft, Nat.reduceAdd] at hc)
          go_wp2_with fail
          go_loopg [7, 8] (n + 1) (fun q av bv wr => ∃ (a : Nat) (D E : List Fm), q = n + 1 - a ∧ a ≤ n ∧ av = .int .i64 (a : Int) ∧ bv = .int .i64 ((a + s2 : Nat) : Int) ∧ Hid (Full s2 D ∧ Chk s E ∧ SP fK xs (D ++ E) ∧ a = D.length) ∧ Own fr al W [rowI 26 5 (.slice (some ⟨g, 0, none⟩) n c) n (cellsL (D ++ E)), fmsI base] wr)
          case atStart => exact ⟨0, [], ws, rfl, by omega, rfl, by simp, Lib.hid ⟨.nil, HS.out.1, HS.out.2, rfl⟩, st⟩
          case round =>
            obtain ⟨a, D, E, rfl, han, rfl, rfl, HR, st'⟩ := hrel
            clear st hc
            have st := st'
            clear st'
            have hl := st.rowLen (i := 0) get0
            simp only [List.length_append] at hl
            obtain ⟨h1, h2, h3, h4⟩ := HR.out
            have hs2 := HS2.out
            obtain ⟨b, hb⟩ : ∃ q, a + s2 = q := ⟨_, rfl⟩
            rw [hb]
            obtain ⟨m, hm⟩ : ∃ q, a + s = q := ⟨_, rfl⟩
            have w4 : IntKind.i64.wrap ((a : Int) + (s : Int)) = (m : Int) := by rw [← hm]; exact IntWalk.i64_in _ ⟨by omega, by omega⟩
            by_cases hbn : b ≤ n
            · have hbi : (b : Int) ≤ (n : Int) := by omega
              obtain ⟨c1, c2, E2, rfl, k1, k2, k3, k4, k5⟩ := h2.two (by omega) (by omega)
              have HI := Lib.hid (fun fr al W st => HSYM.out D c1 c2 E2 (by omega) (by omega) k3 k4 (fun x hx => HX.out x (h3.mem.1 (by
                rcases List.mem_append.1 hx with q | q <;> simp [q]))) fr al W a m b h4 (by omega) (by omega) st)
              have w5 : IntKind.i64.wrap ((b : Int) + (s2 : Int)) = ((b + s2 : Nat) : Int) := IntWalk.i64_in _ ⟨by omega, by omega⟩
              have HK := Lib.hid (And.intro (show c1.length + c2.length = s2 by omega) (And.intro k5 (show a + s2 = b from hb)))
              clear hl h1 h2 h3 h4 k1 k2 k3 k4 k5 hs2 hm
              (try simp only [nsl, Value.cells, unB] at st)
              (try clear hc); have hc := st.facts; (try simp only [nfl, nft, Nat.reduceAdd] at hc)
              go_wp2_with fail
              obtain ⟨fr', al', st', back⟩ := st.sub [0, 1] (by decide) (by simp)
              (try simp only [nsl, Value.cells, unB] at st')
              refine (HI.out _ _ _ st').mono ?_
              clear st'
              rintro en w ⟨rfl, M2, hM2, st'⟩
              replace st := back _ _ (by simp) st'
              clear back st'
              (try simp only [nsl, Value.cells, unB] at st)
              (try clear hc); have hc := st.facts; (try simp only [nfl, nft, Nat.reduceAdd] at hc)
              have HR2 : Hid (Full s2 (D ++ M2) ∧ Chk s E2 ∧ SP fK xs ((D ++ M2) ++ E2) ∧ b = (D ++ M2).length) := Lib.hid ⟨.snoc HR.out.1 (by rw [hM2.1.len]; simpa using HK.out.1) hM2.2, HK.out.2.1, by
                have h2 := HR.out.2.2.1
                have h3 := ((SP.refl D).app hM2.1).app (SP.refl (key := fK) E2)
                refine h2.trans ?_
                simpa only [List.append_assoc] using h3, by
                have h5 := hM2.1.len
                have h6 := HR.out.2.2.2
                have h7 := HK.out
                simp at h5 ⊢; omega⟩
              clear hM2
              go_wp2_with fail
              go_roundg (n + 1 - b)
              case measure => have := HK.out.2.2; omega
              case rel => exact ⟨b, D ++ M2, E2, rfl, hbn, rfl, by go_num, HR2, by rw [List.append_assoc]; exact st⟩
            · have hbi : ¬ (b : Int) ≤ (n : Int) := by omega
              by_cases hmn : m < n
              · have hmi : (m : Int) < (n : Int) := by omega
                obtain ⟨c1, E2, rfl, k1, k2, k3⟩ := h2.cut (by omega)
                simp only [List.length_append] at hl
                have k4 := k3.one (by omega)
                have HI := Lib.hid (fun fr al W (st : Own fr al W [rowI 26 5 (.slice (some ⟨g, 0, none⟩) n c) n (cellsL (D ++ (c1 ++ E2))), fmsI base] W) => HSYM.out D c1 E2 [] (by omega) (by omega) k2 k4 (fun x hx => HX.out x (h3.mem.1 (by
                  rcases List.mem_append.1 hx with q | q <;> simp [q]))) fr al W a m n h4 (by omega) (by omega) (by rw [List.append_nil]; exact st))
                have HK := Lib.hid (show (c1 ++ E2).length ≤ s2 by simp; omega)
                clear hl h1 h2 h3 h4 k1 k2 k3 k4 hs2 hm hb
                (try simp only [nsl, Value.cells, unB] at st)
                (try clear hc); have hc := st.facts; (try simp only [nfl, nft, Nat.reduceAdd] at hc)
                go_wp2_with fail
                obtain ⟨fr', al', st', back⟩ := st.sub [0, 1] (by decide) (by simp)
                (try simp only [nsl, Value.cells, unB] at st')
                refine (HI.out _ _ _ st').mono ?_
                clear st'
                rintro en w ⟨rfl, M2, hM2, st'⟩
                replace st := back _ _ (by simp) st'
                clear back st'
                (try simp only [nsl, Value.cells, unB] at st)
                (try clear hc); have hc := st.facts; (try simp only [nfl, nft, Nat.reduceAdd] at hc)
                (try rw [List.append_nil] at st)
                have HF : Hid (Chk s2 (D ++ M2) ∧ SP fK xs (D ++ M2)) := Lib.hid ⟨HR.out.1.chk (.last (by rw [hM2.1.len]; exact HK.out) hM2.2), HR.out.2.2.1.trans ((SP.refl D).app hM2.1)⟩
                clear hM2
                go_wp2_with fail
                go_roundg (n - s2)
                case measure => omega
                case rel => exact ⟨s2, D ++ M2, rfl, by omega, by omega, rfl, HF, st⟩
              · have hmi : ¬ (m : Int) < (n : Int) := by omega
                have HF : Hid (Chk s2 (D ++ E) ∧ SP fK xs (D ++ E)) := Lib.hid ⟨h1.chk (.last (by omega) (h2.one (by omega))), h3⟩
                clear hl h1 h2 h3 h4 hs2 hm hb
                (try simp only [nsl, Value.cells, unB] at st)
                (try clear hc); have hc := st.facts; (try simp only [nfl, nft, Nat.reduceAdd] at hc)
                go_wp2_with fail
                go_roundg (n - s2)
                case measure => omega
                case rel => exact ⟨s2, D ++ E, rfl, by omega, by omega, rfl, HF, st⟩
        · have hsi : ¬ (s : Int) < (n : Int) := by omega
          have hl := st.rowLen (i := 0) get0
          have HF : Hid (SP fK xs ws ∧ Srt fK ws) := Lib.hid ⟨HS.out.2, HS.out.1.one (by omega)⟩
          clear hl
          (try simp only [nsl, Value.cells, unB] at st)
          (try clear hc); have hc := st.facts; (try simp only [nfl, nft, Nat.reduceAdd] at hc)
          go_wp2_with fail
          go_end0
          exact ⟨rfl, ws, HF.out, st⟩
set_option maxRecDepth 100000 in
set_option maxHeartbeats 1000000 in
theorem insertNil_any (a : Option Addr) (c : Nat) (F : Value) (W : World) :
    Calls Try.prog 178 #[.slice a 0 c, .int .i64 0, .int .i64 0, F] W fun e w' => e = .returned (.tuple #[]) ∧ Ext W w' := by
  have st := Own.startOld W
  (try simp only [nsl, Value.cells, unB] at st)
  (try clear hc); have hc := st.facts; (try simp only [nfl, nft, Nat.reduceAdd] at hc)
  go_enter Try.func178, Try.ntmps178
  go_wp2_with fail
  go_loopg [8] 0 (fun q iv wr => q = 0 ∧ iv = .int .i64 1 ∧ Own (fun _ => False) (fun _ => True) W [oldI W] wr)
  case atStart => exact ⟨rfl, by go_num, st⟩
  case round =>
    obtain ⟨rfl, rfl, st'⟩ := hrel
    clear st hc
    have st := st'
    clear st'
    go_wp2_with fail
    go_end0
    exact ⟨rfl, st.ext0⟩
set_option maxRecDepth 100000 in
set_option maxHeartbeats 1000000 in
theorem stableNil_any (a : Option Addr) (c : Nat) (F : Value) (W : World) :
    Calls Try.prog 169 #[.slice a 0 c, .int .i64 0, F] W fun e w' => e = .returned (.tuple #[]) ∧ Ext W w' := by
  have st := Own.startOld W
  (try simp only [nsl, Value.cells, unB] at st)
  (try clear hc); have hc := st.facts; (try simp only [nfl, nft, Nat.reduceAdd] at hc)
  go_enter Try.func169, Try.ntmps169
  go_wp2_with fail
  go_loopg [7, 8] 0 (fun q av bv wr => q = 0 ∧ av = .int .i64 0 ∧ bv = .int .i64 20 ∧ Own (fun _ => False) (fun _ => True) W [oldI W] wr)
  case atStart => exact ⟨rfl, rfl, rfl, st⟩
  case round =>
    obtain ⟨rfl, rfl, rfl, st'⟩ := hrel
    clear st hc
    have st := st'
    clear st'
    go_wp2_with fail
    refine (insertNil_any a c F _).mono ?_
    rintro en w ⟨rfl, hx⟩
    replace st := st.ext hx
    clear hx
    (try clear hc); have hc := st.facts; (try simp only [nfl, nft, Nat.reduceAdd] at hc)
    go_wp2_with fail
    go_loopg [6] 0 (fun q sv wr => q = 0 ∧ sv = .int .i64 20 ∧ Own (fun _ => False) (fun _ => True) W [oldI W] wr)
    case atStart => exact ⟨rfl, rfl, st⟩
    case round =>
      obtain ⟨rfl, rfl, st'⟩ := hrel
      clear st hc
      have st := st'
      clear st'
      go_wp2_with fail
      go_end0
      exact ⟨rfl, st.ext0⟩
set_option maxRecDepth 100000 in
set_option maxHeartbeats 1000000 in
theorem sortStable_c {fr al : Nat → Prop} {W : World} {a : Option Addr} {n c : Nat} (base xs : List Fm) (hn : n ≤ 2000000) (hB : FmsR base) (hx : ∀ x ∈ xs, x ∈ base)
    (st : Own fr al W [rowI 26 5 (.slice a n c) n (cellsL xs), fmsI base] W) :
    Calls Try.prog 149 #[.slice a n c, .func (.func 47) #[] #[]] W fun e w' => e = .returned (.tuple #[]) ∧ ∃ ys, (SP fK xs ys ∧ Srt fK ys) ∧ Own fr al W [rowI 26 5 (.slice a n c) n (cellsL ys), fmsI base] w' := by
  rcases Nat.eq_zero_or_pos n with h0 | h0
  · subst h0
    have hxl := st.rowLen (i := 0) get0
    obtain rfl : xs = [] := List.eq_nil_of_length_eq_zero hxl.symm
    clear hxl
    (try simp only [nsl, Value.cells, unB] at st)
    (try clear hc); have hc := st.facts; (try simp only [nfl, nft, Nat.reduceAdd] at hc)
    go_enter Try.func149, Try.ntmps149
    go_wp2_with fail
    refine (stableNil_any a c _ _).mono ?_
    rintro en w ⟨rfl, hx⟩
    replace st := st.ext hx
    clear hx
    (try clear hc); have hc := st.facts; (try simp only [nfl, nft, Nat.reduceAdd] at hc)
    go_wp2_with fail
    go_end0
    exact ⟨rfl, [], ⟨SP.refl _, List.Pairwise.nil⟩, st⟩
  · obtain ⟨g, cap', hv, hcap, _⟩ := st.rowAt (i := 0) get0 h0
    injection hv with hv1 hv2 hv3
    subst hv1 hv3
    have HC := Lib.hid (fun fr al W st => stableFm_c (fr := fr) (al := al) (W := W) (g := g) (n := n) (c := c) base xs hn hB hx st)
    clear hB hx h0 hcap
    (try simp only [nsl, Value.cells, unB] at st)
    (try clear hc); have hc := st.facts; (try simp only [nfl, nft, Nat.reduceAdd] at hc)
    go_enter Try.func149, Try.ntmps149
    go_wp2_with fail
    obtain ⟨fr', al', st', back⟩ := st.sub [0, 1] (by decide) (by simp)
    (try simp only [nsl, Value.cells, unB] at st')
    refine (HC.out _ _ _ st').mono ?_
    clear st'
    rintro en w ⟨rfl, ys, hy, st'⟩
    replace st := back _ _ (by simp) st'
    clear back st'
    (try simp only [nsl, Value.cells, unB] at st)
    (try clear hc); have hc := st.facts; (try simp only [nfl, nft, Nat.reduceAdd] at hc)
    have HY := Lib.hid hy
    clear hy
    go_wp2_with fail
    go_end0
    exact ⟨rfl, ys, HY.out, st⟩
end Go.Proofs.Ythjaopojlhdjpaa
