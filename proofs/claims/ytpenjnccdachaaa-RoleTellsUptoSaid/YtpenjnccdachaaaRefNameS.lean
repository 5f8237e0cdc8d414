/- The reference's sets of names. -/
import Derived.Test.YtpenjnccdachaaaRefName
import Derived.Test.YtpenjnccdachaaaNameL
import Derived.Sort.Walk0
namespace Go.Proofs.Ytpenjnccdachaaa
set_option linter.unusedSimpArgs false
set_option linter.unusedVariables false
open Go Go.RowKit
def strLt (x y : List UInt8) : Bool := Op.bytesLess x y
theorem strLt_eq (x y : List UInt8) : strLt x y = decide (x < y) := bytesLess_eq x y
theorem strOrd (P : List UInt8 → Bool) : SOrd strLt P where
  irr x := by rw [strLt_eq]; simp [List.lt_irrefl]
  tr x y z h1 h2 := by simp only [strLt_eq, decide_eq_true_eq] at *; exact List.lt_trans h1 h2
  tri x y _ _ := by
    simp only [strLt_eq, decide_eq_true_eq]
    rcases Decidable.em (x < y) with h | h
    · exact .inl h
    · rcases Decidable.em (y < x) with h' | h'
      · exact .inr (.inr h')
      · exact .inr (.inl (List.le_antisymm (List.not_lt.1 h') (List.not_lt.1 h)))
theorem strLt_asymm {x y : List UInt8} (h : strLt x y = true) : Op.bytesLess y x = false ∧ (y == x) = false := by
  constructor
  · cases hq : Op.bytesLess y x with
    | false => rfl
    | true => have := (strOrd (fun _ => true)).tr _ _ _ h hq; rw [(strOrd (fun _ => true)).irr] at this; cases this
  · cases hq : (y == x) with
    | false => rfl
    | true => have e : y = x := by simpa using hq
              rw [e, (strOrd (fun _ => true)).irr] at h; cases h
theorem strLt_not {x y : List UInt8} (h : strLt x y = false) : Op.bytesLess y x = true ∨ y = x := by
  rcases (strOrd (fun _ => true)).tri x y rfl rfl with q | q | q
  · rw [q] at h; cases h
  · exact .inr q.symm
  · exact .inl q
theorem strInfo : ∃ i, Try.prog.info? 9 = some i ∧ i.zero = some (S []) ∧ i.size = 1 ∧ i.bytes = 16 := info_parts (by kernel_rfl)
theorem str_get (l : List (List UInt8)) (j : Nat) : (cellsL l)[j]? = (l[j]?).map S := by
  induction l generalizing j with
  | nil => simp [cellsL]
  | cons x l ih => cases j with
    | zero => simp [cellsL, Flt.cells]
    | succ j => have := ih j; rw [cellsL_cons]; simpa [Flt.cells] using this
theorem str_snoc (l : List (List UInt8)) (x : List UInt8) : (cellsL (l ++ [x]))[l.length]? = some (S x) := by rw [str_get]; simp
theorem nameR_nil : nameR [] = false := rfl
set_option maxRecDepth 100000 in
set_option maxHeartbeats 1000000 in
theorem refSet_any (a : Option Addr) (n c : Nat) (l : List (List UInt8)) (W : World) (h : Fl W a n l) (hn : n ≤ 2000000) (hs : ∀ x ∈ l, x.length ≤ 1000000000) :
    Calls Try.prog 33 #[.slice a n c] W fun e w' => ∃ out va vc, e = .returned (.slice va out.length vc) ∧ SSet strLt nameR l out ∧ FreshI W w' (rowI 9 1 (.slice va out.length vc) out.length (cellsL out)) := by
  have H := Lib.hid h
  have HNL := Lib.hid (And.intro h.1 hs)
  clear h hs
  have st := (Own.startOld W).row_nil 9 1
  (try simp only [Value.cells, List.cons_append, List.nil_append, List.set, spl, putIt, pick, List.map_cons, List.map_nil, List.getElem?_cons_zero, List.getElem?_cons_succ, Option.getD_some, List.drop_succ_cons, List.drop_zero, List.drop_nil, List.append_nil, unB] at st)
  (try clear hc); have hc := st.facts; (try simp only [factsOf, blkI, blkFacts, rowI, byI, datI, nullI, oldI, penI, rdI, rdAnyI, rdOverI, Nat.zero_add, Nat.reduceAdd, and_true, true_and, and_self] at hc)
  go_enter Try.func33, Try.ntmps33
  go_wp2_with fail
  go_loopg [3] (left strLt nameR l []) (fun k v wr => ∃ (out : List (List UInt8)) (m : Nat) (va : Option Addr) (vc : Nat), v = .slice va m vc ∧ m ≤ 2000000 ∧ Hid (GInv strLt nameR l out ∧ left strLt nameR l out ≤ k ∧ m = out.length) ∧ Own (fun _ => False) (fun _ => True) W [oldI W, rowI 9 1 (.slice va m vc) m (cellsL out)] wr)
  case atStart => exact ⟨[], 0, none, 0, rfl, by omega, Lib.hid ⟨GInv.nil _, Nat.le_refl _, rfl⟩, st⟩
  case round =>
    obtain ⟨out, m, va, vc, rfl, hm2, HG, st'⟩ := hrel
    clear st hc
    have st := st'
    clear st'
    (try simp only [Value.cells, List.cons_append, List.nil_append, List.set, spl, putIt, pick, List.map_cons, List.map_nil, List.getElem?_cons_zero, List.getElem?_cons_succ, Option.getD_some, List.drop_succ_cons, List.drop_zero, List.drop_nil, List.append_nil, unB] at st)
    (try clear hc); have hc := st.facts; (try simp only [factsOf, blkI, blkFacts, rowI, byI, datI, nullI, oldI, penI, rdI, rdAnyI, rdOverI, Nat.zero_add, Nat.reduceAdd, and_true, true_and, and_self] at hc)
    go_wp2_with fail
    go_loopg [4, 9] n (fun k v i wr => ∃ (j : Nat), j ≤ n ∧ k = n - j ∧ i = .int .i64 (j : Int) ∧ v = S ((pickMin strLt (cnd strLt nameR out) (l.take j)).getD []) ∧ Own (fun _ => False) (fun _ => True) W [oldI W, rowI 9 1 (.slice va m vc) m (cellsL out)] wr)
    case atStart => exact ⟨0, by omega, by omega, rfl, by simp [pickMin, S], st⟩
    case round =>
      obtain ⟨j, hj, rfl, rfl, rfl, st'⟩ := hrel
      clear st hc
      have st := st'
      clear st'
      (try simp only [Value.cells, List.cons_append, List.nil_append, List.set, spl, putIt, pick, List.map_cons, List.map_nil, List.getElem?_cons_zero, List.getElem?_cons_succ, Option.getD_some, List.drop_succ_cons, List.drop_zero, List.drop_nil, List.append_nil, unB] at st)
      (try clear hc); have hc := st.facts; (try simp only [factsOf, blkI, blkFacts, rowI, byI, datI, nullI, oldI, penI, rdI, rdAnyI, rdOverI, Nat.zero_add, Nat.reduceAdd, and_true, true_and, and_self] at hc)
      by_cases hjn : j < n
      · obtain ⟨b, off, ha, hcell⟩ := H.out.str (by omega)
        have hjl : j < l.length := by have := HNL.out.1; omega
        have r0 := st.oldCell (i := 0) get0 (hcell j l[j] (List.getElem?_eq_getElem hjl))
        have hts := pickMin_take (lt := strLt) (cnd strLt nameR out) l j hjl
        have hxl := HNL.out.2 l[j] (List.getElem_mem hjl)
        clear hcell
        generalize l[j] = x at *
        have HX := Lib.hid hts
        clear hts
        subst ha
        unfold S at r0 ⊢
        go_wp2_with fail
        refine (refRight_any x _ hxl).mono ?_
        rintro en w ⟨rfl, hx⟩
        replace st := st.ext hx
        clear hx
        (try simp only [Value.cells, List.cons_append, List.nil_append, List.set, spl, putIt, pick, List.map_cons, List.map_nil, List.getElem?_cons_zero, List.getElem?_cons_succ, Option.getD_some, List.drop_succ_cons, List.drop_zero, List.drop_nil, List.append_nil, unB] at st)
        (try clear hc); have hc := st.facts; (try simp only [factsOf, blkI, blkFacts, rowI, byI, datI, nullI, oldI, penI, rdI, rdAnyI, rdOverI, Nat.zero_add, Nat.reduceAdd, and_true, true_and, and_self] at hc)
        by_cases hr : nameR x = true
        · have HR := Lib.hid hr
          rw [hr]
          clear hr
          rcases List.eq_nil_or_concat out with ho | ⟨pre, z, ho⟩
          · subst ho
            have hm0 : m = 0 := HG.out.2.2
            subst hm0
            cases hp : pickMin strLt (cnd strLt nameR []) (l.take j) with
            | none =>
              have HP := Lib.hid hp
              simp only [Option.getD_none]
              clear hp
              have HB : Hid (pickMin strLt (cnd strLt nameR []) (l.take (j + 1)) = some x) := Lib.hid (by rw [HX.out]; simp [cnd, HR.out, HP.out])
              go_wp2_with fail
              go_roundg (n - (j + 1))
              case measure => omega
              case rel => exact ⟨j + 1, by omega, rfl, by go_num, by rw [HB.out]; rfl, st⟩
            | some y =>
              have hy : y ≠ [] := fun e => by
                have := ((pickMin_spec (strOrd nameR).tr (strOrd nameR).irr _ _).2 y hp).2.1
                rw [e] at this; simp [cnd, nameR_nil] at this
              have hb1 : (y == ([] : List UInt8)) = false := by simpa using hy
              have HP := Lib.hid hp
              simp only [Option.getD_some]
              clear hp hy
              cases hxy : strLt x y with
              | true =>
                have hb2 : Op.bytesLess x y = true := hxy
                have HL := Lib.hid hxy
                clear hxy
                have HB : Hid (pickMin strLt (cnd strLt nameR []) (l.take (j + 1)) = some x) := Lib.hid (by rw [HX.out]; simp [cnd, HR.out, HP.out, HL.out])
                go_wp2_with fail
                go_roundg (n - (j + 1))
                case measure => omega
                case rel => exact ⟨j + 1, by omega, rfl, by go_num, by rw [HB.out]; rfl, st⟩
              | false =>
                have hb2 : Op.bytesLess x y = false := hxy
                have HL := Lib.hid hxy
                clear hxy
                have HB : Hid (pickMin strLt (cnd strLt nameR []) (l.take (j + 1)) = pickMin strLt (cnd strLt nameR []) (l.take j)) := Lib.hid (by rw [HX.out]; simp [cnd, HR.out, HP.out, HL.out])
                go_wp2_with fail
                go_roundg (n - (j + 1))
                case measure => omega
                case rel => exact ⟨j + 1, by omega, rfl, by go_num, by rw [HB.out, HP.out]; rfl, st⟩
          · rw [List.concat_eq_append] at ho
            subst ho
            have hm0 : m = pre.length + 1 := by have := HG.out.2.2; simpa using this
            subst hm0
            have hb0 : ((pre.length : Int) + 1 == 0) = false := by simp; omega
            have hpb : pre.length ≤ 2000000 := by omega
            obtain ⟨g, cap, hv, hcap, hrow⟩ := st.rowAt (i := 1) get1 (by omega)
            injection hv with hv1 hv2 hv3
            subst hv1 hv3
            have r1 := hrow pre.length (S z) (str_snoc pre z)
            clear hrow
            unfold S at r1
            have hz0 : Hid ((pre ++ [z]).getLast? = some z) := Lib.hid (by simp)
            cases hzx : strLt z x with
            | true =>
              have HZ := Lib.hid hzx
              obtain ⟨hb3, hb4⟩ := strLt_asymm hzx
              clear hzx
              cases hp : pickMin strLt (cnd strLt nameR (pre ++ [z])) (l.take j) with
              | none =>
                have HP := Lib.hid hp
                simp only [Option.getD_none]
                clear hp
                have HB : Hid (pickMin strLt (cnd strLt nameR (pre ++ [z])) (l.take (j + 1)) = some x) := Lib.hid (by rw [HX.out]; simp [cnd, HR.out, HP.out, HZ.out])
                go_wp2_with fail
                go_roundg (n - (j + 1))
                case measure => omega
                case rel => exact ⟨j + 1, by omega, rfl, by go_num, by rw [HB.out]; rfl, st⟩
              | some y =>
                have hy : y ≠ [] := fun e => by
                  have := ((pickMin_spec (strOrd nameR).tr (strOrd nameR).irr _ _).2 y hp).2.1
                  rw [e] at this; simp [cnd, nameR_nil] at this
                have hb1 : (y == ([] : List UInt8)) = false := by simpa using hy
                have HP := Lib.hid hp
                simp only [Option.getD_some]
                clear hp hy
                cases hxy : strLt x y with
                | true =>
                  have hb2 : Op.bytesLess x y = true := hxy
                  have HL := Lib.hid hxy
                  clear hxy
                  have HB : Hid (pickMin strLt (cnd strLt nameR (pre ++ [z])) (l.take (j + 1)) = some x) := Lib.hid (by rw [HX.out]; simp [cnd, HR.out, HP.out, HL.out, HZ.out])
                  go_wp2_with fail
                  go_roundg (n - (j + 1))
                  case measure => omega
                  case rel => exact ⟨j + 1, by omega, rfl, by go_num, by rw [HB.out]; rfl, st⟩
                | false =>
                  have hb2 : Op.bytesLess x y = false := hxy
                  have HL := Lib.hid hxy
                  clear hxy
                  have HB : Hid (pickMin strLt (cnd strLt nameR (pre ++ [z])) (l.take (j + 1)) = pickMin strLt (cnd strLt nameR (pre ++ [z])) (l.take j)) := Lib.hid (by rw [HX.out]; simp [cnd, HR.out, HP.out, HL.out, HZ.out])
                  go_wp2_with fail
                  go_roundg (n - (j + 1))
                  case measure => omega
                  case rel => exact ⟨j + 1, by omega, rfl, by go_num, by rw [HB.out, HP.out]; rfl, st⟩
            | false =>
              have HZ := Lib.hid hzx
              rcases strLt_not hzx with hb3 | hb3
              · clear hzx
                have HB : Hid (pickMin strLt (cnd strLt nameR (pre ++ [z])) (l.take (j + 1)) = pickMin strLt (cnd strLt nameR (pre ++ [z])) (l.take j)) := Lib.hid (by rw [HX.out]; simp [cnd, HZ.out])
                go_wp2_with fail
                go_roundg (n - (j + 1))
                case measure => omega
                case rel => exact ⟨j + 1, by omega, rfl, by go_num, by rw [HB.out]; rfl, st⟩
              · subst hb3
                have hb4 : (x == x) = true := by simp
                clear hzx
                have HB : Hid (pickMin strLt (cnd strLt nameR (pre ++ [x])) (l.take (j + 1)) = pickMin strLt (cnd strLt nameR (pre ++ [x])) (l.take j)) := Lib.hid (by rw [HX.out]; simp [cnd, HZ.out])
                go_wp2_with fail
                go_roundg (n - (j + 1))
                case measure => omega
                case rel => exact ⟨j + 1, by omega, rfl, by go_num, by rw [HB.out]; rfl, st⟩
        · have hr' : nameR x = false := by simpa using hr
          rw [hr']
          have HR := Lib.hid hr'
          clear hr hr'
          have HB : Hid (pickMin strLt (cnd strLt nameR out) (l.take (j + 1)) = pickMin strLt (cnd strLt nameR out) (l.take j)) := Lib.hid (by rw [HX.out]; simp [cnd, HR.out])
          go_wp2_with fail
          go_roundg (n - (j + 1))
          case measure => omega
          case rel => exact ⟨j + 1, by omega, rfl, by go_num, by rw [HB.out]; rfl, st⟩
      · obtain rfl : j = n := by omega
        have htk : l.take j = l := List.take_of_length_le (by have := HNL.out.1; omega)
        rw [htk]
        clear htk
        cases hp : pickMin strLt (cnd strLt nameR out) l with
        | none =>
          have HF := Lib.hid (HG.out.1.done (strOrd nameR) hp)
          simp only [Option.getD_none]
          unfold S
          clear hp
          go_wp2_with fail
          go_ret
          have hm := HG.out.2.2
          subst hm
          exact ⟨out, va, vc, rfl, HF.out, st.toFresh get1⟩
        | some y =>
          have hy : y ≠ [] := fun e => by
            have := ((pickMin_spec (strOrd nameR).tr (strOrd nameR).irr _ _).2 y hp).2.1
            rw [e] at this; simp [cnd, nameR_nil] at this
          have hb1 : (y == ([] : List UInt8)) = false := by simpa using hy
          have hstep := HG.out.1.step (strOrd nameR) hp
          have hlen := hstep.len (strOrd nameR).irr
          have hleft := left_step (strOrd nameR) hp
          have HF := Lib.hid (And.intro hstep hleft)
          have hol : m + 1 ≤ 2000000 := by have := HNL.out.1; have := HG.out.2.2; simp at hlen; omega
          simp only [Option.getD_some]
          unfold S
          clear hp hy hstep hlen hleft
          go_wp2_with (first
              | ((with_reducible refine wl_append ?_ (fun K hK => ?_)); (rfl); (obtain ⟨inf, hinf, hz0, hz1, hz2⟩ := strInfo); (refine owp_append rfl st 1 get1 Try.underlying64 hinf hz0 hz1 hz2 rfl (by decide) rfl rfl ((st.blk (i := 2) get2).flat rfl) (by first | exact cellsL_all _ | simp [Value.oneCell']) (by simp only [maxLen]; omega) (by omega) ?_); (clear hinf hz0 hz1 hz2 inf); (clear st; intro v' w st); (obtain ⟨va', vc', rfl⟩ := own_slice (st.row (i := 1) get1)); (try simp only [Value.cells, List.cons_append, List.nil_append, List.set, spl, putIt, pick, List.map_cons, List.map_nil, List.getElem?_cons_zero, List.getElem?_cons_succ, Option.getD_some, List.drop_succ_cons, List.drop_zero, List.drop_nil, List.append_nil, unB] at st); (try simp only [Nat.zero_add] at st); (try clear hc); have hc := st.facts; (try simp only [factsOf, blkI, blkFacts, rowI, byI, datI, nullI, oldI, penI, rdI, rdAnyI, rdOverI, Nat.zero_add, Nat.reduceAdd, and_true, true_and, and_self] at hc))
              | ((with_reducible refine wl_buildSlice ?_ (fun K hK => ?_)); (rfl); ((refine owp_buildSlice (o := ⟨some 46, _, _, _, _, _⟩) rfl st ?_; apply Exists.intro; apply Exists.intro; apply Exists.intro; apply Exists.intro; refine ⟨?_, ?_⟩; (focus (go_simp; (first | done | exact ⟨⟨rfl, rfl⟩, rfl⟩ | rfl))); (clear st; intro b46 w hb st; clear hb)); (try simp only [Value.cells, List.cons_append, List.nil_append, List.set, spl, putIt, pick, List.map_cons, List.map_nil, List.getElem?_cons_zero, List.getElem?_cons_succ, Option.getD_some, List.drop_succ_cons, List.drop_zero, List.drop_nil, List.append_nil, unB] at st); (try clear hc); have hc := st.facts; (try simp only [factsOf, blkI, blkFacts, rowI, byI, datI, nullI, oldI, penI, rdI, rdAnyI, rdOverI, Nat.zero_add, Nat.reduceAdd, and_true, true_and, and_self] at hc))))
          have st' := st.keep [0, 1] (by decide) (by simp)
          go_roundg (left strLt nameR l (out ++ [y]))
          case measure => have := HG.out.2.1; have := HF.out.2; omega
          case rel => exact ⟨out ++ [y], m + 1, va', vc', rfl, hol, Lib.hid ⟨HF.out.1, Nat.le_refl _, by simp [HG.out.2.2]⟩, by rw [cellsL_append, cellsL_one', str_cells]; simpa [pick] using st'⟩
end Go.Proofs.Ytpenjnccdachaaa
