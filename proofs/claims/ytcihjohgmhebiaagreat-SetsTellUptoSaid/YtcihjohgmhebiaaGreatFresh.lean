/- Sets: picked. -/
import Derived.Test.YtcihjohgmhebiaaGreatStA
import Derived.Laws.MakeOwn
import Derived.Test.YtcihjohgmhebiaaGreatFmB
import Derived.Test.YtcihjohgmhebiaaGreatSortT
import Derived.Lib.BytesEntry
import Derived.Laws.Externs
namespace Go.Proofs.YtcihjohgmhebiaaGreat
set_option linter.unusedSimpArgs false
set_option linter.unusedVariables false
open Go Go.RowKit
theorem Own.rowFl4 {α : Type} [Flt α] {fr al : Nat → Prop} {w0 w : World} {L : List It} (st : Own fr al w0 L w) {i n c : Nat} {a : Option Addr} {E : TypeId} {xs : List α} (hi : L[i]? = some (rowI E (Flt.k α) (.slice a n c) n (cellsL xs))) : (n ≤ c ∧ c ≤ maxLen) ∧ Fl w a n xs := by
  obtain ⟨a', c', hv, h2, h3⟩ := st.rowFl hi
  injection hv with q1 q2 q3
  subst q1 q3
  exact ⟨h2, h3⟩
/-- Of the first j: those whose bit is there. -/
def pkN (l : List Role) (b j : Nat) : List Role := (List.range j).filterMap fun i => if b.testBit i then l[i]? else none
def pk (l : List Role) (b : Nat) : List Role := pkN l b l.length
theorem pkN_succ (l : List Role) (b j : Nat) (h : j < l.length) : pkN l b (j + 1) = pkN l b j ++ (if b.testBit j then [l[j]] else []) := by
  unfold pkN
  rw [List.range_succ, List.filterMap_append]
  cases q : b.testBit j <;> simp [q, h]
theorem pkN_len (l : List Role) (b : Nat) : ∀ j, (pkN l b j).length ≤ j
  | 0 => by simp [pkN]
  | j + 1 => by
    have := pkN_len l b j
    unfold pkN at *
    rw [List.range_succ, List.filterMap_append, List.length_append]
    have : ([j].filterMap fun i => if b.testBit i then l[i]? else none).length ≤ 1 := Nat.le_trans (List.length_filterMap_le _ _) (by simp)
    omega
theorem bit_one : ∀ (a : Fin 65) (b : Fin 64), (bits .and .i64 ((a.val * 64 + b.val : Nat) : Int) 1 == 1) = decide ((a.val * 64 + b.val) % 2 = 1) := by decide +kernel
theorem bit_at (b j : Nat) (hb : b ≤ 4096) : (bits .and .i64 ((b : Int) / 2 ^ j) 1 == 1) = b.testBit j := by
  have h1 : b / 2 ^ j ≤ 4096 := Nat.le_trans (Nat.div_le_self _ _) hb
  have h2 := bit_one ⟨b / 2 ^ j / 64, by omega⟩ ⟨b / 2 ^ j % 64, by omega⟩
  simp only at h2
  rw [show b / 2 ^ j / 64 * 64 + b / 2 ^ j % 64 = b / 2 ^ j by omega] at h2
  rw [show ((b : Int) / 2 ^ j) = ((b / 2 ^ j : Nat) : Int) by simp, h2, Nat.testBit_eq_decide_div_mod_eq]
set_option maxRecDepth 100000 in
set_option maxHeartbeats 2000000 in
theorem picked_any (a : Option Addr) (n c : Nat) (l : List Role) (b : Nat) (W : World) (h : Fl W a n l) (hn : n ≤ 12) (hb : b ≤ 4096) :
    Calls Tryz.prog 25 #[.slice a n c, .int .i64 (b : Int)] W fun e w' => ∃ va vc, e = .returned (.slice va (pk l b).length vc) ∧ ((pk l b).length ≤ vc ∧ vc ≤ maxLen) ∧ Fl w' va (pk l b).length (pk l b) ∧ Ext W w' := by
  have H := Lib.hid h
  have HN := Lib.hid h.1
  have HPL := Lib.hid (fun j => pkN_len l b j)
  obtain ⟨m, hm⟩ : ∃ m, (pk l b).length = m := ⟨_, rfl⟩
  have HM := Lib.hid hm
  rw [hm]
  clear h hm
  have st := Own.startOld W
  (try simp only [nsl, Value.cells, unB] at st)
  (try clear hc); have hc := st.facts; (try simp only [nfl, nft, Nat.reduceAdd] at hc)
  go_enter Tryz.func25, Tryz.ntmps25
  go_wp2_with ((first
        | ((with_reducible refine wl_alloc ?_ (fun K hK => ?_)); rfl; refine owp_alloc (o := ⟨some 7, _, _, _, _, _⟩) rfl st ?_; apply Exists.intro; apply Exists.intro; refine ⟨?_, ?_⟩; (focus (first | (go_simp; done) | (go_simp; rfl))); (clear st; intro b7 w hb st; clear hb))
        | ((with_reducible refine wl_store ?_ (fun K hK => ?_)); rfl; refine owp_store rfl st ?_; apply Exists.intro; apply Exists.intro; refine ⟨?_, ?_, ?_⟩; (focus (go_simp; try rfl)); (focus (go_simp; try rfl)); (first | (with_reducible refine ⟨0, _, _, _, _, get0, rfl, rfl, ?_, ?_, ?_, ?_⟩) | (with_reducible refine ⟨1, _, _, _, _, get1, rfl, rfl, ?_, ?_, ?_, ?_⟩) | (with_reducible refine ⟨2, _, _, _, _, get2, rfl, rfl, ?_, ?_, ?_, ?_⟩) | (with_reducible refine ⟨3, _, _, _, _, get3, rfl, rfl, ?_, ?_, ?_, ?_⟩) | (with_reducible refine ⟨4, _, _, _, _, get4, rfl, rfl, ?_, ?_, ?_, ?_⟩)); (kernel_rfl); (simp [Value.cells]); (rfl); (clear st; intro w st))
        | ((with_reducible refine wl_buildSlice ?_ (fun K hK => ?_)); rfl; refine owp_buildSlice (o := ⟨some 22, _, _, _, _, _⟩) rfl st ?_; apply Exists.intro; apply Exists.intro; apply Exists.intro; apply Exists.intro; refine ⟨?_, ?_⟩; (focus (go_simp; (first | done | exact ⟨⟨rfl, rfl⟩, rfl⟩ | rfl))); (clear st; intro b22 w hb st; clear hb))); (try simp only [nsl, Value.cells, unB] at st); (try clear hc); have hc := st.facts; (try simp only [nfl, nft, Nat.reduceAdd] at hc))
  replace st := st.row_nil 23 2
  simp only [List.cons_append, List.nil_append] at st
  go_loopg [5, 10] n (fun q ov i wr => ∃ (j r : Nat) (xs : List Role), j ≤ n ∧ q = n - j ∧ i = .int .i64 (j : Int) ∧ r ≤ 12 ∧ Hid (xs = pkN l b j) ∧ Hid (r = xs.length) ∧ Own (fun _ => False) (fun _ => True) W [oldI W, rowI 23 2 ov r (cellsL xs)] wr)
  case atStart => exact ⟨0, 0, [], by omega, by omega, rfl, by omega, Lib.hid (by simp [pkN]), Lib.hid rfl, by simpa [cellsL] using st⟩
  case round =>
    obtain ⟨j, r, xs, hj, rfl, rfl, hr, HX, HR, st'⟩ := hrel
    clear st hc
    have st := st'
    clear st'
    obtain ⟨oa, oc, rfl⟩ := own_slice (st.row (i := 1) get1)
    by_cases hjn : j < n
    · obtain ⟨bb, off, ha, hcell⟩ := (st.oldFl (i := 0) get0 H.out).role (by omega)
      have hjl : j < l.length := by have := HN.out; omega
      have hgt := List.getElem?_eq_getElem hjl
      have hsn := pkN_succ l b j hjl
      rw [← HX.out] at hsn
      have hpl := HPL.out (j + 1)
      rw [hsn, List.length_append, ← HR.out] at hpl
      generalize l[j] = x at *
      obtain ⟨o, d⟩ := x
      obtain ⟨r0, r1⟩ := hcell j (o, d) hgt
      have HSN := Lib.hid hsn
      have HPL2 := Lib.hid hpl
      clear hcell hgt hjl hsn hpl
      subst ha
      unfold S at r0 r1
      simp only at r0 r1
      have hbit := bit_at b j hb
      cases hq : b.testBit j with
      | true =>
        rw [hq] at hbit
        have HX2 : Hid (xs ++ [(o, d)] = pkN l b (j + 1)) := Lib.hid (by rw [HSN.out, hq]; rfl)
        have HR2 : Hid (r + 1 = (xs ++ [(o, d)]).length) := Lib.hid (by rw [List.length_append, ← HR.out]; rfl)
        have hr2 : r + 1 ≤ 12 := by have := HPL2.out; rw [hq] at this; simp at this; omega
        clear hq HSN HPL2
        (try simp only [nsl, Value.cells, unB] at st)
        (try clear hc); have hc := st.facts; (try simp only [nfl, nft, Nat.reduceAdd] at hc)
        go_wp2_with (first
            | ((with_reducible refine wl_append ?_ (fun K hK => ?_)); (rfl); (obtain ⟨inf, hinf, hz0, hz1, hz2⟩ := roleInfo); (refine owp_append rfl st 1 get1 Tryz.underlying27 hinf hz0 hz1 hz2 rfl (by decide) rfl rfl ((st.blk (i := 3) get3).flat rfl) (by first | exact cellsL_all _ | simp [Value.oneCell']) (by simp only [maxLen]; omega) (by omega) ?_); (clear hinf hz0 hz1 hz2 inf); (clear st; intro v' w st); (obtain ⟨va', vc', rfl⟩ := own_slice (st.row (i := 1) get1)); (try simp only [nsl, Value.cells, unB] at st); (try simp only [Nat.zero_add] at st); (try clear hc); have hc := st.facts; (try simp only [nfl, nft, Nat.reduceAdd] at hc))
            | ((with_reducible refine wl_buildSlice ?_ (fun K hK => ?_)); (rfl); (refine owp_buildRow (o := ⟨some 9999, _, _, _, _, _⟩) rfl st 23 2 ?_; refine ⟨0, #[], ?_, by simp, by simp [maxLen], ?_⟩; (focus (go_simp; (first | done | rfl))); (clear st; intro b9999 w hb st; clear hb)); (try simp only [nsl, Value.cells, unB] at st); (try clear hc); have hc := st.facts; (try simp only [nfl, nft, Nat.reduceAdd] at hc))
            | ((first
              | ((with_reducible refine wl_alloc ?_ (fun K hK => ?_)); rfl; refine owp_alloc (o := ⟨some 7, _, _, _, _, _⟩) rfl st ?_; apply Exists.intro; apply Exists.intro; refine ⟨?_, ?_⟩; (focus (first | (go_simp; done) | (go_simp; rfl))); (clear st; intro b7 w hb st; clear hb))
              | ((with_reducible refine wl_store ?_ (fun K hK => ?_)); rfl; refine owp_store rfl st ?_; apply Exists.intro; apply Exists.intro; refine ⟨?_, ?_, ?_⟩; (focus (go_simp; try rfl)); (focus (go_simp; try rfl)); (first | (with_reducible refine ⟨0, _, _, _, _, get0, rfl, rfl, ?_, ?_, ?_, ?_⟩) | (with_reducible refine ⟨1, _, _, _, _, get1, rfl, rfl, ?_, ?_, ?_, ?_⟩) | (with_reducible refine ⟨2, _, _, _, _, get2, rfl, rfl, ?_, ?_, ?_, ?_⟩) | (with_reducible refine ⟨3, _, _, _, _, get3, rfl, rfl, ?_, ?_, ?_, ?_⟩) | (with_reducible refine ⟨4, _, _, _, _, get4, rfl, rfl, ?_, ?_, ?_, ?_⟩)); (kernel_rfl); (simp [Value.cells]); (rfl); (clear st; intro w st))
              | ((with_reducible refine wl_buildSlice ?_ (fun K hK => ?_)); rfl; refine owp_buildSlice (o := ⟨some 22, _, _, _, _, _⟩) rfl st ?_; apply Exists.intro; apply Exists.intro; apply Exists.intro; apply Exists.intro; refine ⟨?_, ?_⟩; (focus (go_simp; (first | done | exact ⟨⟨rfl, rfl⟩, rfl⟩ | rfl))); (clear st; intro b22 w hb st; clear hb))); (try simp only [nsl, Value.cells, unB] at st); (try clear hc); have hc := st.facts; (try simp only [nfl, nft, Nat.reduceAdd] at hc)))
        have st' := st.keep [0, 1] (by decide) (by simp)
        go_roundg (n - (j + 1))
        case measure => omega
        case rel => exact ⟨j + 1, r + 1, xs ++ [(o, d)], by omega, by omega, by go_num, hr2, HX2, HR2, by rw [cellsL_append, show cellsL [((o, d) : Role)] = [.string ⟨o.toArray⟩, .string ⟨d.toArray⟩] from rfl]; simpa [pick] using st'⟩
      | false =>
        rw [hq] at hbit
        have HX2 : Hid (xs = pkN l b (j + 1)) := Lib.hid (by rw [HSN.out, hq]; simp)
        clear hq HSN HPL2
        (try simp only [nsl, Value.cells, unB] at st)
        (try clear hc); have hc := st.facts; (try simp only [nfl, nft, Nat.reduceAdd] at hc)
        go_wp2_with ((first
              | ((with_reducible refine wl_alloc ?_ (fun K hK => ?_)); rfl; refine owp_alloc (o := ⟨some 7, _, _, _, _, _⟩) rfl st ?_; apply Exists.intro; apply Exists.intro; refine ⟨?_, ?_⟩; (focus (first | (go_simp; done) | (go_simp; rfl))); (clear st; intro b7 w hb st; clear hb))
              | ((with_reducible refine wl_store ?_ (fun K hK => ?_)); rfl; refine owp_store rfl st ?_; apply Exists.intro; apply Exists.intro; refine ⟨?_, ?_, ?_⟩; (focus (go_simp; try rfl)); (focus (go_simp; try rfl)); (first | (with_reducible refine ⟨0, _, _, _, _, get0, rfl, rfl, ?_, ?_, ?_, ?_⟩) | (with_reducible refine ⟨1, _, _, _, _, get1, rfl, rfl, ?_, ?_, ?_, ?_⟩) | (with_reducible refine ⟨2, _, _, _, _, get2, rfl, rfl, ?_, ?_, ?_, ?_⟩) | (with_reducible refine ⟨3, _, _, _, _, get3, rfl, rfl, ?_, ?_, ?_, ?_⟩) | (with_reducible refine ⟨4, _, _, _, _, get4, rfl, rfl, ?_, ?_, ?_, ?_⟩)); (kernel_rfl); (simp [Value.cells]); (rfl); (clear st; intro w st))
              | ((with_reducible refine wl_buildSlice ?_ (fun K hK => ?_)); rfl; refine owp_buildSlice (o := ⟨some 22, _, _, _, _, _⟩) rfl st ?_; apply Exists.intro; apply Exists.intro; apply Exists.intro; apply Exists.intro; refine ⟨?_, ?_⟩; (focus (go_simp; (first | done | exact ⟨⟨rfl, rfl⟩, rfl⟩ | rfl))); (clear st; intro b22 w hb st; clear hb))); (try simp only [nsl, Value.cells, unB] at st); (try clear hc); have hc := st.facts; (try simp only [nfl, nft, Nat.reduceAdd] at hc))
        have st' := st.keep [0, 1] (by decide) (by simp)
        go_roundg (n - (j + 1))
        case measure => omega
        case rel => exact ⟨j + 1, r, xs, by omega, by omega, by go_num, hr, HX2, HR, by simpa [pick] using st'⟩
    · obtain rfl : j = n := by omega
      have HE : Hid (xs = pk l b) := Lib.hid (by rw [HX.out, HN.out]; rfl)
      have HRM : Hid (r = m) := Lib.hid (by rw [HR.out, HE.out]; exact HM.out)
      (try simp only [nsl, Value.cells, unB] at st)
      (try clear hc); have hc := st.facts; (try simp only [nfl, nft, Nat.reduceAdd] at hc)
      go_wp2_with fail
      go_ret
      obtain ⟨q1, q2⟩ := st.rowFl4 (α := Role) (i := 1) get1
      rw [HRM.out, HE.out] at q2
      rw [HRM.out] at q1
      exact ⟨oa, oc, by rw [HRM.out] <;> rfl, q1, q2, st.ext0⟩
end Go.Proofs.YtcihjohgmhebiaaGreat

namespace Go.Proofs.YtcihjohgmhebiaaGreat
set_option linter.unusedSimpArgs false
set_option linter.unusedVariables false
open Go Go.RowKit
/-- A slice of roles, laid anew, with its capacity. -/
def PickAre (W : World) (l : List Role) (e : Ending) (w' : World) : Prop := ∃ va n vc, e = .returned (.slice va n vc) ∧ (n ≤ vc ∧ vc ≤ maxLen) ∧ Own (fun _ => False) (fun _ => False) W [flI va n l] w'
theorem pickRes {W w : World} {va : Option Addr} {n vc : Nat} {l : List Role} (hc : n ≤ vc ∧ vc ≤ maxLen) (st : Own (fun _ => False) (fun _ => False) W [flI va n l] w) : PickAre W l (.returned (.slice va n vc)) w := ⟨va, n, vc, rfl, hc, st⟩
/-- A set as it lies in memory. -/
structure RsT where
  a : Option Addr
  n : Nat
  c : Nat
  xs : List Role
deriving Inhabited
instance fltRs : Flt RsT := ⟨1, fun x => [.slice x.a x.n x.c], fun _ => rfl, by decide, fun x u hu => by simp at hu; subst hu; rfl⟩
def RsIn (s : Nat → Prop) (w : World) (x : RsT) : Prop := (x.n ≤ x.c ∧ x.c ≤ maxLen) ∧ Fl w x.a x.n x.xs ∧ (0 < x.n → ∀ ad, x.a = some ad → s ad.block)
theorem RsIn.agree {s : Nat → Prop} {w w' : World} {x : RsT} (h : RsIn s w x) (hag : ∀ b, s b → w'.heap[b]? = w.heap[b]?) : RsIn s w' x := ⟨h.1, h.2.1.agree fun h0 ad e => hag _ (h.2.2 h0 ad e), h.2.2⟩
theorem RsIn.to {s s' : Nat → Prop} {w : World} {x : RsT} (h : RsIn s w x) (hs : ∀ b, s b → s' b) : RsIn s' w x := ⟨h.1, h.2.1, fun h0 ad e => hs _ (h.2.2 h0 ad e)⟩
def rssI (l : List RsT) : It where
  P _ s w := ∀ x ∈ l, RsIn s w x
  st := fun h hag x hx => (h x hx).agree fun b hb => hag b (.inr hb)
  facts _ := True
  ok := fun _ => trivial
section
variable {fr al : Nat → Prop} {w0 w : World} {L : List It}
theorem Own.rss (st : Own fr al w0 L w) {i : Nat} {l : List RsT} (hi : L[i]? = some (rssI l)) : ∀ x ∈ l, (x.n ≤ x.c ∧ x.c ≤ maxLen) ∧ Fl w x.a x.n x.xs := let ⟨_, _, h, _⟩ := st.get hi; fun x hx => ⟨(h x hx).1, (h x hx).2.1⟩
theorem Own.noRss (st : Own fr al w0 L w) : Own fr al w0 (L ++ [rssI []]) w := st.bare (fun x hx => by simp at hx)
theorem Own.rssMore (st : Own fr al w0 L w) {i j n c : Nat} {a : Option Addr} {xs : List Role} {l : List RsT} (hi : L[i]? = some (rssI l)) (hj : L[j]? = some (flI a n xs)) (hc : n ≤ c ∧ c ≤ maxLen) : Own fr al w0 (L ++ [rssI (l ++ [⟨a, n, c, xs⟩])]) w :=
  st.share2 hi hj fun e s e2 s2 h1 h2 x hx => by
    rcases List.mem_append.1 hx with q | q
    · exact (h1 x q).to (fun _ => .inl)
    · rw [List.mem_singleton.1 q]; exact ⟨hc, h2.1, fun h0 ad e => .inr (h2.2 h0 ad e)⟩
end
set_option maxRecDepth 100000 in
set_option maxHeartbeats 2000000 in
theorem picked_f (a : Option Addr) (n c : Nat) (l : List Role) (b : Nat) (W : World) (h : Fl W a n l) (hn : n ≤ 12) (hb : b ≤ 4096) :
    Calls Tryz.prog 25 #[.slice a n c, .int .i64 (b : Int)] W fun e w' => PickAre W (pk l b) e w' := by
  have H := Lib.hid h
  have HN := Lib.hid h.1
  have HPL := Lib.hid (fun j => pkN_len l b j)
  obtain ⟨ps, hps⟩ : ∃ y, pk l b = y := ⟨_, rfl⟩
  have HPS := Lib.hid hps
  rw [hps]
  clear h hps
  have st := Own.start (fun _ => False) (fun _ => False) W
  (try simp only [nsl, Value.cells, unB] at st)
  (try clear hc); have hc := st.facts; (try simp only [nfl, nft, Nat.reduceAdd] at hc)
  go_enter Tryz.func25, Tryz.ntmps25
  go_wp2_with ((first
        | ((with_reducible refine wl_alloc ?_ (fun K hK => ?_)); rfl; refine owp_alloc (o := ⟨some 7, _, _, _, _, _⟩) rfl st ?_; apply Exists.intro; apply Exists.intro; refine ⟨?_, ?_⟩; (focus (first | (go_simp; done) | (go_simp; rfl))); (clear st; intro b7 w hb st; clear hb))
        | ((with_reducible refine wl_store ?_ (fun K hK => ?_)); rfl; refine owp_store rfl st ?_; apply Exists.intro; apply Exists.intro; refine ⟨?_, ?_, ?_⟩; (focus (go_simp; try rfl)); (focus (go_simp; try rfl)); (first | (with_reducible refine ⟨0, _, _, _, _, get0, rfl, rfl, ?_, ?_, ?_, ?_⟩) | (with_reducible refine ⟨1, _, _, _, _, get1, rfl, rfl, ?_, ?_, ?_, ?_⟩) | (with_reducible refine ⟨2, _, _, _, _, get2, rfl, rfl, ?_, ?_, ?_, ?_⟩) | (with_reducible refine ⟨3, _, _, _, _, get3, rfl, rfl, ?_, ?_, ?_, ?_⟩) | (with_reducible refine ⟨4, _, _, _, _, get4, rfl, rfl, ?_, ?_, ?_, ?_⟩)); (kernel_rfl); (simp [Value.cells]); (rfl); (clear st; intro w st))
        | ((with_reducible refine wl_buildSlice ?_ (fun K hK => ?_)); rfl; refine owp_buildSlice (o := ⟨some 22, _, _, _, _, _⟩) rfl st ?_; apply Exists.intro; apply Exists.intro; apply Exists.intro; apply Exists.intro; refine ⟨?_, ?_⟩; (focus (go_simp; (first | done | exact ⟨⟨rfl, rfl⟩, rfl⟩ | rfl))); (clear st; intro b22 w hb st; clear hb))); (try simp only [nsl, Value.cells, unB] at st); (try clear hc); have hc := st.facts; (try simp only [nfl, nft, Nat.reduceAdd] at hc))
  replace st := st.row_nil 23 2
  simp only [List.cons_append, List.nil_append] at st
  go_loopg [5, 10] n (fun q ov i wr => ∃ (j r : Nat) (xs : List Role), j ≤ n ∧ q = n - j ∧ i = .int .i64 (j : Int) ∧ r ≤ 12 ∧ Hid (xs = pkN l b j) ∧ Hid (r = xs.length) ∧ Own (fun _ => False) (fun _ => False) W [rowI 23 2 ov r (cellsL xs)] wr)
  case atStart => exact ⟨0, 0, [], by omega, by omega, rfl, by omega, Lib.hid (by simp [pkN]), Lib.hid rfl, by simpa [cellsL] using st⟩
  case round =>
    obtain ⟨j, r, xs, hj, rfl, rfl, hr, HX, HR, st'⟩ := hrel
    clear st hc
    have st := st'
    clear st'
    obtain ⟨oa, oc, rfl⟩ := own_slice (st.row (i := 0) get0)
    by_cases hjn : j < n
    · obtain ⟨bb, off, ha, hcell⟩ := Fl.role (show Fl wr a n l from Arr.ext H.out st.ext0) (by omega)
      have hjl : j < l.length := by have := HN.out; omega
      have hgt := List.getElem?_eq_getElem hjl
      have hsn := pkN_succ l b j hjl
      rw [← HX.out] at hsn
      have hpl := HPL.out (j + 1)
      rw [hsn, List.length_append, ← HR.out] at hpl
      generalize l[j] = x at *
      obtain ⟨o, d⟩ := x
      obtain ⟨r0, r1⟩ := hcell j (o, d) hgt
      have HSN := Lib.hid hsn
      have HPL2 := Lib.hid hpl
      clear hcell hgt hjl hsn hpl
      subst ha
      unfold S at r0 r1
      simp only at r0 r1
      have hbit := bit_at b j hb
      cases hq : b.testBit j with
      | true =>
        rw [hq] at hbit
        have HX2 : Hid (xs ++ [(o, d)] = pkN l b (j + 1)) := Lib.hid (by rw [HSN.out, hq]; rfl)
        have HR2 : Hid (r + 1 = (xs ++ [(o, d)]).length) := Lib.hid (by rw [List.length_append, ← HR.out]; rfl)
        have hr2 : r + 1 ≤ 12 := by have := HPL2.out; rw [hq] at this; simp at this; omega
        clear hq HSN HPL2
        (try simp only [nsl, Value.cells, unB] at st)
        (try clear hc); have hc := st.facts; (try simp only [nfl, nft, Nat.reduceAdd] at hc)
        go_wp2_with (first
            | ((with_reducible refine wl_append ?_ (fun K hK => ?_)); (rfl); (obtain ⟨inf, hinf, hz0, hz1, hz2⟩ := roleInfo); (refine owp_append rfl st 0 get0 Tryz.underlying27 hinf hz0 hz1 hz2 rfl (by decide) rfl rfl ((st.blk (i := 2) get2).flat rfl) (by first | exact cellsL_all _ | simp [Value.oneCell']) (by simp only [maxLen]; omega) (by omega) ?_); (clear hinf hz0 hz1 hz2 inf); (clear st; intro v' w st); (obtain ⟨va', vc', rfl⟩ := own_slice (st.row (i := 0) get0)); (try simp only [nsl, Value.cells, unB] at st); (try simp only [Nat.zero_add] at st); (try clear hc); have hc := st.facts; (try simp only [nfl, nft, Nat.reduceAdd] at hc))
            | ((with_reducible refine wl_buildSlice ?_ (fun K hK => ?_)); (rfl); (refine owp_buildRow (o := ⟨some 9999, _, _, _, _, _⟩) rfl st 23 2 ?_; refine ⟨0, #[], ?_, by simp, by simp [maxLen], ?_⟩; (focus (go_simp; (first | done | rfl))); (clear st; intro b9999 w hb st; clear hb)); (try simp only [nsl, Value.cells, unB] at st); (try clear hc); have hc := st.facts; (try simp only [nfl, nft, Nat.reduceAdd] at hc))
            | ((first
              | ((with_reducible refine wl_alloc ?_ (fun K hK => ?_)); rfl; refine owp_alloc (o := ⟨some 7, _, _, _, _, _⟩) rfl st ?_; apply Exists.intro; apply Exists.intro; refine ⟨?_, ?_⟩; (focus (first | (go_simp; done) | (go_simp; rfl))); (clear st; intro b7 w hb st; clear hb))
              | ((with_reducible refine wl_store ?_ (fun K hK => ?_)); rfl; refine owp_store rfl st ?_; apply Exists.intro; apply Exists.intro; refine ⟨?_, ?_, ?_⟩; (focus (go_simp; try rfl)); (focus (go_simp; try rfl)); (first | (with_reducible refine ⟨0, _, _, _, _, get0, rfl, rfl, ?_, ?_, ?_, ?_⟩) | (with_reducible refine ⟨1, _, _, _, _, get1, rfl, rfl, ?_, ?_, ?_, ?_⟩) | (with_reducible refine ⟨2, _, _, _, _, get2, rfl, rfl, ?_, ?_, ?_, ?_⟩) | (with_reducible refine ⟨3, _, _, _, _, get3, rfl, rfl, ?_, ?_, ?_, ?_⟩) | (with_reducible refine ⟨4, _, _, _, _, get4, rfl, rfl, ?_, ?_, ?_, ?_⟩)); (kernel_rfl); (simp [Value.cells]); (rfl); (clear st; intro w st))
              | ((with_reducible refine wl_buildSlice ?_ (fun K hK => ?_)); rfl; refine owp_buildSlice (o := ⟨some 22, _, _, _, _, _⟩) rfl st ?_; apply Exists.intro; apply Exists.intro; apply Exists.intro; apply Exists.intro; refine ⟨?_, ?_⟩; (focus (go_simp; (first | done | exact ⟨⟨rfl, rfl⟩, rfl⟩ | rfl))); (clear st; intro b22 w hb st; clear hb))); (try simp only [nsl, Value.cells, unB] at st); (try clear hc); have hc := st.facts; (try simp only [nfl, nft, Nat.reduceAdd] at hc)))
        have st' := st.keep [0] (by decide) (by simp)
        go_roundg (n - (j + 1))
        case measure => omega
        case rel => exact ⟨j + 1, r + 1, xs ++ [(o, d)], by omega, by omega, by go_num, hr2, HX2, HR2, by rw [cellsL_append, show cellsL [((o, d) : Role)] = [.string ⟨o.toArray⟩, .string ⟨d.toArray⟩] from rfl]; simpa [pick] using st'⟩
      | false =>
        rw [hq] at hbit
        have HX2 : Hid (xs = pkN l b (j + 1)) := Lib.hid (by rw [HSN.out, hq]; simp)
        clear hq HSN HPL2
        (try simp only [nsl, Value.cells, unB] at st)
        (try clear hc); have hc := st.facts; (try simp only [nfl, nft, Nat.reduceAdd] at hc)
        go_wp2_with ((first
              | ((with_reducible refine wl_alloc ?_ (fun K hK => ?_)); rfl; refine owp_alloc (o := ⟨some 7, _, _, _, _, _⟩) rfl st ?_; apply Exists.intro; apply Exists.intro; refine ⟨?_, ?_⟩; (focus (first | (go_simp; done) | (go_simp; rfl))); (clear st; intro b7 w hb st; clear hb))
              | ((with_reducible refine wl_store ?_ (fun K hK => ?_)); rfl; refine owp_store rfl st ?_; apply Exists.intro; apply Exists.intro; refine ⟨?_, ?_, ?_⟩; (focus (go_simp; try rfl)); (focus (go_simp; try rfl)); (first | (with_reducible refine ⟨0, _, _, _, _, get0, rfl, rfl, ?_, ?_, ?_, ?_⟩) | (with_reducible refine ⟨1, _, _, _, _, get1, rfl, rfl, ?_, ?_, ?_, ?_⟩) | (with_reducible refine ⟨2, _, _, _, _, get2, rfl, rfl, ?_, ?_, ?_, ?_⟩) | (with_reducible refine ⟨3, _, _, _, _, get3, rfl, rfl, ?_, ?_, ?_, ?_⟩) | (with_reducible refine ⟨4, _, _, _, _, get4, rfl, rfl, ?_, ?_, ?_, ?_⟩)); (kernel_rfl); (simp [Value.cells]); (rfl); (clear st; intro w st))
              | ((with_reducible refine wl_buildSlice ?_ (fun K hK => ?_)); rfl; refine owp_buildSlice (o := ⟨some 22, _, _, _, _, _⟩) rfl st ?_; apply Exists.intro; apply Exists.intro; apply Exists.intro; apply Exists.intro; refine ⟨?_, ?_⟩; (focus (go_simp; (first | done | exact ⟨⟨rfl, rfl⟩, rfl⟩ | rfl))); (clear st; intro b22 w hb st; clear hb))); (try simp only [nsl, Value.cells, unB] at st); (try clear hc); have hc := st.facts; (try simp only [nfl, nft, Nat.reduceAdd] at hc))
        have st' := st.keep [0] (by decide) (by simp)
        go_roundg (n - (j + 1))
        case measure => omega
        case rel => exact ⟨j + 1, r, xs, by omega, by omega, by go_num, hr, HX2, HR, by simpa [pick] using st'⟩
    · obtain rfl : j = n := by omega
      have HE : Hid (xs = ps) := Lib.hid (by rw [← HPS.out, HX.out, HN.out]; rfl)
      (try simp only [nsl, Value.cells, unB] at st)
      (try clear hc); have hc := st.facts; (try simp only [nfl, nft, Nat.reduceAdd] at hc)
      go_wp2_with fail
      go_ret
      obtain ⟨q1, _⟩ := st.rowFl4 (α := Role) (i := 0) get0
      have st' := st.rowToFl (α := Role) (i := 0) get0
      rw [HE.out] at st'
      exact pickRes q1 st'
end Go.Proofs.YtcihjohgmhebiaaGreat

namespace Go.Proofs.YtcihjohgmhebiaaGreat
set_option linter.unusedSimpArgs false
set_option linter.unusedVariables false
open Go Go.RowKit
section
variable {fr al : Nat → Prop} {w0 w : World} {L : List It} {P : Program} {a : Act} {K : Act → World → Prop} {Q : Exit → Act → World → Prop}
theorem wl_makeSliceS {ops : Array Oper} {rest : List Oper} {d : Option Tmp} {T : TypeId} {x y : Operand} {ty : TypeId} {pos : String} {af : Array Edge} {gd : Option (Nat × Bool)} (hg : Region.wanted ⟨d, .makeSlice T x y, ty, pos, af, gd⟩ (yielded ops a.tmps) = true)
    (h : ∀ K : Act → World → Prop, (∀ a w, wpList P ops Q rest a w → K a w) → Oper.wp P ⟨d, .makeSlice T x y, ty, pos, af, gd⟩ a w K Q) : wpList P ops Q (⟨d, .makeSlice T x y, ty, pos, af, gd⟩ :: rest) a w := wpl_at hg h
theorem owp_makeSliceS {o : Oper} {T : TypeId} {x y : Operand} (ho : o.op = .makeSlice T x y) (st : Own fr al w0 L w) (m : Nat) {cs : Array Value} {T' : TypeId} (hx : a.eval x = .int .i64 (m : Int)) (hy : a.eval y = .int .i64 (m : Int))
    (hr : ∀ w, (Instr.makeSlice T (.int .i64 (m : Int)) (.int .i64 (m : Int))).run P w = .ok (.slice (some ⟨w.heap.size, 0, none⟩) m m) (w.alloc (.cells cs T')))
    (h : ∀ b w', w.heap.size ≤ b → Own fr al w0 (L ++ [blkI b cs.toList]) w' → K (a.put o.dst (.slice (some ⟨b, 0, none⟩) m m)) w') : o.wp P a w K Q :=
  owp_run (v := .slice (some ⟨w.heap.size, 0, none⟩) m m) (w' := w.alloc (.cells cs T')) (by simp [execOp, ho, hx, hy, hr w, Result.andThen]) (h _ _ (Nat.le_refl _) (by have := st.alloc cs.toList T' rfl; simpa using this))
end
theorem made_listS (z : Value) (m : Nat) : (madeCells #[z] m).toList = List.replicate m z := by
  apply List.ext_getElem?
  intro i
  unfold madeCells
  rw [Array.toList_map, List.getElem?_map]
  by_cases h : i < m
  · rw [List.getElem?_replicate, if_pos h]
    simp [h, Nat.mod_one]
  · rw [List.getElem?_replicate, if_neg h]
    simp [h]
theorem made_boolS (m : Nat) (hm : m ≤ 4096) : ∀ w, (Instr.makeSlice 60 (.int .i64 (m : Int)) (.int .i64 (m : Int))).run Tryz.prog w = .ok (.slice (some ⟨w.heap.size, 0, none⟩) m m) (w.alloc (.cells (madeCells #[.bool false] m) 4)) := fun w => by
  obtain ⟨i, hi, hz, h1, h2⟩ : ∃ i, Tryz.prog.info? 4 = some i ∧ i.zero = some (.bool false) ∧ i.size = 1 ∧ i.bytes = 1 := info_parts (by kernel_rfl)
  have := run_makeSlice (P := Tryz.prog) (w := w) 60 4 i (.bool false) Tryz.underlying60 hi hz .i64 .i64 m m (by omega) (Int.le_refl _) (by rw [h1]; omega) (by rw [h2]; omega) (by omega)
  simp only [Int.toNat_natCast, h1, Nat.mul_one] at this
  exact this
/-- The masks that suffice and do not with one bit less. -/
def lsB (g : Nat → Bool) (n b : Nat) : Bool := (List.range n).any fun i => b.testBit i && g (b - 2 ^ i)
def lmN (g : Nat → Bool) (n j : Nat) : List Nat := (List.range j).filter fun b => g b && !lsB g n b
def tabB (g : Nat → Bool) (N j : Nat) : List Value := (List.range N).map fun i => .bool (decide (i < j) && g i)
theorem tabB_0 (g : Nat → Bool) (N : Nat) : tabB g N 0 = List.replicate N (.bool false) := by
  unfold tabB
  apply List.ext_getElem?
  intro i
  rw [List.getElem?_map, List.getElem?_replicate]
  by_cases h : i < N <;> simp [h]
theorem tabB_set (g : Nat → Bool) (N j : Nat) (h : j < N) : (tabB g N j).set j (.bool (g j)) = tabB g N (j + 1) := by
  unfold tabB
  apply List.ext_getElem?
  intro i
  rw [List.getElem?_set, List.getElem?_map, List.getElem?_map]
  by_cases e : j = i
  · subst e; simp [h]
  · rw [if_neg e]
    by_cases q : i < N
    · simp only [List.getElem?_range q, Option.map_some]
      congr 2
      exact congrArg (· && g i) (decide_eq_decide.2 (by omega))
    · simp [q]
theorem tabB_at (g : Nat → Bool) (N j i : Nat) (h : i < j) (hN : i < N) : (tabB g N j)[i]? = some (.bool (g i)) := by
  unfold tabB
  rw [List.getElem?_map, List.getElem?_range hN]
  simp [h]
theorem tabB_len (g : Nat → Bool) (N j : Nat) : (tabB g N j).length = N := by unfold tabB; simp
theorem lmN_succ (g : Nat → Bool) (n j : Nat) : lmN g n (j + 1) = lmN g n j ++ (if (g j && !lsB g n j) = true then [j] else []) := by
  unfold lmN
  rw [List.range_succ, List.filter_append]
  congr 1
  cases q : (g j && !lsB g n j) <;> simp [q]
theorem lmN_len (g : Nat → Bool) (n j : Nat) : (lmN g n j).length ≤ j := by
  unfold lmN
  exact Nat.le_trans (List.length_filter_le _ _) (by simp)
theorem lsB_succ (g : Nat → Bool) (n b : Nat) : lsB g (n + 1) b = (lsB g n b || (b.testBit n && g (b - 2 ^ n))) := by
  unfold lsB
  rw [List.range_succ, List.any_append]
  simp
set_option maxRecDepth 100000 in
theorem clr_bit : ∀ (a : Fin 65) (b : Fin 64) (i : Fin 12), (a.val * 64 + b.val).testBit i.val = true → bits .andNot .i64 ((a.val * 64 + b.val : Nat) : Int) ((2 ^ i.val : Nat) : Int) = ((a.val * 64 + b.val - 2 ^ i.val : Nat) : Int) := by decide +kernel
theorem clr_at (b i : Nat) (hb : b ≤ 4096) (hi : i < 12) (h : b.testBit i = true) : bits .andNot .i64 (b : Int) ((2 ^ i : Nat) : Int) = ((b - 2 ^ i : Nat) : Int) := by
  have h2 := clr_bit ⟨b / 64, by omega⟩ ⟨b % 64, by omega⟩ ⟨i, hi⟩
  simp only at h2
  rw [show b / 64 * 64 + b % 64 = b by omega] at h2
  exact h2 h
/-- A mask among the cells. -/
structure MkT where
  v : Nat
deriving Inhabited
instance fltMk : Flt MkT := ⟨1, fun x => [.int .i64 (x.v : Int)], fun _ => rfl, by decide, fun x u hu => by simp at hu; subst hu; rfl⟩
theorem mk_cells : ∀ xs : List Nat, (xs.map fun x : Nat => Value.int .i64 (x : Int)) = cellsL (xs.map MkT.mk)
  | [] => rfl
  | x :: l => by rw [List.map_cons, List.map_cons, cellsL_cons, ← mk_cells l]; rfl
theorem intInfoS : ∃ i, Tryz.prog.info? 3 = some i ∧ i.zero = some (.int .i64 0) ∧ i.size = 1 ∧ i.bytes = 8 := info_parts (by kernel_rfl)
end Go.Proofs.YtcihjohgmhebiaaGreat

namespace Go.Proofs.YtcihjohgmhebiaaGreat
set_option linter.unusedSimpArgs false
set_option linter.unusedVariables false
open Go Go.RowKit
def cmpI (a b : Int) : Int := if a < b then -1 else if b < a then 1 else 0
def cmpRs : List Role → List Role → Int
  | [], [] => 0
  | [], _ :: _ => -1
  | _ :: _, [] => 1
  | x :: l, y :: m => if roleCmp x y = 0 then cmpRs l m else roleCmp x y
theorem cmpRs_at (xs ys : List Role) (j : Nat) (h : j < xs.length) (h2 : j < ys.length) : cmpRs (xs.drop j) (ys.drop j) = if roleCmp xs[j] ys[j] = 0 then cmpRs (xs.drop (j + 1)) (ys.drop (j + 1)) else roleCmp xs[j] ys[j] := by
  rw [List.drop_eq_getElem_cons h, List.drop_eq_getElem_cons h2, cmpRs]
theorem cmpRs_r (xs ys : List Role) (j : Nat) (h : j < xs.length) (h2 : ys.length ≤ j) : cmpRs (xs.drop j) (ys.drop j) = 1 := by
  rw [List.drop_eq_getElem_cons h, List.drop_of_length_le h2, cmpRs]
theorem cmpRs_l (xs ys : List Role) (j : Nat) (h : xs.length ≤ j) (h2 : j < ys.length) : cmpRs (xs.drop j) (ys.drop j) = -1 := by
  rw [List.drop_eq_getElem_cons h2, List.drop_of_length_le h, cmpRs]
theorem cmpRs_e (xs ys : List Role) (j : Nat) (h : xs.length ≤ j) (h2 : ys.length ≤ j) : cmpRs (xs.drop j) (ys.drop j) = 0 := by
  rw [List.drop_of_length_le h2, List.drop_of_length_le h, cmpRs]
set_option maxRecDepth 100000 in
set_option maxHeartbeats 1000000 in
theorem isNaN_any (a : Int) (W : World) : Calls Tryz.prog 76 #[.int .i64 a] W fun e w' => e = .returned (.bool false) ∧ Ext W w' := by
  have st := Own.startOld W
  (try simp only [nsl, Value.cells, unB] at st)
  (try clear hc); have hc := st.facts; (try simp only [nfl, nft, elI, elF, Nat.reduceAdd] at hc)
  go_enter Tryz.func76, Tryz.ntmps76
  go_wp2_with fail
  go_ret
  exact ⟨by simp, st.ext0⟩
set_option maxRecDepth 100000 in
set_option maxHeartbeats 1000000 in
theorem cmpInt_any (a b : Int) (W : World) : Calls Tryz.prog 48 #[.int .i64 a, .int .i64 b] W fun e w' => e = .returned (.int .i64 (cmpI a b)) ∧ Ext W w' := by
  have st := Own.startOld W
  obtain ⟨v, hv⟩ : ∃ v, cmpI a b = v := ⟨_, rfl⟩
  rw [hv]
  unfold cmpI at hv
  have HV := Lib.hid hv
  clear hv
  by_cases h1 : a < b
  · have H : Hid (v = -1) := Lib.hid (by rw [← HV.out, if_pos h1])
    (try simp only [nsl, Value.cells, unB] at st)
    (try clear hc); have hc := st.facts; (try simp only [nfl, nft, elI, elF, Nat.reduceAdd] at hc)
    go_enter Tryz.func48, Tryz.ntmps48
    go_wp2_with fail
    refine (isNaN_any a _).mono ?_
    rintro en w ⟨rfl, hx⟩
    replace st := st.ext hx
    clear hx
    (try clear hc); have hc := st.facts; (try simp only [nfl, nft, elI, elF, Nat.reduceAdd] at hc)
    go_wp2_with fail
    refine (isNaN_any b _).mono ?_
    rintro en w ⟨rfl, hx⟩
    replace st := st.ext hx
    clear hx
    (try clear hc); have hc := st.facts; (try simp only [nfl, nft, elI, elF, Nat.reduceAdd] at hc)
    go_wp2_with fail
    go_ret
    exact ⟨by rw [H.out] <;> rfl, st.ext0⟩
  · by_cases h2 : b < a
    · have H : Hid (v = 1) := Lib.hid (by rw [← HV.out, if_neg h1, if_pos h2])
      (try simp only [nsl, Value.cells, unB] at st)
      (try clear hc); have hc := st.facts; (try simp only [nfl, nft, elI, elF, Nat.reduceAdd] at hc)
      go_enter Tryz.func48, Tryz.ntmps48
      go_wp2_with fail
      refine (isNaN_any a _).mono ?_
      rintro en w ⟨rfl, hx⟩
      replace st := st.ext hx
      clear hx
      (try clear hc); have hc := st.facts; (try simp only [nfl, nft, elI, elF, Nat.reduceAdd] at hc)
      go_wp2_with fail
      refine (isNaN_any b _).mono ?_
      rintro en w ⟨rfl, hx⟩
      replace st := st.ext hx
      clear hx
      (try clear hc); have hc := st.facts; (try simp only [nfl, nft, elI, elF, Nat.reduceAdd] at hc)
      go_wp2_with fail
      go_ret
      exact ⟨by rw [H.out] <;> rfl, st.ext0⟩
    · have H : Hid (v = 0) := Lib.hid (by rw [← HV.out, if_neg h1, if_neg h2])
      (try simp only [nsl, Value.cells, unB] at st)
      (try clear hc); have hc := st.facts; (try simp only [nfl, nft, elI, elF, Nat.reduceAdd] at hc)
      go_enter Tryz.func48, Tryz.ntmps48
      go_wp2_with fail
      refine (isNaN_any a _).mono ?_
      rintro en w ⟨rfl, hx⟩
      replace st := st.ext hx
      clear hx
      (try clear hc); have hc := st.facts; (try simp only [nfl, nft, elI, elF, Nat.reduceAdd] at hc)
      go_wp2_with fail
      refine (isNaN_any b _).mono ?_
      rintro en w ⟨rfl, hx⟩
      replace st := st.ext hx
      clear hx
      (try clear hc); have hc := st.facts; (try simp only [nfl, nft, elI, elF, Nat.reduceAdd] at hc)
      go_wp2_with fail
      go_ret
      exact ⟨by rw [H.out] <;> rfl, st.ext0⟩
set_option maxRecDepth 100000 in
set_option maxHeartbeats 4000000 in
theorem rolesCompareFunc_any (a : Option Addr) (n c : Nat) (xs : List Role) (a2 : Option Addr) (n2 c2 : Nat) (ys : List Role) (W : World) (h : Fl W a n xs) (h2 : Fl W a2 n2 ys) (hn : n ≤ 2000000) (hn2 : n2 ≤ 2000000) :
    Calls Tryz.prog 49 #[.slice a n c, .slice a2 n2 c2, .func (.func 50) #[] #[]] W fun e w' => e = .returned (.int .i64 (cmpRs xs ys)) ∧ Ext W w' := by
  have H := Lib.hid h
  have H2 := Lib.hid h2
  have HN := Lib.hid h.1
  have HN2 := Lib.hid h2.1
  have hcf := fun (args : Array Value) (w : World) => enters_of Tryz.func50 (by kernel_rfl) rfl args w
  have st := Own.startOld W
  clear h h2
  obtain ⟨rv, hrv⟩ : ∃ v, cmpRs xs ys = v := ⟨_, rfl⟩
  have HV := Lib.hid hrv
  rw [hrv]
  clear hrv
  (try simp only [nsl, Value.cells, unB] at st)
  (try clear hc); have hc := st.facts; (try simp only [nfl, nft, elI, elF, Nat.reduceAdd] at hc)
  go_enter Tryz.func49, Tryz.ntmps49
  go_wp2_with ((first
        | ((with_reducible refine wl_alloc ?_ (fun K hK => ?_)); rfl; refine owp_alloc (o := ⟨some 8, _, _, _, _, _⟩) rfl st ?_; apply Exists.intro; apply Exists.intro; refine ⟨?_, ?_⟩; (focus (first | (go_simp; done) | (go_simp; rfl))); (clear st; intro b8 w hb st; clear hb))
        | ((with_reducible refine wl_store ?_ (fun K hK => ?_)); rfl; refine owp_store rfl st ?_; apply Exists.intro; apply Exists.intro; refine ⟨?_, ?_, ?_⟩; (focus (go_simp; try rfl)); (focus (go_simp; try rfl)); (first | (with_reducible refine ⟨0, _, _, _, _, get0, rfl, rfl, ?_, ?_, ?_, ?_⟩) | (with_reducible refine ⟨1, _, _, _, _, get1, rfl, rfl, ?_, ?_, ?_, ?_⟩) | (with_reducible refine ⟨2, _, _, _, _, get2, rfl, rfl, ?_, ?_, ?_, ?_⟩) | (with_reducible refine ⟨3, _, _, _, _, get3, rfl, rfl, ?_, ?_, ?_, ?_⟩) | (with_reducible refine ⟨4, _, _, _, _, get4, rfl, rfl, ?_, ?_, ?_, ?_⟩)); (kernel_rfl); (simp [Value.cells]); (rfl); (clear st; intro w st))
        | ((with_reducible refine wl_alloc ?_ (fun K hK => ?_)); rfl; refine owp_alloc (o := ⟨some 9, _, _, _, _, _⟩) rfl st ?_; apply Exists.intro; apply Exists.intro; refine ⟨?_, ?_⟩; (focus (first | (go_simp; done) | (go_simp; rfl))); (clear st; intro b9 w hb st; clear hb))); (try simp only [nsl, Value.cells, unB] at st); (try clear hc); have hc := st.facts; (try simp only [nfl, nft, elI, elF, Nat.reduceAdd] at hc))
  go_loopg [13] n (fun q i wr => ∃ (j : Nat), j ≤ n ∧ q = n - j ∧ i = .int .i64 (j : Int) ∧ j ≤ n2 ∧ Hid (rv = cmpRs (xs.drop j) (ys.drop j)) ∧ Own (fun _ => False) (fun _ => True) W [oldI W] wr)
  case atStart => exact ⟨0, by omega, by omega, rfl, by omega, Lib.hid (by rw [← HV.out]; rfl), st⟩
  case round =>
    obtain ⟨j, hj, rfl, rfl, hj2, HT, st'⟩ := hrel
    clear st hc
    have st := st'
    clear st'
    by_cases hjn : j < n
    · obtain ⟨b, off, ha, hcell⟩ := H.out.role (by omega)
      have hjl : j < xs.length := by have := HN.out; omega
      by_cases hjm : j < n2
      · obtain ⟨b2, off2, ha2, hcell2⟩ := H2.out.role (by omega)
        have hjl2 : j < ys.length := by have := HN2.out; omega
        have hstep := cmpRs_at xs ys j hjl hjl2
        rw [← HT.out] at hstep
        have hgt := List.getElem?_eq_getElem hjl
        have hgt2 := List.getElem?_eq_getElem hjl2
        generalize xs[j] = x at *
        generalize ys[j] = y at *
        have HC := Lib.hid (fun W' => roleCompare_any x y W')
        obtain ⟨cv, hcv⟩ : ∃ v, roleCmp x y = v := ⟨_, rfl⟩
        rw [hcv] at HC hstep
        have HST := Lib.hid hstep
        clear hstep hcv hjl hjl2
        obtain ⟨o, d⟩ := x
        obtain ⟨o2, d2⟩ := y
        obtain ⟨r0, r1⟩ := hcell j (o, d) hgt
        obtain ⟨s0, s1⟩ := hcell2 j (o2, d2) hgt2
        clear hcell hgt hcell2 hgt2
        subst ha ha2
        unfold rV S at HC
        unfold S at r0 r1 s0 s1
        simp only at HC r0 r1 s0 s1
        replace st := st.addEl (i := 0) get0 b (off + j * 2) (.string ⟨o.toArray⟩) [(off + j * 2 + 1, .string ⟨d.toArray⟩)] ⟨r0, r1, trivial⟩
        simp only [List.cons_append, List.nil_append] at st
        replace st := st.addEl (i := 0) get0 b2 (off2 + j * 2) (.string ⟨o2.toArray⟩) [(off2 + j * 2 + 1, .string ⟨d2.toArray⟩)] ⟨s0, s1, trivial⟩
        simp only [List.cons_append, List.nil_append] at st
        clear r0 r1 s0 s1
        have hji : ¬ (n2 : Int) ≤ (j : Int) := by omega
        have hji2 : (j : Int) < (n2 : Int) := by omega
        (try simp only [nsl, Value.cells, unB] at st)
        (try clear hc); have hc := st.facts; (try simp only [nfl, nft, elI, elF, Nat.reduceAdd] at hc)
        go_wp2_with ((first
              | ((with_reducible refine wl_alloc ?_ (fun K hK => ?_)); rfl; refine owp_alloc (o := ⟨some 8, _, _, _, _, _⟩) rfl st ?_; apply Exists.intro; apply Exists.intro; refine ⟨?_, ?_⟩; (focus (first | (go_simp; done) | (go_simp; rfl))); (clear st; intro b8 w hb st; clear hb))
              | ((with_reducible refine wl_store ?_ (fun K hK => ?_)); rfl; refine owp_store rfl st ?_; apply Exists.intro; apply Exists.intro; refine ⟨?_, ?_, ?_⟩; (focus (go_simp; try rfl)); (focus (go_simp; try rfl)); (first | (with_reducible refine ⟨0, _, _, _, _, get0, rfl, rfl, ?_, ?_, ?_, ?_⟩) | (with_reducible refine ⟨1, _, _, _, _, get1, rfl, rfl, ?_, ?_, ?_, ?_⟩) | (with_reducible refine ⟨2, _, _, _, _, get2, rfl, rfl, ?_, ?_, ?_, ?_⟩) | (with_reducible refine ⟨3, _, _, _, _, get3, rfl, rfl, ?_, ?_, ?_, ?_⟩) | (with_reducible refine ⟨4, _, _, _, _, get4, rfl, rfl, ?_, ?_, ?_, ?_⟩)); (kernel_rfl); (simp [Value.cells]); (rfl); (clear st; intro w st))
              | ((with_reducible refine wl_alloc ?_ (fun K hK => ?_)); rfl; refine owp_alloc (o := ⟨some 9, _, _, _, _, _⟩) rfl st ?_; apply Exists.intro; apply Exists.intro; refine ⟨?_, ?_⟩; (focus (first | (go_simp; done) | (go_simp; rfl))); (clear st; intro b9 w hb st; clear hb))); (try simp only [nsl, Value.cells, unB] at st); (try clear hc); have hc := st.facts; (try simp only [nfl, nft, elI, elF, Nat.reduceAdd] at hc))
        refine (HC.out _).mono ?_
        rintro en w ⟨rfl, hx⟩
        replace st := st.ext hx
        clear hx
        by_cases c0 : cv = 0
        · subst c0
          have HT2 : Hid (rv = cmpRs (xs.drop (j + 1)) (ys.drop (j + 1))) := Lib.hid (by rw [HST.out, if_pos rfl])
          clear HST HT
          (try simp only [nsl, Value.cells, unB] at st)
          (try clear hc); have hc := st.facts; (try simp only [nfl, nft, elI, elF, Nat.reduceAdd] at hc)
          go_wp2_with fail
          have st' := st.keep [0] (by decide) (by simp)
          go_roundg (n - (j + 1))
          case measure => omega
          case rel => exact ⟨j + 1, by omega, by omega, by go_num, by omega, HT2, by simpa [pick] using st'⟩
        · have HF : Hid (rv = cv) := Lib.hid (by rw [HST.out, if_neg c0])
          have c0b : (cv == 0) = false := by simpa using c0
          clear HST HT
          (try simp only [nsl, Value.cells, unB] at st)
          (try clear hc); have hc := st.facts; (try simp only [nfl, nft, elI, elF, Nat.reduceAdd] at hc)
          go_wp2_with fail
          go_ret
          exact ⟨by rw [HF.out] <;> rfl, st.ext0⟩
      · have HF : Hid (rv = 1) := Lib.hid (by rw [HT.out]; exact cmpRs_r xs ys j hjl (by have := HN2.out; omega))
        have hji : (n2 : Int) ≤ (j : Int) := by omega
        obtain ⟨r0, r1⟩ := hcell j xs[j] (List.getElem?_eq_getElem hjl)
        generalize xs[j] = x at *
        obtain ⟨o, d⟩ := x
        subst ha
        unfold S at r0 r1
        simp only at r0 r1
        have r0' := st.oldCell (i := 0) get0 r0
        have r1' := st.oldCell (i := 0) get0 r1
        clear hcell r0 r1
        (try simp only [nsl, Value.cells, unB] at st)
        (try clear hc); have hc := st.facts; (try simp only [nfl, nft, elI, elF, Nat.reduceAdd] at hc)
        go_wp2_with ((first
              | ((with_reducible refine wl_alloc ?_ (fun K hK => ?_)); rfl; refine owp_alloc (o := ⟨some 8, _, _, _, _, _⟩) rfl st ?_; apply Exists.intro; apply Exists.intro; refine ⟨?_, ?_⟩; (focus (first | (go_simp; done) | (go_simp; rfl))); (clear st; intro b8 w hb st; clear hb))
              | ((with_reducible refine wl_store ?_ (fun K hK => ?_)); rfl; refine owp_store rfl st ?_; apply Exists.intro; apply Exists.intro; refine ⟨?_, ?_, ?_⟩; (focus (go_simp; try rfl)); (focus (go_simp; try rfl)); (first | (with_reducible refine ⟨0, _, _, _, _, get0, rfl, rfl, ?_, ?_, ?_, ?_⟩) | (with_reducible refine ⟨1, _, _, _, _, get1, rfl, rfl, ?_, ?_, ?_, ?_⟩) | (with_reducible refine ⟨2, _, _, _, _, get2, rfl, rfl, ?_, ?_, ?_, ?_⟩) | (with_reducible refine ⟨3, _, _, _, _, get3, rfl, rfl, ?_, ?_, ?_, ?_⟩) | (with_reducible refine ⟨4, _, _, _, _, get4, rfl, rfl, ?_, ?_, ?_, ?_⟩)); (kernel_rfl); (simp [Value.cells]); (rfl); (clear st; intro w st))
              | ((with_reducible refine wl_alloc ?_ (fun K hK => ?_)); rfl; refine owp_alloc (o := ⟨some 9, _, _, _, _, _⟩) rfl st ?_; apply Exists.intro; apply Exists.intro; refine ⟨?_, ?_⟩; (focus (first | (go_simp; done) | (go_simp; rfl))); (clear st; intro b9 w hb st; clear hb))); (try simp only [nsl, Value.cells, unB] at st); (try clear hc); have hc := st.facts; (try simp only [nfl, nft, elI, elF, Nat.reduceAdd] at hc))
        go_ret
        exact ⟨by rw [HF.out] <;> rfl, st.ext0⟩
    · obtain rfl : j = n := by omega
      by_cases hjm : j < n2
      · have HF : Hid (rv = -1) := Lib.hid (by rw [HT.out]; exact cmpRs_l xs ys j (by have := HN.out; omega) (by have := HN2.out; omega))
        have hji : (j : Int) < (n2 : Int) := by omega
        (try simp only [nsl, Value.cells, unB] at st)
        (try clear hc); have hc := st.facts; (try simp only [nfl, nft, elI, elF, Nat.reduceAdd] at hc)
        go_wp2_with ((first
              | ((with_reducible refine wl_alloc ?_ (fun K hK => ?_)); rfl; refine owp_alloc (o := ⟨some 8, _, _, _, _, _⟩) rfl st ?_; apply Exists.intro; apply Exists.intro; refine ⟨?_, ?_⟩; (focus (first | (go_simp; done) | (go_simp; rfl))); (clear st; intro b8 w hb st; clear hb))
              | ((with_reducible refine wl_store ?_ (fun K hK => ?_)); rfl; refine owp_store rfl st ?_; apply Exists.intro; apply Exists.intro; refine ⟨?_, ?_, ?_⟩; (focus (go_simp; try rfl)); (focus (go_simp; try rfl)); (first | (with_reducible refine ⟨0, _, _, _, _, get0, rfl, rfl, ?_, ?_, ?_, ?_⟩) | (with_reducible refine ⟨1, _, _, _, _, get1, rfl, rfl, ?_, ?_, ?_, ?_⟩) | (with_reducible refine ⟨2, _, _, _, _, get2, rfl, rfl, ?_, ?_, ?_, ?_⟩) | (with_reducible refine ⟨3, _, _, _, _, get3, rfl, rfl, ?_, ?_, ?_, ?_⟩) | (with_reducible refine ⟨4, _, _, _, _, get4, rfl, rfl, ?_, ?_, ?_, ?_⟩)); (kernel_rfl); (simp [Value.cells]); (rfl); (clear st; intro w st))
              | ((with_reducible refine wl_alloc ?_ (fun K hK => ?_)); rfl; refine owp_alloc (o := ⟨some 9, _, _, _, _, _⟩) rfl st ?_; apply Exists.intro; apply Exists.intro; refine ⟨?_, ?_⟩; (focus (first | (go_simp; done) | (go_simp; rfl))); (clear st; intro b9 w hb st; clear hb))); (try simp only [nsl, Value.cells, unB] at st); (try clear hc); have hc := st.facts; (try simp only [nfl, nft, elI, elF, Nat.reduceAdd] at hc))
        go_ret
        exact ⟨by rw [HF.out] <;> rfl, st.ext0⟩
      · have HF : Hid (rv = 0) := Lib.hid (by rw [HT.out]; exact cmpRs_e xs ys j (by have := HN.out; omega) (by have := HN2.out; omega))
        have hji : ¬ (j : Int) < (n2 : Int) := by omega
        (try simp only [nsl, Value.cells, unB] at st)
        (try clear hc); have hc := st.facts; (try simp only [nfl, nft, elI, elF, Nat.reduceAdd] at hc)
        go_wp2_with ((first
              | ((with_reducible refine wl_alloc ?_ (fun K hK => ?_)); rfl; refine owp_alloc (o := ⟨some 8, _, _, _, _, _⟩) rfl st ?_; apply Exists.intro; apply Exists.intro; refine ⟨?_, ?_⟩; (focus (first | (go_simp; done) | (go_simp; rfl))); (clear st; intro b8 w hb st; clear hb))
              | ((with_reducible refine wl_store ?_ (fun K hK => ?_)); rfl; refine owp_store rfl st ?_; apply Exists.intro; apply Exists.intro; refine ⟨?_, ?_, ?_⟩; (focus (go_simp; try rfl)); (focus (go_simp; try rfl)); (first | (with_reducible refine ⟨0, _, _, _, _, get0, rfl, rfl, ?_, ?_, ?_, ?_⟩) | (with_reducible refine ⟨1, _, _, _, _, get1, rfl, rfl, ?_, ?_, ?_, ?_⟩) | (with_reducible refine ⟨2, _, _, _, _, get2, rfl, rfl, ?_, ?_, ?_, ?_⟩) | (with_reducible refine ⟨3, _, _, _, _, get3, rfl, rfl, ?_, ?_, ?_, ?_⟩) | (with_reducible refine ⟨4, _, _, _, _, get4, rfl, rfl, ?_, ?_, ?_, ?_⟩)); (kernel_rfl); (simp [Value.cells]); (rfl); (clear st; intro w st))
              | ((with_reducible refine wl_alloc ?_ (fun K hK => ?_)); rfl; refine owp_alloc (o := ⟨some 9, _, _, _, _, _⟩) rfl st ?_; apply Exists.intro; apply Exists.intro; refine ⟨?_, ?_⟩; (focus (first | (go_simp; done) | (go_simp; rfl))); (clear st; intro b9 w hb st; clear hb))); (try simp only [nsl, Value.cells, unB] at st); (try clear hc); have hc := st.facts; (try simp only [nfl, nft, elI, elF, Nat.reduceAdd] at hc))
        go_ret
        exact ⟨by rw [HF.out] <;> rfl, st.ext0⟩
/-- The order of sets: by length, then by their roles. -/
def cmpSet (xs ys : List Role) : Int := or2 (cmpI xs.length ys.length) (cmpRs xs ys)
set_option maxRecDepth 100000 in
set_option maxHeartbeats 2000000 in
theorem setsCompare_any (a : Option Addr) (n c : Nat) (xs : List Role) (a2 : Option Addr) (n2 c2 : Nat) (ys : List Role) (W : World) (h : Fl W a n xs) (h2 : Fl W a2 n2 ys) (hn : n ≤ 2000000) (hn2 : n2 ≤ 2000000) :
    Calls Tryz.prog 27 #[.slice a n c, .slice a2 n2 c2] W fun e w' => e = .returned (.int .i64 (cmpSet xs ys)) ∧ Ext W w' := by
  have HC := Lib.hid (fun W' (hx : Ext W W') => rolesCompareFunc_any a n c xs a2 n2 c2 ys W' (Arr.ext h hx) (Arr.ext h2 hx) hn hn2)
  have HI := Lib.hid (fun W' => cmpInt_any (n : Int) (n2 : Int) W')
  have HV : Hid (cmpSet xs ys = or2 (cmpI n n2) (cmpRs xs ys)) := Lib.hid (by rw [h.1, h2.1]; rfl)
  generalize cmpSet xs ys = v at *
  generalize cmpRs xs ys = y at *
  generalize cmpI (n : Int) (n2 : Int) = x at *
  clear h h2
  have st := Own.startOld W
  (try simp only [nsl, Value.cells, unB] at st)
  (try clear hc); have hc := st.facts; (try simp only [nfl, nft, elI, elF, Nat.reduceAdd] at hc)
  go_enter Tryz.func27, Tryz.ntmps27
  go_wp2_with ((((with_reducible refine wl_buildSlice ?_ (fun K hK => ?_)); rfl; refine owp_buildSlice (o := ⟨some 13, _, _, _, _, _⟩) rfl st ?_; apply Exists.intro; apply Exists.intro; apply Exists.intro; apply Exists.intro; refine ⟨?_, ?_⟩; (focus (go_simp; (first | done | exact ⟨⟨rfl, rfl⟩, rfl⟩ | rfl))); (clear st; intro b13 w hb st; clear hb))); (try simp only [nsl, Value.cells, unB] at st); (try clear hc); have hc := st.facts; (try simp only [nfl, nft, elI, elF, Nat.reduceAdd] at hc))
  refine (HI.out _).mono ?_
  rintro en w ⟨rfl, hx⟩
  replace st := st.ext hx
  clear hx
  (try clear hc); have hc := st.facts; (try simp only [nfl, nft, elI, elF, Nat.reduceAdd] at hc)
  go_wp2_with ((((with_reducible refine wl_buildSlice ?_ (fun K hK => ?_)); rfl; refine owp_buildSlice (o := ⟨some 13, _, _, _, _, _⟩) rfl st ?_; apply Exists.intro; apply Exists.intro; apply Exists.intro; apply Exists.intro; refine ⟨?_, ?_⟩; (focus (go_simp; (first | done | exact ⟨⟨rfl, rfl⟩, rfl⟩ | rfl))); (clear st; intro b13 w hb st; clear hb))); (try simp only [nsl, Value.cells, unB] at st); (try clear hc); have hc := st.facts; (try simp only [nfl, nft, elI, elF, Nat.reduceAdd] at hc))
  refine (HC.out _ st.ext0).mono ?_
  rintro en w ⟨rfl, hx⟩
  replace st := st.ext hx
  clear hx
  (try clear hc); have hc := st.facts; (try simp only [nfl, nft, elI, elF, Nat.reduceAdd] at hc)
  go_wp2_with ((((with_reducible refine wl_buildSlice ?_ (fun K hK => ?_)); rfl; refine owp_buildSlice (o := ⟨some 13, _, _, _, _, _⟩) rfl st ?_; apply Exists.intro; apply Exists.intro; apply Exists.intro; apply Exists.intro; refine ⟨?_, ?_⟩; (focus (go_simp; (first | done | exact ⟨⟨rfl, rfl⟩, rfl⟩ | rfl))); (clear st; intro b13 w hb st; clear hb))); (try simp only [nsl, Value.cells, unB] at st); (try clear hc); have hc := st.facts; (try simp only [nfl, nft, elI, elF, Nat.reduceAdd] at hc))
  refine (cmpOr2_any b13 2 _ _ _ hc.1 hc.2).mono ?_
  rintro en w ⟨rfl, hx⟩
  replace st := st.ext hx
  clear hx
  (try clear hc); have hc := st.facts; (try simp only [nfl, nft, elI, elF, Nat.reduceAdd] at hc)
  go_wp2_with ((((with_reducible refine wl_buildSlice ?_ (fun K hK => ?_)); rfl; refine owp_buildSlice (o := ⟨some 13, _, _, _, _, _⟩) rfl st ?_; apply Exists.intro; apply Exists.intro; apply Exists.intro; apply Exists.intro; refine ⟨?_, ?_⟩; (focus (go_simp; (first | done | exact ⟨⟨rfl, rfl⟩, rfl⟩ | rfl))); (clear st; intro b13 w hb st; clear hb))); (try simp only [nsl, Value.cells, unB] at st); (try clear hc); have hc := st.facts; (try simp only [nfl, nft, elI, elF, Nat.reduceAdd] at hc))
  go_ret
  exact ⟨by rw [HV.out] <;> rfl, st.ext0⟩
end Go.Proofs.YtcihjohgmhebiaaGreat

namespace Go.Proofs.YtcihjohgmhebiaaGreat
set_option linter.unusedSimpArgs false
set_option linter.unusedVariables false
open Go Go.RowKit Go.Sort Go.Lib Go.Shelf
theorem putRow_map {α : Type} [Inhabited α] (enc : α → Value) (w : World) (blk off : Nat) (d : Array α) : putRow enc w blk off d = putRow id w blk off (d.map enc) := by
  unfold putRow
  congr 1
  funext cur
  unfold putCells
  congr 1
  funext k x
  by_cases h : off ≤ k ∧ k < off + d.size
  · have hk : k - off < d.size := by omega
    rw [if_pos h, if_pos (by simpa using h), getElem!_pos d _ hk, getElem!_pos (d.map enc) _ (by simpa using hk)]
    simp
  · rw [if_neg h, if_neg (by simpa using h)]
section
variable {fr al : Nat → Prop} {w0 w : World} {L : List It}
theorem Own.sorted1 {α : Type} [Inhabited α] (enc : α → Value) (st : Own fr al w0 L w) {i n c g : Nat} {E : TypeId} {xs : List Value} {ys : Array α} (hi : L[i]? = some (rowI E 1 (.slice (some ⟨g, 0, none⟩) n c) n xs)) (hl : ys.size = n) (m : Nat) (os : Array Obj) :
    Own fr al w0 (L.set i (rowI E 1 (.slice (some ⟨g, 0, none⟩) n c) n (ys.toList.map enc))) (sortWorld enc w g 0 m ys os) := by
  have hrow := st.row hi
  rcases hrow.2 with ⟨h1, h2⟩ | ⟨g', cap, cur, h1, hb, hg, hcap, hm, hs, ht⟩
  · cases h1
  · cases h1
    have hle : n ≤ cur.size := by rw [hs, Nat.mul_one]; exact hcap
    have e : sortWorld enc w g 0 m ys os = grow (putRow id (Sort.ahead w m) g 0 (ys.toList.map enc).toArray) os := by
      have e1 : (ys.toList.map enc).toArray = ys.map enc := by apply Array.ext'; simp
      unfold sortWorld
      rw [putRow_map, e1]
    rw [e]
    refine st.upd hi fun e s ⟨q1, q2⟩ q3 q4 => ⟨e, s, ⟨?_, q2⟩, fun b hb => ⟨Nat.lt_of_lt_of_le (q3 b (.inl hb)) (grownBy_sortedK _).size, .inl hb⟩, fun b hb => ⟨Nat.lt_of_lt_of_le (q3 b (.inr hb)) (grownBy_sortedK _).size, .inr (.inl hb)⟩, q4, MutO.grown (MutO.refl _ _) ⟨grownBy_sortedK _, Nat.le_add_right _ _⟩ fun k hk _ => ?_⟩
    · exact ⟨by simp [hl], .inr ⟨g, c, _, rfl, hb, heap_sortedK _ hg, hcap, hm, by simp [putCells, hs], by
        have := take_putCellsK cur (ys.toList.map enc) (by simp [hl]; omega)
        simpa [hl] using this⟩⟩
    · cases hk; exact q2 g rfl
end
end Go.Proofs.YtcihjohgmhebiaaGreat

namespace Go.Proofs.YtcihjohgmhebiaaGreat
set_option linter.unusedSimpArgs false
set_option linter.unusedVariables false
open Go Go.RowKit Go.Sort Go.Lib Go.Shelf
theorem roleCmp_0 (x y : Role) : roleCmp x y = 0 ↔ x = y := by
  have o := roleOrd (fun _ => true)
  unfold roleCmp
  constructor
  · intro h
    rcases o.tri x y rfl rfl with q | q | q
    · rw [if_pos q] at h; cases h
    · exact q
    · by_cases q2 : roleLt x y = true
      · rw [if_pos q2] at h; cases h
      · rw [if_neg q2, if_pos q] at h; cases h
  · intro h
    subst h
    rw [o.irr]; rfl
theorem roleCmp_neg (x y : Role) : roleCmp x y < 0 ↔ roleLt x y = true := by
  have := roleCmp_lt x y
  unfold ltOf at this
  rw [← this, decide_eq_true_eq]
def rsLt : List Role → List Role → Prop
  | [], [] => False
  | [], _ :: _ => True
  | _ :: _, [] => False
  | x :: l, y :: m => roleLt x y = true ∨ (x = y ∧ rsLt l m)
theorem rsLt_is : ∀ a b : List Role, cmpRs a b < 0 ↔ rsLt a b
  | [], [] => by simp [cmpRs, rsLt]
  | [], _ :: _ => by simp [cmpRs, rsLt]
  | _ :: _, [] => by simp [cmpRs, rsLt]
  | x :: l, y :: m => by
    rw [cmpRs, rsLt]
    by_cases h : roleCmp x y = 0
    · have e := (roleCmp_0 x y).1 h
      rw [if_pos h, rsLt_is l m]
      subst e
      rw [(roleOrd (fun _ => true)).irr]
      simp
    · rw [if_neg h, roleCmp_neg]
      have e : x ≠ y := fun q => h ((roleCmp_0 x y).2 q)
      simp [e]
theorem rsLt_irr : ∀ a : List Role, ¬ rsLt a a
  | [] => by simp [rsLt]
  | x :: l => by rw [rsLt, (roleOrd (fun _ => true)).irr]; have := rsLt_irr l; simp [this]
theorem rsLt_tr : ∀ a b c : List Role, rsLt a b → rsLt b c → rsLt a c
  | [], [], _, h, _ => by simp [rsLt] at h
  | [], _ :: _, [], _, k => by simp [rsLt] at k
  | [], _ :: _, _ :: _, _, _ => by simp [rsLt]
  | _ :: _, [], _, h, _ => by simp [rsLt] at h
  | _ :: _, _ :: _, [], _, k => by simp [rsLt] at k
  | x :: l, y :: m, z :: n, h, k => by
    rw [rsLt] at *
    rcases h with h | ⟨rfl, h⟩
    · rcases k with k | ⟨rfl, k⟩
      · exact .inl ((roleOrd (fun _ => true)).tr _ _ _ h k)
      · exact .inl h
    · rcases k with k | ⟨rfl, k⟩
      · exact .inl k
      · exact .inr ⟨rfl, rsLt_tr l m n h k⟩
theorem rsLt_tri : ∀ a b : List Role, rsLt a b ∨ a = b ∨ rsLt b a
  | [], [] => .inr (.inl rfl)
  | [], _ :: _ => .inl (by simp [rsLt])
  | _ :: _, [] => .inr (.inr (by simp [rsLt]))
  | x :: l, y :: m => by
    rw [rsLt, rsLt]
    rcases (roleOrd (fun _ => true)).tri x y rfl rfl with h | h | h
    · exact .inl (.inl h)
    · subst h
      rcases rsLt_tri l m with q | q | q
      · exact .inl (.inr ⟨rfl, q⟩)
      · exact .inr (.inl (by rw [q]))
      · exact .inr (.inr (.inr ⟨rfl, q⟩))
    · exact .inr (.inr (.inl h))
def seLt (a b : List Role) : Prop := a.length < b.length ∨ (a.length = b.length ∧ rsLt a b)
theorem seLt_is (a b : List Role) : ltOf cmpSet a b = true ↔ seLt a b := by
  unfold ltOf cmpSet seLt cmpI or2
  rw [decide_eq_true_eq, ← rsLt_is]
  by_cases h1 : a.length < b.length
  · rw [if_pos (by omega : (a.length : Int) < b.length)]; simp [h1]
  · rw [if_neg (by omega : ¬ (a.length : Int) < b.length)]
    by_cases h2 : b.length < a.length
    · rw [if_pos (by omega : (b.length : Int) < a.length)]
      have e : ¬ a.length = b.length := by omega
      simp [h1, e]
    · rw [if_neg (by omega : ¬ (b.length : Int) < a.length)]
      have e : a.length = b.length := by omega
      simp [e]
theorem setSwo : SWO (ltOf cmpSet) where
  irrefl x := by
    rw [Bool.eq_false_iff, Ne, seLt_is]
    rintro (h | ⟨_, h⟩)
    · omega
    · exact rsLt_irr x h
  trans x y z h1 h2 := by
    rw [seLt_is] at *
    rcases h1 with h1 | ⟨e1, h1⟩
    · rcases h2 with h2 | ⟨e2, h2⟩
      · exact .inl (by omega)
      · exact .inl (by omega)
    · rcases h2 with h2 | ⟨e2, h2⟩
      · exact .inl (by omega)
      · exact .inr ⟨by omega, rsLt_tr _ _ _ h1 h2⟩
  ntrans x y z h1 h2 := by
    rw [Bool.eq_false_iff, Ne, seLt_is] at *
    intro h
    have t1 : ¬ x.length < y.length := fun q => h1 (.inl q)
    have t2 : ¬ y.length < z.length := fun q => h2 (.inl q)
    rcases h with h | ⟨e, h⟩
    · omega
    · rcases rsLt_tri x y with q | q | q
      · exact h1 (.inr ⟨by omega, q⟩)
      · subst q; exact h2 (.inr ⟨e, h⟩)
      · exact h2 (.inr ⟨by omega, rsLt_tr _ _ _ q h⟩)
end Go.Proofs.YtcihjohgmhebiaaGreat

namespace Go.Proofs.YtcihjohgmhebiaaGreat
set_option linter.unusedSimpArgs false
set_option linter.unusedVariables false
open Go Go.RowKit Go.Sort Go.Lib Go.Shelf
section
variable {fr al : Nat → Prop} {w0 w : World} {L : List It}
abbrev RsS (xs : List RsT) := { x : RsT // x ∈ xs }
def encS {xs : List RsT} (x : RsS xs) : Value := .slice x.1.a x.1.n x.1.c
theorem subSwo (xs : List RsT) : SWO (ltOf fun x y : RsS xs => cmpSet x.1.xs y.1.xs) where
  irrefl x := setSwo.irrefl x.1.xs
  trans x y z := setSwo.trans x.1.xs y.1.xs z.1.xs
  ntrans x y z := setSwo.ntrans x.1.xs y.1.xs z.1.xs
theorem rs_cells (l : List RsT) : cellsL l = l.map fun x => Value.slice x.a x.n x.c := by
  induction l with
  | nil => rfl
  | cons x l ih => rw [cellsL_cons, ih]; rfl
theorem sets_cells (xs : List RsT) : cellsL xs = xs.attach.map fun x => (encS (xs := xs) x) := by
  rw [rs_cells]
  exact (List.attach_map_val (l := xs) (f := fun x : RsT => Value.slice x.a x.n x.c)).symm
theorem sets67 (args : Array Value) (w : World) : (callFunc 27 args).run Tryz.prog w = .ok (.enter 27 args) w := enters_of Tryz.func27 (by kernel_rfl) rfl args w
end
end Go.Proofs.YtcihjohgmhebiaaGreat

namespace Go.Proofs.YtcihjohgmhebiaaGreat
set_option linter.unusedSimpArgs false
set_option linter.unusedVariables false
open Go Go.RowKit
/-- Masks, laid anew. -/
def MasksAre (W : World) (l : List Nat) (e : Ending) (w' : World) : Prop := ∃ va n vc, e = .returned (.slice va n vc) ∧ (n ≤ vc ∧ vc ≤ maxLen) ∧ Own (fun _ => False) (fun _ => False) W [flI va n (l.map MkT.mk)] w'
theorem masksRes {W w : World} {va : Option Addr} {n vc : Nat} {l : List Nat} (hc : n ≤ vc ∧ vc ≤ maxLen) (st : Own (fun _ => False) (fun _ => False) W [flI va n (l.map MkT.mk)] w) : MasksAre W l (.returned (.slice va n vc)) w := ⟨va, n, vc, rfl, hc, st⟩
set_option maxRecDepth 100000 in
set_option maxHeartbeats 4000000 in
theorem least_f (f : Fm) (a : Option Addr) (n c : Nat) (l : List Role) (W : World) (hf : FmOk W f) (h : Fl W a n l) (hn : n ≤ 12) (hs : f.strip.nodes ≤ 1000000000) (hl : FoL 100000 f.strip) :
    Calls Tryz.prog 24 #[fmV f, .slice a n c] W fun e w' => MasksAre W (lmN (fun b => suF f.strip (pk l b)) n (2 ^ n)) e w' := by
  have HN : Hid (n = l.length) := Lib.hid h.1
  have HS := Lib.hid (fun a2 n2 c2 l2 W' (hx : Ext W W') (h2 : Fl W' a2 n2 l2) hn2 => setsSuffices_any f a2 n2 c2 l2 W' (hf.ext hx) h2 hn2 hs hl)
  have HP := Lib.hid (fun b W' (hx : Ext W W') hb => picked_any a n c l b W' (Arr.ext h hx) hn hb)
  obtain ⟨g, hg⟩ : ∃ g, (fun b => suF f.strip (pk l b)) = g := ⟨_, rfl⟩
  rw [hg]
  have HG : Hid (∀ b, suF f.strip (pk l b) = g b) := Lib.hid (fun b => by rw [← hg])
  obtain ⟨N, hN⟩ : ∃ N, 2 ^ n = N := ⟨_, rfl⟩
  rw [hN]
  have hN4 : N ≤ 4096 := by rw [← hN]; exact Nat.pow_le_pow_right (by decide) hn
  have hmk := made_boolS N hN4
  have HNN := Lib.hid hN
  clear h hg hN hf hs hl
  obtain ⟨op, k, ⟨o, d⟩, fa, fn, fc, kids⟩ := f
  unfold fmV S at HS ⊢
  simp only at HS ⊢
  have st := Own.start (fun _ => False) (fun _ => False) W
  (try simp only [nsl, Value.cells, unB] at st)
  (try clear hc); have hc := st.facts; (try simp only [nfl, nft, Nat.reduceAdd] at hc)
  go_enter Tryz.func24, Tryz.ntmps24
  have zN : wrap64 ((2 : Int) ^ n) = (N : Int) := by
    have e : ((2 : Int) ^ n) = (N : Int) := by rw [← HNN.out]; simp
    rw [e]; unfold wrap64; omega
  go_wp2_with (first
      | ((with_reducible refine wl_makeSliceS ?_ (fun K hK => ?_)); rfl; (refine owp_makeSliceS rfl st N ?_ ?_ hmk ?_); (focus (go_simp; try rfl)); (focus (go_simp; try rfl)); (clear st; intro b13 w hb st; clear hb); (simp only [List.nil_append, List.cons_append] at st))
      | ((first
        | ((with_reducible refine wl_box ?_ (fun K hK => ?_)); rfl; refine owp_box (o := ⟨some 2, _, _, _, _, _⟩) rfl st ?_; apply Exists.intro; refine ⟨?_, ?_⟩; (focus (go_simp; try rfl)); (clear st; intro b2 w hb st; clear hb))
        | ((with_reducible refine wl_store ?_ (fun K hK => ?_)); rfl; refine owp_store rfl st ?_; apply Exists.intro; apply Exists.intro; refine ⟨?_, ?_, ?_⟩; (focus (go_simp; try rfl)); (focus (go_simp; try rfl)); (first | (with_reducible refine ⟨0, _, _, _, _, get0, rfl, rfl, ?_, ?_, ?_, ?_⟩) | (with_reducible refine ⟨1, _, _, _, _, get1, rfl, rfl, ?_, ?_, ?_, ?_⟩) | (with_reducible refine ⟨2, _, _, _, _, get2, rfl, rfl, ?_, ?_, ?_, ?_⟩) | (with_reducible refine ⟨3, _, _, _, _, get3, rfl, rfl, ?_, ?_, ?_, ?_⟩) | (with_reducible refine ⟨4, _, _, _, _, get4, rfl, rfl, ?_, ?_, ?_, ?_⟩)); (kernel_rfl); (simp [Value.cells]); (rfl); (clear st; intro w st))
        | ((with_reducible refine wl_buildSlice ?_ (fun K hK => ?_)); rfl; refine owp_buildSlice (o := ⟨some 60, _, _, _, _, _⟩) rfl st ?_; apply Exists.intro; apply Exists.intro; apply Exists.intro; apply Exists.intro; refine ⟨?_, ?_⟩; (focus (go_simp; (first | done | exact ⟨⟨rfl, rfl⟩, rfl⟩ | rfl))); (clear st; intro b60 w hb st; clear hb))); (try simp only [nsl, Value.cells, unB] at st); (try clear hc); have hc := st.facts; (try simp only [nfl, nft, Nat.reduceAdd] at hc)))
  rw [made_listS, ← tabB_0 g N] at st
  clear hmk zN
  replace st := st.row_nil 3 1
  simp only [List.cons_append, List.nil_append] at st
  go_loopg [6, 16] N (fun q ov i wr => ∃ (j r : Nat) (xs : List Nat), j ≤ N ∧ q = N - j ∧ i = .int .i64 (j : Int) ∧ r ≤ 4096 ∧ Hid (xs = lmN g n j) ∧ Hid (r = xs.length) ∧ Own (fun _ => False) (fun _ => False) W [blkI b2 [.int .i64 op, .int .i64 k, .string ⟨o.toArray⟩, .string ⟨d.toArray⟩, .slice fa fn fc], blkI b13 (tabB g N j), rowI 3 1 ov r (xs.map fun x : Nat => .int .i64 (x : Int))] wr)
  case atStart => exact ⟨0, 0, [], by omega, by omega, rfl, by omega, Lib.hid (by simp [lmN]), Lib.hid rfl, by simpa using st⟩
  case round =>
    obtain ⟨j, r, xs, hj, rfl, rfl, hr, HX, HR, st'⟩ := hrel
    clear st hc
    have st := st'
    clear st'
    obtain ⟨oa, oc, rfl⟩ := own_slice (st.row (i := 2) get2)
    by_cases hjn : j < N
    · obtain ⟨m, hm⟩ : ∃ m, (pk l j).length = m := ⟨_, rfl⟩
      have hm2 : m ≤ 2000000 := by have := pkN_len l j l.length; have := HN.out; unfold pk at hm; omega
      have HPJ := Lib.hid (fun W' hx => HP.out j W' hx (by omega))
      rw [hm] at HPJ
      have HSJ := Lib.hid (fun a2 c2 W' hx h2 => HS.out a2 m c2 (pk l j) W' hx h2 hm2)
      rw [HG.out j] at HSJ
      obtain ⟨ys, hys⟩ : ∃ y, pk l j = y := ⟨_, rfl⟩
      rw [hys] at HPJ HSJ
      have HSET : Hid (spl (tabB g N j) j [.bool (g j)] = tabB g N (j + 1)) := Lib.hid (by simp only [spl]; exact tabB_set g N j hjn)
      clear hm hys
      have hji : (j : Int) < (N : Int) := by omega
      (try simp only [nsl, Value.cells, unB] at st)
      (try clear hc); have hc := st.facts; (try simp only [nfl, nft, Nat.reduceAdd] at hc)
      go_wp2_with ((first
            | ((with_reducible refine wl_box ?_ (fun K hK => ?_)); rfl; refine owp_box (o := ⟨some 2, _, _, _, _, _⟩) rfl st ?_; apply Exists.intro; refine ⟨?_, ?_⟩; (focus (go_simp; try rfl)); (clear st; intro b2 w hb st; clear hb))
            | ((with_reducible refine wl_store ?_ (fun K hK => ?_)); rfl; refine owp_store rfl st ?_; apply Exists.intro; apply Exists.intro; refine ⟨?_, ?_, ?_⟩; (focus (go_simp; try rfl)); (focus (go_simp; try rfl)); (first | (with_reducible refine ⟨0, _, _, _, _, get0, rfl, rfl, ?_, ?_, ?_, ?_⟩) | (with_reducible refine ⟨1, _, _, _, _, get1, rfl, rfl, ?_, ?_, ?_, ?_⟩) | (with_reducible refine ⟨2, _, _, _, _, get2, rfl, rfl, ?_, ?_, ?_, ?_⟩) | (with_reducible refine ⟨3, _, _, _, _, get3, rfl, rfl, ?_, ?_, ?_, ?_⟩) | (with_reducible refine ⟨4, _, _, _, _, get4, rfl, rfl, ?_, ?_, ?_, ?_⟩)); (kernel_rfl); (simp [Value.cells]); (rfl); (clear st; intro w st))
            | ((with_reducible refine wl_buildSlice ?_ (fun K hK => ?_)); rfl; refine owp_buildSlice (o := ⟨some 60, _, _, _, _, _⟩) rfl st ?_; apply Exists.intro; apply Exists.intro; apply Exists.intro; apply Exists.intro; refine ⟨?_, ?_⟩; (focus (go_simp; (first | done | exact ⟨⟨rfl, rfl⟩, rfl⟩ | rfl))); (clear st; intro b60 w hb st; clear hb))); (try simp only [nsl, Value.cells, unB] at st); (try clear hc); have hc := st.facts; (try simp only [nfl, nft, Nat.reduceAdd] at hc))
      refine Rg4.wp_region4 (Rel := Ext) #[0, 0, 0, 0, 0, 24, 60, 127, 255]
        [(5, ⟨fun v w => ∃ va vc, v = .slice va m vc ∧ Fl w va m ys , fun _ _ _ hx ⟨va, vc, h1, h2⟩ => ⟨va, vc, h1, Arr.ext h2 hx⟩⟩), (6, .val (.bool (g j)))] [8] [2] (fun _ => True) [0, 1, 2, 3, 4, 5, 6, 7, 8] (by kernel_rfl) (by kernel_rfl) (by kernel_rfl) (by kernel_rfl) Ext.refl (fun _ _ _ => Ext.trans) (show Rg4.PB _ by repeat (first | with_reducible exact Rg4.pb_body | with_reducible exact Rg4.pb_bodyD rfl | with_reducible refine Rg4.pb_then ?_ | with_reducible refine Rg4.pb_inBlock ?_ | with_reducible refine Rg4.pb_noGoto ?_)) (trivial) ?_
      replace st := st.drew
      change Rg4.wp4 _ _ _ _ _ _ _ _ _ (World.drew _) _ _
      generalize World.drew _ = w at st ⊢
      (try clear hc); have hc := st.facts; (try simp only [nfl, nft, Nat.reduceAdd] at hc)
      iterate 2 (refine Rg4.w4_any (Rg4.want_none rfl) rfl ?_; apply Exists.intro; refine ⟨fun w' => ?_, ?_⟩; (focus (first | (go_simp; done) | (go_simp; first | rfl | (rw [if_neg] <;> first | rfl | omega) | (rw [if_pos] <;> first | rfl | omega)))); (try simp only [Rg4.nrm]))
      (refine Rg4.w4_read (Rg4.want_none rfl) rfl rfl ?_; apply Exists.intro; refine ⟨fun w' hw' hcl' => ?_, ?_⟩; focus (have st' := st.ext hw'; have hc' := st'.facts; (try simp only [nfl, nft, Nat.reduceAdd] at hc'); (focus (first | (go_simp; done) | (go_simp; first | rfl | (rw [if_neg] <;> first | rfl | omega) | (rw [if_pos] <;> first | rfl | omega))))); (try simp only [Rg4.nrm]))
      iterate 2 (refine Rg4.w4_any (Rg4.want_none rfl) rfl ?_; apply Exists.intro; refine ⟨fun w' => ?_, ?_⟩; (focus (first | (go_simp; done) | (go_simp; first | rfl | (rw [if_neg] <;> first | rfl | omega) | (rw [if_pos] <;> first | rfl | omega)))); (try simp only [Rg4.nrm]))
      refine Rg4.w4_some (Rg4.want_none rfl) rfl (fun w' hw' hcl' _ => ?_) ?_
      · refine Rg.relAt_call (by go_simp; exact ⟨rfl, rfl⟩) ?_
        have st' := st.ext hw'
        refine (HPJ.out _ st'.ext0).mono ?_
        rintro en w'' ⟨va, vc, rfl, _, h2, hx⟩
        exact ⟨_, rfl, hx, trivial, va, vc, rfl, h2⟩
      rintro v ⟨_, _, _, va9, vc9, rfl, _⟩
      (try simp only [Rg4.nrm])

      refine Rg4.w4_some (Rg4.want_none rfl) rfl (fun w' hw' hcl' hP => ?_) ?_
      · refine Rg.relAt_call (by go_simp; exact ⟨rfl, rfl⟩) ?_
        have st' := st.ext hw'
        have f1 : Fl w' va9 m ys := by
          obtain ⟨va, vc, h1, h2⟩ := (hP 5 (by kernel_rfl)).2 rfl
          cases h1
          exact h2
        refine (HSJ.out va9 vc9 _ st'.ext0 f1).mono ?_
        rintro en w'' ⟨rfl, hx⟩
        exact ⟨_, rfl, hx, trivial, rfl⟩
      rintro v ⟨_, _, _, rfl⟩
      (try simp only [Rg4.nrm])
      (refine Rg4.w4_any (Rg4.want_none rfl) rfl ?_; apply Exists.intro; refine ⟨fun w' => ?_, ?_⟩; (focus (first | (go_simp; done) | (go_simp; first | rfl | (rw [if_neg] <;> first | rfl | omega) | (rw [if_pos] <;> first | rfl | omega)))); (try simp only [Rg4.nrm]))
      refine Rg4.w4_bar (Rg4.want_none rfl) rfl (fun w' hw' hcl _ K hK => ?_)
      replace st := st.ext hw'
      clear hw'
      (try clear hc); have hc := st.facts; (try simp only [nfl, nft, Nat.reduceAdd] at hc)
      refine owp_store rfl st ?_
      apply Exists.intro; apply Exists.intro
      refine ⟨?_, ?_, ?_⟩
      focus (go_simp; try rfl)
      focus (go_simp; try rfl)
      refine ⟨1, _, _, _, _, get1, rfl, rfl, ?_, ?_, ?_, ?_⟩
      · kernel_rfl
      · simp [Value.cells, tabB_len]; omega
      · rfl
      clear st
      intro w st
      (try rw [show (Value.bool (g j)).cells.toList = [.bool (g j)] from rfl] at st)
      rw [HSET.out] at st
      simp only [List.set] at st
      (try simp only [nsl, Value.cells, unB] at st)
      (try clear hc); have hc := st.facts; (try simp only [nfl, nft, Nat.reduceAdd] at hc)
      refine hK _ _ ⟨trivial, ?_⟩
      clear hK
      (try simp only [Rg4.nrm])
      refine Rg4.w4_nil (fun w' hw' hcl' _ => ?_); replace st := st.ext hw'; clear hw' hcl'; (try clear hc); have hc := st.facts; (try simp only [nfl, nft, Nat.reduceAdd] at hc)
      go_wp2_with fail
      go_loopg [8, 29] n (fun q lv i wr => ∃ (ii : Nat), ii ≤ n ∧ q = n - ii ∧ lv = .bool (lsB g ii j) ∧ i = .int .i64 (ii : Int) ∧ Own (fun _ => False) (fun _ => False) W [blkI b2 [.int .i64 op, .int .i64 k, .string ⟨o.toArray⟩, .string ⟨d.toArray⟩, .slice fa fn fc], blkI b13 (tabB g N (j + 1)), rowI 3 1 (.slice oa r oc) r (xs.map fun x : Nat => .int .i64 (x : Int))] wr)
      case atStart => exact ⟨0, by omega, by omega, by simp [lsB], rfl, st⟩
      case round =>
        obtain ⟨ii, hii, rfl, rfl, rfl, st'⟩ := hrel
        clear st hc
        have st := st'
        clear st'
        by_cases hin : ii < n
        · have hsc := lsB_succ g ii j
          cases hls : lsB g ii j with
          | true =>
            rw [hls] at hsc
            have HSC : Hid (lsB g (ii + 1) j = true) := Lib.hid (by rw [hsc]; simp)
            clear hsc hls
            (try simp only [nsl, Value.cells, unB] at st)
            (try clear hc); have hc := st.facts; (try simp only [nfl, nft, Nat.reduceAdd] at hc)
            go_wp2_with fail
            go_roundg (n - (ii + 1))
            case measure => omega
            case rel => exact ⟨ii + 1, by omega, by omega, by rw [HSC.out], by go_num, st⟩
          | false =>
            rw [hls, Bool.false_or] at hsc
            have hbit := bit_at j ii (by omega)
            cases hq : j.testBit ii with
            | false =>
              rw [hq] at hbit
              have HSC : Hid (lsB g (ii + 1) j = false) := Lib.hid (by rw [hsc, hq]; simp)
              clear hsc hls hq
              (try simp only [nsl, Value.cells, unB] at st)
              (try clear hc); have hc := st.facts; (try simp only [nfl, nft, Nat.reduceAdd] at hc)
              go_wp2_with fail
              go_roundg (n - (ii + 1))
              case measure => omega
              case rel => exact ⟨ii + 1, by omega, by omega, by rw [HSC.out], by go_num, st⟩
            | true =>
              rw [hq] at hbit
              have hclr := clr_at j ii (by omega) (by omega) hq
              have hle : 2 ^ ii ≤ 4096 := Nat.le_trans (Nat.pow_le_pow_right (by decide) (show ii ≤ 12 by omega)) (by decide)
              obtain ⟨jj, hjj⟩ : ∃ y, j - 2 ^ ii = y := ⟨_, rfl⟩
              rw [hjj] at hclr hsc
              have hjl : jj ≤ j := by rw [← hjj]; exact Nat.sub_le _ _
              obtain ⟨pw, hpw⟩ : ∃ y, 2 ^ ii = y := ⟨_, rfl⟩
              rw [hpw] at hclr hle
              have zi : wrap64 ((2 : Int) ^ ii) = (pw : Int) := by
                have e : ((2 : Int) ^ ii) = (pw : Int) := by rw [← hpw]; simp
                rw [e]; unfold wrap64; omega
              have r0 := (st.blk (i := 1) get1).cell jj
              rw [tabB_at g N (j + 1) jj (by omega) (by omega)] at r0
              obtain ⟨gv, hgv⟩ : ∃ y, g jj = y := ⟨_, rfl⟩
              rw [hgv] at r0 hsc
              have HSC : Hid (lsB g (ii + 1) j = gv) := Lib.hid (by rw [hsc, hq]; simp)
              have hji1 : (0 : Int) ≤ (jj : Int) := by omega
              have hji2 : (jj : Int) < (N : Int) := by omega
              have hji3 : (jj : Int).toNat = jj := by omega
              clear hsc hls hq hjj hpw hgv
              (try simp only [nsl, Value.cells, unB] at st)
              (try clear hc); have hc := st.facts; (try simp only [nfl, nft, Nat.reduceAdd] at hc)
              go_wp2_with fail
              go_roundg (n - (ii + 1))
              case measure => omega
              case rel => exact ⟨ii + 1, by omega, by omega, by rw [HSC.out], by go_num, st⟩
        · obtain rfl : ii = n := by omega
          have r0 := (st.blk (i := 1) get1).cell j
          rw [tabB_at g N (j + 1) j (by omega) hjn] at r0
          have hls := lmN_succ g ii j
          have hll := lmN_len g ii j
          rw [← HX.out] at hls hll
          rw [← HR.out] at hll
          have hr2 : r + 1 ≤ 4096 := by omega
          have hsl : xs.length = r := HR.out.symm
          cases hgj : g j with
          | false =>
            rw [hgj] at r0
            have HX2 : Hid (xs = lmN g ii (j + 1)) := Lib.hid (by rw [hls, hgj]; simp)
            clear hls hll hgj hsl
            (try simp only [nsl, Value.cells, unB] at st)
            (try clear hc); have hc := st.facts; (try simp only [nfl, nft, Nat.reduceAdd] at hc)
            go_wp2_with fail
            go_roundg (N - (j + 1))
            case measure => omega
            case rel => exact ⟨j + 1, r, xs, by omega, by omega, by go_num, hr, HX2, HR, st⟩
          | true =>
            rw [hgj] at r0
            cases hlv : lsB g ii j with
            | true =>
              have HX2 : Hid (xs = lmN g ii (j + 1)) := Lib.hid (by rw [hls, hgj, hlv]; simp)
              clear hls hll hgj hsl
              (try simp only [nsl, Value.cells, unB] at st)
              (try clear hc); have hc := st.facts; (try simp only [nfl, nft, Nat.reduceAdd] at hc)
              go_wp2_with fail
              go_roundg (N - (j + 1))
              case measure => omega
              case rel => exact ⟨j + 1, r, xs, by omega, by omega, by go_num, hr, HX2, HR, st⟩
            | false =>
              have HX2 : Hid (xs ++ [j] = lmN g ii (j + 1)) := Lib.hid (by rw [hls, hgj, hlv]; rfl)
              have HR2 : Hid (r + 1 = (xs ++ [j]).length) := Lib.hid (by rw [List.length_append, hsl]; rfl)
              clear hls hll hgj hsl
              (try simp only [nsl, Value.cells, unB] at st)
              (try clear hc); have hc := st.facts; (try simp only [nfl, nft, Nat.reduceAdd] at hc)
              go_wp2_with (first
                  | ((with_reducible refine wl_append ?_ (fun K hK => ?_)); (rfl); (obtain ⟨inf, hinf, hz0, hz1, hz2⟩ := intInfoS); (refine owp_append rfl st 2 get2 Tryz.underlying46 hinf hz0 hz1 hz2 rfl (by decide) rfl rfl ((st.blk (i := 3) get3).flat rfl) (by first | exact cellsL_all _ | simp [Value.oneCell']) (by simp only [maxLen]; omega) (by omega) ?_); (clear hinf hz0 hz1 hz2 inf); (clear st; intro v' w st); (obtain ⟨va', vc', rfl⟩ := own_slice (st.row (i := 2) get2)); (try simp only [nsl, Value.cells, unB] at st); (try simp only [Nat.zero_add] at st); (try clear hc); have hc := st.facts; (try simp only [nfl, nft, Nat.reduceAdd] at hc))
                  | ((with_reducible refine wl_buildSlice ?_ (fun K hK => ?_)); (rfl); (refine owp_buildRow (o := ⟨some 9999, _, _, _, _, _⟩) rfl st 3 1 ?_; refine ⟨0, #[], ?_, by simp, by simp [maxLen], ?_⟩; (focus (go_simp; (first | done | rfl))); (clear st; intro b9999 w hb st; clear hb)); (try simp only [nsl, Value.cells, unB] at st); (try clear hc); have hc := st.facts; (try simp only [nfl, nft, Nat.reduceAdd] at hc))
                  | ((first
                    | ((with_reducible refine wl_box ?_ (fun K hK => ?_)); rfl; refine owp_box (o := ⟨some 2, _, _, _, _, _⟩) rfl st ?_; apply Exists.intro; refine ⟨?_, ?_⟩; (focus (go_simp; try rfl)); (clear st; intro b2 w hb st; clear hb))
                    | ((with_reducible refine wl_store ?_ (fun K hK => ?_)); rfl; refine owp_store rfl st ?_; apply Exists.intro; apply Exists.intro; refine ⟨?_, ?_, ?_⟩; (focus (go_simp; try rfl)); (focus (go_simp; try rfl)); (first | (with_reducible refine ⟨0, _, _, _, _, get0, rfl, rfl, ?_, ?_, ?_, ?_⟩) | (with_reducible refine ⟨1, _, _, _, _, get1, rfl, rfl, ?_, ?_, ?_, ?_⟩) | (with_reducible refine ⟨2, _, _, _, _, get2, rfl, rfl, ?_, ?_, ?_, ?_⟩) | (with_reducible refine ⟨3, _, _, _, _, get3, rfl, rfl, ?_, ?_, ?_, ?_⟩) | (with_reducible refine ⟨4, _, _, _, _, get4, rfl, rfl, ?_, ?_, ?_, ?_⟩)); (kernel_rfl); (simp [Value.cells]); (rfl); (clear st; intro w st))
                    | ((with_reducible refine wl_buildSlice ?_ (fun K hK => ?_)); rfl; refine owp_buildSlice (o := ⟨some 60, _, _, _, _, _⟩) rfl st ?_; apply Exists.intro; apply Exists.intro; apply Exists.intro; apply Exists.intro; refine ⟨?_, ?_⟩; (focus (go_simp; (first | done | exact ⟨⟨rfl, rfl⟩, rfl⟩ | rfl))); (clear st; intro b60 w hb st; clear hb))); (try simp only [nsl, Value.cells, unB] at st); (try clear hc); have hc := st.facts; (try simp only [nfl, nft, Nat.reduceAdd] at hc)))
              have st' := st.keep [0, 1, 2] (by decide) (by simp)
              go_roundg (N - (j + 1))
              case measure => omega
              case rel => exact ⟨j + 1, r + 1, xs ++ [j], by omega, by omega, by go_num, hr2, HX2, HR2, by rw [List.map_append, show [j].map (fun x : Nat => Value.int .i64 (x : Int)) = [.int .i64 (j : Int)] from rfl]; simpa [pick] using st'⟩
    · obtain rfl : N = j := by omega
      rw [HX.out, mk_cells] at st
      (try simp only [nsl, Value.cells, unB] at st)
      (try clear hc); have hc := st.facts; (try simp only [nfl, nft, Nat.reduceAdd] at hc)
      go_wp2_with fail
      go_ret
      have st2 := st.keep [2] (by decide) (by simp)
      simp only [pick, List.map_cons, List.map_nil, List.getElem?_cons_zero, List.getElem?_cons_succ, Option.getD_some] at st2
      obtain ⟨q1, _⟩ := st2.rowFl4 (α := MkT) (i := 0) get0
      exact masksRes q1 (st2.rowToFl (α := MkT) (i := 0) get0)
end Go.Proofs.YtcihjohgmhebiaaGreat

namespace Go.Proofs.YtcihjohgmhebiaaGreat
set_option linter.unusedSimpArgs false
set_option linter.unusedVariables false
open Go Go.RowKit
theorem holdsL_mono {is is' : Role → Bool} : ∀ l : List Fo, (∀ x ∈ l, x.holds is = true → x.holds is' = true) → holdsL is l ≤ holdsL is' l
  | [], _ => by simp [holdsL]
  | x :: l, h => by
    have h1 := holdsL_mono l fun y hy => h y (by simp [hy])
    have h2 := h x (by simp)
    rw [holdsL, holdsL]
    cases q : x.holds is with
    | true => rw [h2 q]; simp; omega
    | false => simp; split <;> omega
theorem truth_mono {op k : Int} {n m m' : Nat} (h : m ≤ m') (hm : m' ≤ n) (ht : truth op k n m = true) : truth op k n m' = true := by
  unfold truth at *
  split
  · rename_i o; rw [if_pos o, decide_eq_true_eq] at ht; rw [decide_eq_true_eq]; omega
  · rename_i o
    rw [if_neg o] at ht
    split
    · rename_i o3; rw [if_pos o3, decide_eq_true_eq] at ht; rw [decide_eq_true_eq]; omega
    · rename_i o3; rw [if_neg o3, decide_eq_true_eq] at ht; rw [decide_eq_true_eq]; omega
/-- Only the atoms count. -/
theorem holds_atoms {is is' : Role → Bool} (f : Fo) : (∀ r ∈ f.atoms, is r = true → is' r = true) → f.holds is = true → f.holds is' = true := by
  refine Fo.ind (P := fun f => (∀ r ∈ f.atoms, is r = true → is' r = true) → f.holds is = true → f.holds is' = true) (fun op k r kids ih => ?_) f
  intro h ht
  rw [Fo.holds] at ht ⊢
  rw [Fo.atoms] at h
  by_cases o1 : op = 1
  · rw [if_pos o1] at ht h ⊢
    exact h r (by simp) ht
  · rw [if_neg o1] at ht h ⊢
    refine truth_mono (holdsL_mono kids fun x hx => ih x hx fun r hr => h r (atomsL_mem kids x hx r hr)) (holdsL_le is' kids) ht
theorem suF_mono {f : Fo} {l m : List Role} (h : ∀ r ∈ f.atoms, r ∈ l → r ∈ m) (hs : suF f l = true) : suF f m = true := by
  unfold suF at *
  rw [Bool.and_eq_true] at *
  exact ⟨hs.1, holds_atoms f (fun r hr q => by rw [decide_eq_true_eq] at *; exact h r hr q) hs.2⟩
theorem mem_pk {A : List Role} {b : Nat} {x : Role} : x ∈ pk A b ↔ ∃ i, i < A.length ∧ b.testBit i = true ∧ A[i]? = some x := by
  unfold pk pkN
  rw [List.mem_filterMap]
  constructor
  · rintro ⟨i, hi, h⟩
    rw [List.mem_range] at hi
    cases q : b.testBit i with
    | true => rw [q, if_pos rfl] at h; exact ⟨i, hi, q, h⟩
    | false => rw [q] at h; cases h
  · rintro ⟨i, hi, q, h⟩
    exact ⟨i, List.mem_range.2 hi, by rw [q, if_pos rfl]; exact h⟩
theorem testBit_clr {b i j : Nat} (h : b.testBit i = true) : (b - 2 ^ i).testBit j = (b.testBit j && decide (j ≠ i)) := by
  have hr : b % 2 ^ i < 2 ^ i := Nat.mod_lt _ (Nat.two_pow_pos i)
  have hb : b = 2 ^ i * (b / 2 ^ i) + b % 2 ^ i := (Nat.div_add_mod b (2 ^ i)).symm
  have ho : (b / 2 ^ i) % 2 = 1 := by rwa [Nat.testBit_eq_decide_div_mod_eq, decide_eq_true_eq] at h
  generalize b / 2 ^ i = a at *
  generalize b % 2 ^ i = r at *
  obtain ⟨c, hc⟩ : ∃ c, a = 2 * c + 1 := ⟨a / 2, by omega⟩
  have hs : b - 2 ^ i = 2 ^ i * (2 * c) + r := by
    rw [hb, hc, Nat.mul_add, Nat.mul_one]
    generalize 2 ^ i * (2 * c) = z
    omega
  rw [hs, hb, hc, Nat.testBit_two_pow_mul_add _ hr, Nat.testBit_two_pow_mul_add _ hr]
  by_cases q : j < i
  · rw [if_pos q, if_pos q]
    have : j ≠ i := by omega
    simp [this]
  · rw [if_neg q, if_neg q]
    by_cases e : j = i
    · subst e; simp
    · obtain ⟨m, hm⟩ : ∃ m, j - i = m + 1 := ⟨j - i - 1, by omega⟩
      rw [hm, Nat.testBit_succ, Nat.testBit_succ, show 2 * c / 2 = c by omega, show (2 * c + 1) / 2 = c by omega]
      simp [e]
/-- Under each mask that suffices there is a least one. -/
theorem least_under (g : Nat → Bool) (n : Nat) : ∀ b : Nat, g b = true → ∃ c, c ≤ b ∧ g c = true ∧ lsB g n c = false ∧ ∀ j, c.testBit j = true → b.testBit j = true := by
  intro b
  induction b using Nat.strongRecOn with
  | _ b ih =>
    intro hb
    cases hl : lsB g n b with
    | false => exact ⟨b, Nat.le_refl _, hb, hl, fun j h => h⟩
    | true =>
      unfold lsB at hl
      obtain ⟨i, hi, h⟩ := List.any_eq_true.1 hl
      rw [Bool.and_eq_true] at h
      have hlt : b - 2 ^ i < b := by
        have h1 : 0 < b := by
          rcases Nat.eq_zero_or_pos b with e | e
          · subst e; simp at h
          · exact e
        have h2 : 0 < 2 ^ i := Nat.two_pow_pos i
        omega
      obtain ⟨c, c1, c2, c3, c4⟩ := ih _ hlt h.2
      exact ⟨c, by omega, c2, c3, fun j hj => by
        have := c4 j hj
        rw [testBit_clr h.1, Bool.and_eq_true] at this
        exact this.1⟩
theorem mask_ex (p : Nat → Bool) : ∀ n : Nat, ∃ b, b < 2 ^ n ∧ ∀ i, i < n → b.testBit i = p i
  | 0 => ⟨0, by simp, fun i h => by omega⟩
  | n + 1 => by
    obtain ⟨b, h1, h2⟩ := mask_ex p n
    cases q : p n with
    | false =>
      refine ⟨b, by rw [Nat.pow_succ]; omega, fun i hi => ?_⟩
      by_cases e : i = n
      · subst e; rw [q]; exact Nat.testBit_lt_two_pow h1
      · exact h2 i (by omega)
    | true =>
      refine ⟨2 ^ n * 1 + b, by rw [Nat.pow_succ]; omega, fun i hi => ?_⟩
      rw [Nat.testBit_two_pow_mul_add _ h1]
      by_cases e : i = n
      · subst e; rw [if_neg (by omega), q, Nat.sub_self]; rfl
      · rw [if_pos (by omega)]; exact h2 i (by omega)
theorem mem_lm {g : Nat → Bool} {n N b : Nat} : b ∈ lmN g n N ↔ b < N ∧ g b = true ∧ lsB g n b = false := by
  unfold lmN
  rw [List.mem_filter, List.mem_range, Bool.and_eq_true, Bool.not_eq_true']
theorem wiL_iff {a b : List Role} : wiL a b = true ↔ ∀ x ∈ a, x ∈ b := by
  unfold wiL
  rw [List.all_eq_true]
  exact ⟨fun h x hx => by simpa using h x hx, fun h x hx => by simpa using h x hx⟩
section
variable {f : Fo} {A : List Role} (hA : ∀ r ∈ f.atoms, r ∈ A)
include hA
/-- Whatever suffices has a least set within it, and only that. -/
theorem least_has (l : List Role) : suF f l = (lmN (fun b => suF f (pk A b)) A.length (2 ^ A.length)).any fun b => wiL (pk A b) l := by
  rw [Bool.eq_iff_iff, List.any_eq_true]
  constructor
  · intro h
    obtain ⟨b0, h1, h2⟩ := mask_ex (fun i => match A[i]? with | some x => decide (x ∈ l) | none => false) A.length
    have hg : suF f (pk A b0) = true := suF_mono (fun r hr hl => by
      obtain ⟨i, hi⟩ := List.getElem?_of_mem (hA r hr)
      have hlt : i < A.length := (List.getElem?_eq_some_iff.1 hi).1
      exact mem_pk.2 ⟨i, hlt, by rw [h2 i hlt, hi]; simpa using hl, hi⟩) h
    obtain ⟨c, c1, c2, c3, c4⟩ := least_under (fun b => suF f (pk A b)) A.length b0 hg
    refine ⟨c, mem_lm.2 ⟨by omega, c2, c3⟩, wiL_iff.2 fun x hx => ?_⟩
    obtain ⟨i, hi, hb, hx2⟩ := mem_pk.1 hx
    have := h2 i hi
    rw [c4 i hb, hx2] at this
    simpa using this.symm
  · rintro ⟨b, hb, hw⟩
    exact suF_mono (fun r _ hr => wiL_iff.1 hw r hr) (mem_lm.1 hb).2.1
end
/-- None of the least sets is within another one. -/
theorem least_anti {f : Fo} {A : List Role} (hn : A.Nodup) {b1 b2 : Nat} (h1 : b1 ∈ lmN (fun b => suF f (pk A b)) A.length (2 ^ A.length)) (h2 : b2 ∈ lmN (fun b => suF f (pk A b)) A.length (2 ^ A.length)) (hne : b1 ≠ b2) : wiL (pk A b1) (pk A b2) = false := by
  rw [Bool.eq_false_iff]
  intro hw
  rw [wiL_iff] at hw
  obtain ⟨p1, p2, p3⟩ := mem_lm.1 h1
  obtain ⟨q1, q2, q3⟩ := mem_lm.1 h2
  have sub : ∀ i, b1.testBit i = true → b2.testBit i = true ∧ i < A.length := fun i hi => by
    have hlt : i < A.length := by
      rcases Nat.lt_or_ge i A.length with h | h
      · exact h
      · rw [Nat.testBit_lt_two_pow (Nat.lt_of_lt_of_le p1 (Nat.pow_le_pow_right (by decide) h))] at hi; cases hi
    obtain ⟨i', hi', hb', hx'⟩ := mem_pk.1 (hw A[i] (mem_pk.2 ⟨i, hlt, hi, List.getElem?_eq_getElem hlt⟩))
    rw [List.getElem?_eq_getElem hi', Option.some.injEq] at hx'
    obtain rfl : i' = i := (List.getElem_inj hn).1 hx'
    exact ⟨hb', hlt⟩
  obtain ⟨i, hi⟩ : ∃ i, b1.testBit i ≠ b2.testBit i := by
    refine Classical.byContradiction fun h => hne (Nat.eq_of_testBit_eq fun i => ?_)
    exact Classical.byContradiction fun q => h ⟨i, q⟩
  have hb2 : b2.testBit i = true := by
    cases q : b2.testBit i with
    | true => rfl
    | false =>
      rw [q] at hi
      have := (sub i (by simpa using hi)).1
      rw [q] at this; cases this
  have hb1 : b1.testBit i = false := by rw [hb2] at hi; simpa using hi
  have hlt : i < A.length := by
    rcases Nat.lt_or_ge i A.length with h | h
    · exact h
    · rw [Nat.testBit_lt_two_pow (Nat.lt_of_lt_of_le q1 (Nat.pow_le_pow_right (by decide) h))] at hb2; cases hb2
  have hg : suF f (pk A (b2 - 2 ^ i)) = true := suF_mono (fun r _ hr => by
    obtain ⟨i', hi', hb', hx'⟩ := mem_pk.1 hr
    refine mem_pk.2 ⟨i', hi', ?_, hx'⟩
    rw [testBit_clr hb2, (sub i' hb').1]
    have : i' ≠ i := fun e => by subst e; rw [hb1] at hb'; cases hb'
    simp [this]) p2
  have : lsB (fun b => suF f (pk A b)) A.length b2 = true := by
    unfold lsB
    exact List.any_eq_true.2 ⟨i, List.mem_range.2 hlt, by rw [hb2, Bool.true_and]; exact hg⟩
  rw [q3] at this
  cases this
theorem pkN_sub (l : List Role) (b : Nat) : ∀ j, j ≤ l.length → (pkN l b j).Sublist (l.take j)
  | 0, _ => by simp [pkN]
  | j + 1, h => by
    rw [pkN_succ l b j (by omega), ← List.take_append_getElem (by omega : j < l.length)]
    refine (pkN_sub l b j (by omega)).append ?_
    split
    · exact List.Sublist.refl _
    · exact List.nil_sublist _
end Go.Proofs.YtcihjohgmhebiaaGreat

namespace Go.Proofs.YtcihjohgmhebiaaGreat
set_option linter.unusedSimpArgs false
set_option linter.unusedVariables false
open Go Go.RowKit
theorem lm_nodup (g : Nat → Bool) (n N : Nat) : (lmN g n N).Nodup := by
  unfold lmN
  exact (List.filter_sublist (p := _)).nodup List.nodup_range
theorem lm_pair {g : Nat → Bool} {n N b c : Nat} (hn : 0 < n) (h1 : b ∈ lmN g n N) (h2 : c ∈ lmN g n N) (h : b / 2 = c / 2) : b = c := by
  have key : ∀ {x y : Nat}, x ∈ lmN g n N → y ∈ lmN g n N → y = x + 1 → x % 2 = 0 → False := fun {x y} hx hy e he => by
    obtain ⟨_, x2, _⟩ := mem_lm.1 hx
    obtain ⟨_, _, y3⟩ := mem_lm.1 hy
    have : lsB g n y = true := by
      unfold lsB
      refine List.any_eq_true.2 ⟨0, List.mem_range.2 hn, ?_⟩
      rw [Nat.pow_zero, show y - 1 = x by omega, x2, Bool.and_true, Nat.testBit_zero, decide_eq_true_eq]
      omega
    rw [y3] at this
    cases this
  rcases Nat.lt_trichotomy b c with q | q | q
  · exact (key h1 h2 (by omega) (by omega)).elim
  · exact q
  · exact (key h2 h1 (by omega) (by omega)).elim
theorem lm_half (g : Nat → Bool) (n : Nat) : (lmN g (n + 1) (2 ^ (n + 1))).length ≤ 2 ^ n := by
  have hnd : ((lmN g (n + 1) (2 ^ (n + 1))).map (· / 2)).Nodup := by
    rw [List.nodup_iff_pairwise_ne, List.pairwise_map]
    have := List.nodup_iff_pairwise_ne.1 (lm_nodup g (n + 1) (2 ^ (n + 1)))
    exact this.imp_of_mem fun ha hb hne e => hne (lm_pair (by omega) ha hb e)
  have := List.Nodup.length_le_of_subset hnd (l₂ := List.range (2 ^ n)) fun x hx => by
    obtain ⟨b, hb, rfl⟩ := List.mem_map.1 hx
    have h1 := (mem_lm.1 hb).1
    rw [List.mem_range]
    rw [Nat.pow_succ] at h1
    omega
  simpa using this
end Go.Proofs.YtcihjohgmhebiaaGreat

namespace Go.Proofs.YtcihjohgmhebiaaGreat
set_option linter.unusedSimpArgs false
set_option linter.unusedVariables false
open Go Go.RowKit
end Go.Proofs.YtcihjohgmhebiaaGreat

namespace Go.Proofs.YtcihjohgmhebiaaGreat
set_option linter.unusedSimpArgs false
set_option linter.unusedVariables false
open Go Go.RowKit
end Go.Proofs.YtcihjohgmhebiaaGreat

namespace Go.Proofs.YtcihjohgmhebiaaGreat
set_option linter.unusedSimpArgs false
set_option linter.unusedVariables false
open Go Go.RowKit
theorem well_parts {op k : Int} {r : Role} {kids : List Fo} (h : (Fo.mk op k r kids).well = true) : nodeR op k r kids.length = true ∧ kids.length ≤ 8 ∧ ∀ x ∈ kids, x.well = true := by
  rw [Fo.well, Bool.and_eq_true, Bool.and_eq_true, decide_eq_true_eq, wellL_all, List.all_eq_true] at h
  exact ⟨h.1.1, h.1.2, h.2⟩
theorem node_op {op k : Int} {r : Role} {n : Nat} (h : nodeR op k r n = true) : (op = 1 ∧ roleR r = true ∧ n = 0 ∧ k = 0) ∨ ((op = 2 ∨ op = 3) ∧ r = ([], []) ∧ k = 0) ∨ (op = 4 ∧ r = ([], []) ∧ 0 ≤ k ∧ k ≤ (n : Int) ∧ 1 ≤ n) := by
  unfold nodeR at h
  split at h
  · rename_i o1
    simp only [Bool.and_eq_true, decide_eq_true_eq] at h
    exact .inl ⟨o1, h.1.1, h.1.2, h.2⟩
  · split at h
    · rename_i o2
      simp only [Bool.and_eq_true, decide_eq_true_eq] at h
      exact .inr (.inl ⟨o2, h.1, h.2⟩)
    · simp only [Bool.and_eq_true, decide_eq_true_eq] at h
      exact .inr (.inr ⟨h.1.1.1.1, h.1.1.1.2, h.1.1.2, h.1.2, h.2⟩)
end Go.Proofs.YtcihjohgmhebiaaGreat

namespace Go.Proofs.YtcihjohgmhebiaaGreat
set_option linter.unusedSimpArgs false
set_option linter.unusedVariables false
open Go Go.RowKit
@[go_sem] theorem roleEq_self (x : Role) : roleEq x x = true := by rw [roleEq_eq]; simp
end Go.Proofs.YtcihjohgmhebiaaGreat

namespace Go.Proofs.YtcihjohgmhebiaaGreat.Rg4
set_option linter.unusedSimpArgs false
set_option linter.unusedVariables false
open Go Go.Proofs.YtcihjohgmhebiaaGreat.Rg
section
variable (P : Program) (ops : Array Oper) (T : Array Nat) (Rel : World → World → Prop) (ld : Nat → Bool) (Cl : World → Prop) (kd : Nat → Kd) (Q : Exit → Act → World → Prop)
/-- The walk up to a fork. -/
def wp5 (E : World → Facts → Act → Prop) : List (Nat × Oper) → World → Facts → Act → Prop
  | [], w0, F, a => E w0 F a
  | (k, o) :: rest, w0, F, a =>
    if Region.wanted o (yielded ops a.tmps) = true then
      match kd k with
      | .none => ∃ c, (∀ w, (ld k = true → Rel w0 w) → Cl w → stillAt P o a w c) ∧ wp5 E rest w0 F (a.put o.dst c)
      | .some (.some S) => (∀ w, Rel w0 w → Cl w → Pre ops T F k w → relAt P o a w (fun v w' => Rel w w' ∧ Cl w' ∧ S v w')) ∧
          ∀ v, (∃ w, Rel w0 w ∧ Cl w ∧ S v w) → wp5 E rest w0 (upd F k (S v)) (a.put o.dst v)
      | .some .none => ∀ w, Rel w0 w → Cl w → All F w → o.wp P a w (fun a' w' => Cl w' ∧ wp5 E rest w' none a') Q ∨ (o.asks P a w ∧ LetsOut Q)
    else wp5 E rest w0 F (a.put o.dst undef)
end
section
variable {P : Program} {ops : Array Oper} {T : Array Nat} {Rel : World → World → Prop} {ld : Nat → Bool} {Cl : World → Prop} {kd : Nat → Kd} {Q : Exit → Act → World → Prop}
section steps
variable {E : World → Facts → Act → Prop} {w0 : World} {o : Oper} {rest : List (Nat × Oper)} {k : Nat} {F : Facts} {a : Act}
end steps
end
section
open Go.RowKit
variable {fr al : Nat → Prop} {w0 w : World} {L : List It}
variable {P : Program} {ops : Array Oper} {T : Array Nat} {ld : Nat → Bool} {Cl : World → Prop} {kd : Nat → Kd} {Q : Exit → Act → World → Prop}
end
attribute [irreducible] wp5
end Go.Proofs.YtcihjohgmhebiaaGreat.Rg4

namespace Go.Proofs.YtcihjohgmhebiaaGreat.Rg4
set_option linter.unusedSimpArgs false
set_option linter.unusedVariables false
open Go Go.Proofs.YtcihjohgmhebiaaGreat.Rg
section
variable (P : Program) (ops : Array Oper) (T : Array Nat) (Rel : World → World → Prop) (ld : Nat → Bool) (Cl : World → Prop) (kd : Nat → Kd) (Q : Exit → Act → World → Prop)
end
section
variable {P : Program} {ops : Array Oper} {T : Array Nat} {Rel : World → World → Prop} {ld : Nat → Bool} {Cl : World → Prop} {kd : Nat → Kd} {Q : Exit → Act → World → Prop}
end
end Go.Proofs.YtcihjohgmhebiaaGreat.Rg4

namespace Go.Proofs.YtcihjohgmhebiaaGreat
set_option linter.unusedSimpArgs false
set_option linter.unusedVariables false
open Go Go.RowKit
section
variable {fr al : Nat → Prop} {w0 w : World} {L : List It}
theorem Own.mkFm (st : Own fr al w0 L w) {i j n : Nat} {a : Option Addr} {l : List Fm} (hi : L[i]? = some (flI a n l)) (hj : L[j]? = some (fmsI l)) (op k : Int) (r : Role) (c : Nat) (hc : n ≤ c ∧ c ≤ maxLen) : Own fr al w0 (L ++ [fmI (.mk op k r a n c l)]) w :=
  st.share2 hi hj fun e s e2 s2 h1 h2 => FmIn.mk hc h1.1 (fun h0 ad e => .inl (h1.2 h0 ad e)) fun x hx => FmIn.to (h2 x hx) (fun _ => .inr)
end
end Go.Proofs.YtcihjohgmhebiaaGreat

namespace Go.Proofs.YtcihjohgmhebiaaGreat
set_option linter.unusedSimpArgs false
set_option linter.unusedVariables false
open Go Go.RowKit
end Go.Proofs.YtcihjohgmhebiaaGreat

namespace Go.Proofs.YtcihjohgmhebiaaGreat
set_option linter.unusedSimpArgs false
set_option linter.unusedVariables false
open Go Go.RowKit
theorem foR_parts {f : Fo} (h : foR f = true) : f.nodes ≤ 64 ∧ f.deep ≤ 6 ∧ f.well = true := by
  unfold foR at h
  rw [Bool.and_eq_true, Bool.and_eq_true, decide_eq_true_eq, decide_eq_true_eq] at h
  exact ⟨h.1.1, h.1.2, h.2⟩
end Go.Proofs.YtcihjohgmhebiaaGreat

namespace Go.Proofs.YtcihjohgmhebiaaGreat
set_option linter.unusedSimpArgs false
set_option linter.unusedVariables false
open Go Go.RowKit Go.Sort Go.Lib Go.Shelf
def setLe (x y : List Role) : Bool := !(ltOf cmpSet) y x
theorem setTot (x y : List Role) (h1 : setLe x y = true) (h2 : setLe y x = true) : x = y := by
  unfold setLe at *
  simp only [Bool.not_eq_true', Bool.eq_false_iff, Ne, seLt_is] at h1 h2
  unfold seLt at *
  have e : x.length = y.length := by omega
  rcases rsLt_tri x y with q | q | q
  · exact (h2 (.inr ⟨e, q⟩)).elim
  · exact q
  · exact (h1 (.inr ⟨e.symm, q⟩)).elim
def setSort (l : List (List Role)) : List (List Role) := l.mergeSort setLe
theorem setSort_perm (l : List (List Role)) : (setSort l).Perm l := List.mergeSort_perm l _
theorem setSort_pw (l : List (List Role)) : (setSort l).Pairwise fun x y => setLe x y = true :=
  List.pairwise_mergeSort (le := setLe) (fun a b c h1 h2 => by
    unfold setLe at *
    simp only [Bool.not_eq_true'] at *; exact setSwo.ntrans _ _ _ h2 h1) (fun a b => by
    unfold setLe
    cases h : ltOf cmpSet b a with
    | false => rfl
    | true => cases h2 : ltOf cmpSet a b with
      | false => rfl
      | true => have := setSwo.trans _ _ _ h h2; rw [setSwo.irrefl] at this; cases this) l
theorem setSort_is {l m : List (List Role)} (hp : m.Perm l) (hs : m.Pairwise fun x y => setLe x y = true) : m = setSort l :=
  List.Perm.eq_of_pairwise (le := fun x y => setLe x y = true) (fun a b _ _ h1 h2 => setTot a b h1 h2) hs (setSort_pw l) (hp.trans (setSort_perm l).symm)
/-- The masks of the least sets of a formula. -/
def mskF (f : Fo) : List Nat := lmN (fun b => suF f (pk (roleSet f.atoms) b)) (roleSet f.atoms).length (2 ^ (roleSet f.atoms).length)
def leastE (f : Fo) : Int := if foR f = true then (if 12 < (roleSet f.atoms).length ∨ 128 < (mskF f).length then 12 else 0) else 11
def lsS (f : Fo) : List (List Role) := setSort ((mskF f).map (pk (roleSet f.atoms)))
/-- What Least answers. -/
def lsL (f : Fo) : List (List Role) := if leastE f = 0 then lsS f else []
theorem lsL_no {f : Fo} (h : leastE f ≠ 0) : lsL f = [] := by unfold lsL; rw [if_neg h]
theorem lsL_yes {f : Fo} (h : leastE f = 0) : lsL f = lsS f := by unfold lsL; rw [if_pos h]
theorem leastE_no {f : Fo} (h : foR f = false) : leastE f = 11 := by unfold leastE; rw [h]; rfl
theorem leastE_long {f : Fo} (h : foR f = true) (h2 : 12 < (roleSet f.atoms).length ∨ 128 < (mskF f).length) : leastE f = 12 := by unfold leastE; rw [if_pos h, if_pos h2]
theorem leastE_ok {f : Fo} (h : foR f = true) (h1 : (roleSet f.atoms).length ≤ 12) (h2 : (mskF f).length ≤ 128) : leastE f = 0 := by unfold leastE; rw [if_pos h, if_neg (by omega)]
theorem lsS_len (f : Fo) : (lsS f).length = (mskF f).length := by unfold lsS setSort; simp
theorem lm_le (g : Nat → Bool) (n : Nat) (hn : n ≤ 8) : (lmN g n (2 ^ n)).length ≤ 128 := by
  cases n with
  | zero => exact Nat.le_trans (lmN_len g 0 _) (by decide)
  | succ n => exact Nat.le_trans (lm_half g n) (Nat.le_trans (Nat.pow_le_pow_right (by decide) (by omega : n ≤ 7)) (by decide))
theorem mskF_le (f : Fo) (h : (roleSet f.atoms).length ≤ 8) : (mskF f).length ≤ 128 := lm_le _ _ h
theorem roleSet_mem {l : List Role} {r : Role} (h : r ∈ l) (hr : roleR r = true) : r ∈ roleSet l := ((roleSet_set l).2 r).2 ⟨h, hr⟩
theorem well_atoms (f : Fo) : f.well = true → ∀ r ∈ f.atoms, roleR r = true := by
  refine Fo.ind (P := fun f => f.well = true → ∀ r ∈ f.atoms, roleR r = true) (fun op k r kids ih => ?_) f
  intro h x hx
  obtain ⟨h1, h2, h3⟩ := well_parts h
  rw [Fo.atoms] at hx
  by_cases o : op = 1
  · rw [if_pos o, List.mem_singleton] at hx
    subst hx
    rcases node_op h1 with q | q | q
    · exact q.2.1
    · omega
    · omega
  · rw [if_neg o] at hx
    clear h h1 h2
    induction kids with
    | nil => simp [atomsL] at hx
    | cons y l ihl =>
      rw [atomsL, List.mem_append] at hx
      rcases hx with q | q
      · exact ih y (by simp) (h3 y (by simp)) x q
      · exact ihl (fun z hz => ih z (by simp [hz])) q (fun z hz => h3 z (by simp [hz]))
theorem foR_atoms {f : Fo} (h : foR f = true) : ∀ r ∈ f.atoms, r ∈ roleSet f.atoms := fun r hr => roleSet_mem hr (well_atoms f (foR_parts h).2.2 r hr)
theorem roleSet_nodup (l : List Role) : (roleSet l).Nodup := by
  have h := (roleSet_set l).1
  rw [List.nodup_iff_pairwise_ne]
  exact h.imp fun {a b} q e => by subst e; rw [(roleOrd roleR).irr] at q; cases q
section
variable {f : Fo}
theorem lsS_mem {z : List Role} : z ∈ lsS f ↔ ∃ b ∈ mskF f, pk (roleSet f.atoms) b = z := by
  unfold lsS
  rw [(setSort_perm _).mem_iff, List.mem_map]
/-- None within another one. -/
theorem lsS_anti : (lsS f).Pairwise fun a b => wiL a b = false ∧ wiL b a = false := by
  refine List.Perm.pairwise (l := (mskF f).map (pk (roleSet f.atoms))) (setSort_perm _).symm ?_ (fun h => ⟨h.2, h.1⟩)
  rw [List.pairwise_map]
  exact (List.nodup_iff_pairwise_ne.1 (lm_nodup _ _ _)).imp_of_mem fun ha hb hne => ⟨least_anti (roleSet_nodup _) ha hb hne, least_anti (roleSet_nodup _) hb ha (Ne.symm hne)⟩
theorem lsS_anti' {i j : Nat} {a b : List Role} (hi : (lsS f)[i]? = some a) (hj : (lsS f)[j]? = some b) (hne : i ≠ j) : wiL a b = false := by
  have h := List.pairwise_iff_getElem.1 (lsS_anti (f := f))
  obtain ⟨h1, rfl⟩ := List.getElem?_eq_some_iff.1 hi
  obtain ⟨h2, rfl⟩ := List.getElem?_eq_some_iff.1 hj
  rcases Nat.lt_or_gt_of_ne hne with q | q
  · exact (h i j h1 h2 q).1
  · exact (h j i h2 h1 q).2
/-- Whatever suffices has one within it, and only that. -/
theorem lsS_has (h : foR f = true) (l : List Role) : suF f l = (lsS f).any fun z => wiL z l := by
  rw [least_has (foR_atoms h) l]
  unfold lsS
  rw [(setSort_perm _).any_eq, List.any_map]
  rfl
theorem lsS_len2 {z : List Role} (h : z ∈ lsS f) : z.length ≤ (roleSet f.atoms).length := by
  obtain ⟨b, hb, rfl⟩ := lsS_mem.1 h
  exact pkN_len _ _ _
end
section
variable {fr al : Nat → Prop} {w0 w : World} {L : List It}
theorem sortSets_s (st : Own fr al w0 L w) (i k : Nat) {n c : Nat} {a : Option Addr} {xs : List RsT} (hi : L[i]? = some (rowI 27 1 (.slice a n c) n (cellsL xs))) (hk : L[k]? = some (rssI xs)) (hik : i ≠ k) (hn : n ≤ 2000000) (hl : ∀ x ∈ xs, x.n ≤ 2000000) :
    Calls Tryz.prog 26 #[.slice a n c, .func (.func 27) #[] #[]] w fun e w' => e = .returned (.tuple #[]) ∧ ∃ ys : List RsT, (ys.map (·.xs) = setSort (xs.map (·.xs)) ∧ ∀ y ∈ ys, y ∈ xs) ∧ Own fr al w0 (L.set i (rowI 27 1 (.slice a n c) n (cellsL ys))) w' := by
  have hlen : xs.length = n := by
    have := (st.row hi).1
    have e := cellsL_len xs
    rw [show Flt.k RsT = 1 from rfl] at e
    omega
  rcases Nat.eq_zero_or_pos n with h0 | h0
  · subst h0
    have hx : xs = [] := List.eq_nil_of_length_eq_zero hlen
    subst hx
    refine (AnyF.slices_SortFunc_none (P := Tryz.prog) (ρ := Tryz.sortSets_ren) { Tryz.sortSets with } a c _ w).mono ?_
    rintro e w' ⟨rfl, rfl⟩
    refine ⟨rfl, [], ⟨by unfold setSort; simp, by simp⟩, ?_⟩
    have : L.set i (rowI 27 1 (.slice a 0 c) 0 (cellsL ([] : List RsT))) = L := by
      apply List.ext_getElem?
      intro q
      rw [List.getElem?_set]
      split
      · rename_i h; subst h; rw [hi, if_pos (get_lt hi)]
      · rfl
    rw [this]; exact st
  obtain ⟨g, cap', hv, hcap, _⟩ := st.rowAt hi h0
  injection hv with hv1 hv2 hv3
  subst hv1 hv3
  have hne : xs ≠ [] := fun e => by subst e; simp at hlen; omega
  haveI : Inhabited (RsS xs) := ⟨⟨xs.head hne, List.head_mem hne⟩⟩
  have hS := fun (ys : Array (RsS xs)) (hy : ys.size = n) m os => st.sorted1 (encS (xs := xs)) hi hy m os
  have hH := st.holdsK (α := RsT) (xs := xs) hi
  have hsz : xs.attach.toArray.size = n := by simp [hlen]
  have hHo : Holds (encS (xs := xs)) w g 0 xs.attach.toArray := fun j hj => by
    have h := hH.1
    unfold HoldsK at h
    rw [flat_eq'] at h
    have hj2 : j < (cellsL xs).toArray.size := by rw [sets_cells]; simpa using hj
    obtain ⟨q1, q2⟩ := h j hj2
    refine ⟨?_, q2⟩
    rw [q1, getElem!_pos (cellsL xs).toArray j hj2, getElem!_pos xs.attach.toArray j hj]
    simp [sets_cells]
  have hcmp : CmpLays1 Tryz.prog 27 #[] (encS (xs := xs)) (fun x y => cmpSet x.1.xs y.1.xs) g 0 xs.attach.toArray.size w := fun m os dk hs x y => by
    have hr := (hS dk (hs.trans hsz) m os).rss (i := k) (by rw [List.getElem?_set_ne hik]; exact hk)
    obtain ⟨_, f1⟩ := hr x.1 x.2
    obtain ⟨_, f2⟩ := hr y.1 y.2
    exact (setsCompare_any x.1.a x.1.n x.1.c x.1.xs y.1.a y.1.n y.1.c y.1.xs _ f1 f2 (hl _ x.2) (hl _ y.2)).mono fun e w' h => ⟨h.1, h.2.grow⟩
  have hcon := Any.slices_SortFunc Tryz.sortSets (encS (xs := xs)) (fun _ => rfl) (fun x y => cmpSet x.1.xs y.1.xs) (subSwo xs) 27 #[] g 0 c xs.attach.toArray w sets67 hcmp hHo hH.2 (by omega)
  change Calls Tryz.prog 26 _ _ _ at hcon
  rw [hsz] at hcon
  refine hcon.mono ?_
  rintro e w' ⟨rfl, d', m, os, hp, hso, rfl⟩
  have hd : d'.size = n := hp.1.trans hsz
  refine ⟨rfl, d'.toList.map (·.1), ⟨setSort_is ?_ ?_, ?_⟩, ?_⟩
  · have h2 := hp.2.2
    rw [Array.extract_eq_self_of_le (by omega), Array.extract_eq_self_of_le (by omega)] at h2
    have h3 := (h2.map (·.1)).map (·.xs)
    simpa using h3
  · rw [List.pairwise_map, List.pairwise_map, List.pairwise_iff_getElem]
    intro p q hp1 hq1 hpq
    have h4 := hso p q (Nat.zero_le _) hpq (by simpa [hd] using hq1)
    rw [getElem!_pos d' q (by simpa using hq1), getElem!_pos d' p (by simpa using hp1)] at h4
    unfold setLe
    rw [Array.getElem_toList, Array.getElem_toList, Bool.not_eq_true']
    exact h4
  · intro y hy
    obtain ⟨z, _, rfl⟩ := List.mem_map.1 hy
    exact z.2
  · have e : cellsL (d'.toList.map (·.1)) = d'.toList.map (encS (xs := xs)) := by rw [rs_cells, List.map_map]; rfl
    rw [e]
    exact hS d' hd m os
end
end Go.Proofs.YtcihjohgmhebiaaGreat

namespace Go.Proofs.YtcihjohgmhebiaaGreat
set_option linter.unusedSimpArgs false
set_option linter.unusedVariables false
open Go Go.RowKit
def upR (s : List Role) (r : Role) : Bool :=
  match s.getLast? with
  | none => true
  | some x => roleLt x r
def exR (A s : List Role) : List (List Role) := (A.filter fun r => upR s r).map fun r => s ++ [r]
/-- One set of a level: what is found so far, and the next level. -/
def lvS (g : List Role → Bool) (A : List Role) (q : List (List Role) × List (List Role)) (s : List Role) : List (List Role) × List (List Role) :=
  if q.1.any (fun o => wiL o s) = true then q else if g s = true then (q.1 ++ [s], q.2) else (q.1, q.2 ++ exR A s)
def lvl (g : List Role → Bool) (A : List Role) (q : List (List Role) × List (List Role)) : List (List Role) × List (List Role) := q.2.foldl (lvS g A) (q.1, [])
/-- A set of these roles, rising. -/
def RisS (A : List Role) (k : Nat) (s : List Role) : Prop := s.length = k ∧ s.Pairwise (fun a b => roleLt a b = true) ∧ ∀ x ∈ s, x ∈ A
structure MinS (g : List Role → Bool) (A : List Role) (M : List (List Role)) : Prop where
  has : ∀ l, g l = M.any fun z => wiL z l
  anti : ∀ a ∈ M, ∀ b ∈ M, wiL a b = true → a = b
  ris : ∀ z ∈ M, RisS A z.length z
  ok : ∀ x ∈ A, roleR x = true
theorem ris_nodup {A s : List Role} {k : Nat} (h : RisS A k s) : s.Nodup := by
  rw [List.nodup_iff_pairwise_ne]
  exact h.2.1.imp fun {a b} q e => by subst e; rw [(roleOrd roleR).irr] at q; cases q
theorem ris_eq {A z s : List Role} {k m : Nat} (hA : ∀ x ∈ A, roleR x = true) (hz : RisS A k z) (hs : RisS A m s) (h : wiL z s = true) (hk : m ≤ k) : z = s := by
  have hsub := wiL_iff.1 h
  have hback : ∀ x ∈ s, x ∈ z := fun x hx => by
    refine Classical.byContradiction fun hn => ?_
    have h1 : (x :: z).Nodup := List.nodup_cons.2 ⟨hn, ris_nodup hz⟩
    have h2 := List.Nodup.length_le_of_subset h1 (l₂ := s) fun y hy => by
      rcases List.mem_cons.1 hy with e | e
      · rw [e]; exact hx
      · exact hsub y e
    have h3 := hz.1
    have h4 := hs.1
    rw [List.length_cons] at h2
    omega
  exact SSet.uniq (roleOrd roleR) (l := s) ⟨hz.2.1, fun x => ⟨fun q => ⟨hsub x q, hA x (hz.2.2 x q)⟩, fun q => hback x q.1⟩⟩ ⟨hs.2.1, fun x => ⟨fun q => ⟨q, hA x (hs.2.2 x q)⟩, fun q => q.1⟩⟩
structure LvI (A : List Role) (M : List (List Role)) (k : Nat) (q : List (List Role) × List (List Role)) (done : List (List Role)) : Prop where
  sub : ∀ o ∈ q.1, o ∈ M
  nd : q.1.Nodup
  low : ∀ z ∈ M, z.length < k → z ∈ q.1
  hit : ∀ z ∈ M, z ∈ done → z ∈ q.1
  ris : ∀ s ∈ q.2, RisS A (k + 1) s
  nxt : ∀ z ∈ M, k + 1 ≤ z.length → z.take k ∈ done → z.take (k + 1) ∈ q.2
theorem wiL_self (s : List Role) : wiL s s = true := wiL_iff.2 fun _ h => h
theorem take_short {A z : List Role} {k m : Nat} (hz : RisS A m z) (h : wiL z (z.take k) = true) : z.length ≤ k := by
  have := List.Nodup.length_le_of_subset (ris_nodup hz) (wiL_iff.1 h)
  rw [List.length_take] at this
  omega
theorem lvS_ok {g : List Role → Bool} {A : List Role} {M : List (List Role)} (hM : MinS g A M) {k : Nat} {q : List (List Role) × List (List Role)} {done : List (List Role)} (h : LvI A M k q done) {s : List Role} (hs : RisS A k s) : LvI A M k (lvS g A q s) (done ++ [s]) := by
  unfold lvS
  split
  · rename_i hc
    obtain ⟨o, ho, hw⟩ := List.any_eq_true.1 hc
    refine ⟨h.sub, h.nd, h.low, fun z hz hd => ?_, h.ris, fun z hz hl hd => ?_⟩
    · rcases List.mem_append.1 hd with e | e
      · exact h.hit z hz e
      · rw [List.mem_singleton.1 e] at hz ⊢
        rw [← hM.anti o (h.sub o ho) s hz hw]; exact ho
    · rcases List.mem_append.1 hd with e | e
      · exact h.nxt z hz hl e
      · rw [← List.mem_singleton.1 e] at hw
        have hw2 : wiL o z = true := wiL_iff.2 fun x hx => List.mem_of_mem_take (wiL_iff.1 hw x hx)
        rw [hM.anti o (h.sub o ho) z hz hw2] at hw
        have := take_short (hM.ris z hz) hw
        omega
  · rename_i hc
    have hno : ∀ o ∈ q.1, wiL o s = false := fun o ho => by
      cases r : wiL o s with
      | false => rfl
      | true => exact (hc (List.any_eq_true.2 ⟨o, ho, r⟩)).elim
    have hsn : s ∉ q.1 := fun q1 => by have := hno s q1; rw [wiL_self] at this; cases this
    split
    · rename_i hg
      rw [hM.has] at hg
      obtain ⟨z0, hz0, hw0⟩ := List.any_eq_true.1 hg
      have hl0 : k ≤ z0.length := by
        refine Nat.le_of_not_lt fun ql => ?_
        have := hno z0 (h.low z0 hz0 ql)
        rw [hw0] at this; cases this
      have e0 : z0 = s := ris_eq hM.ok (hM.ris z0 hz0) hs hw0 hl0
      rw [e0] at hz0
      refine ⟨fun o ho => ?_, ?_, fun z hz hl => List.mem_append_left _ (h.low z hz hl), fun z hz hd => ?_, h.ris, fun z hz hl hd => ?_⟩
      · rcases List.mem_append.1 ho with e | e
        · exact h.sub o e
        · rw [List.mem_singleton.1 e]; exact hz0
      · rw [List.nodup_append]
        exact ⟨h.nd, by simp, fun a ha b hb e => hsn (by rw [List.mem_singleton.1 hb] at e; rw [← e]; exact ha)⟩
      · rcases List.mem_append.1 hd with e | e
        · exact List.mem_append_left _ (h.hit z hz e)
        · exact List.mem_append_right _ e
      · rcases List.mem_append.1 hd with e | e
        · exact h.nxt z hz hl e
        · have e2 := List.mem_singleton.1 e
          have hw2 : wiL s z = true := wiL_iff.2 fun x hx => List.mem_of_mem_take (i := k) (by rw [e2]; exact hx)
          have := hM.anti s hz0 z hz hw2
          have h3 := hs.1
          rw [this] at h3
          omega
    · rename_i hg
      have hsM : s ∉ M := fun qm => hg (by rw [hM.has]; exact List.any_eq_true.2 ⟨s, qm, wiL_self s⟩)
      refine ⟨h.sub, h.nd, h.low, fun z hz hd => ?_, fun t ht => ?_, fun z hz hl hd => ?_⟩
      · rcases List.mem_append.1 hd with e | e
        · exact h.hit z hz e
        · rw [List.mem_singleton.1 e] at hz; exact (hsM hz).elim
      · rcases List.mem_append.1 ht with e | e
        · exact h.ris t e
        · obtain ⟨r, hr, rfl⟩ := List.mem_map.1 e
          obtain ⟨hr1, hr2⟩ := List.mem_filter.1 hr
          refine ⟨by rw [List.length_append, hs.1]; rfl, ?_, fun x hx => ?_⟩
          · rw [List.pairwise_append]
            refine ⟨hs.2.1, by simp, fun a ha b hb => ?_⟩
            rw [List.mem_singleton.1 hb]
            rcases List.eq_nil_or_concat s with e3 | ⟨s1, y, e3⟩
            · rw [e3] at ha; cases ha
            · rw [List.concat_eq_append] at e3
              subst e3
              unfold upR at hr2
              rw [List.getLast?_append] at hr2
              simp at hr2
              rcases List.mem_append.1 ha with q1 | q1
              · exact (roleOrd roleR).tr _ _ _ ((List.pairwise_append.1 hs.2.1).2.2 a q1 y (by simp)) hr2
              · rw [List.mem_singleton.1 q1]; exact hr2
          · rcases List.mem_append.1 hx with q1 | q1
            · exact hs.2.2 x q1
            · rw [List.mem_singleton.1 q1]; exact hr1
      · rcases List.mem_append.1 hd with e | e
        · exact List.mem_append_left _ (h.nxt z hz hl e)
        · refine List.mem_append_right _ ?_
          have e2 := List.mem_singleton.1 e
          have hzk : k < z.length := by omega
          refine List.mem_map.2 ⟨z[k], List.mem_filter.2 ⟨(hM.ris z hz).2.2 _ (List.getElem_mem _), ?_⟩, ?_⟩
          · unfold upR
            cases hgl : s.getLast? with
            | none => rfl
            | some x =>
              have hp := (hM.ris z hz).2.1
              rw [← List.take_append_drop k z, List.pairwise_append] at hp
              refine hp.2.2 x ?_ z[k] ?_
              · rw [e2]; exact List.mem_of_getLast? hgl
              · rw [List.drop_eq_getElem_cons hzk]; exact List.mem_cons_self ..
          · rw [← e2]; exact List.take_append_getElem hzk
theorem lv_fold {g : List Role → Bool} {A : List Role} {M : List (List Role)} (hM : MinS g A M) {k : Nat} : ∀ (rest : List (List Role)) (q : List (List Role) × List (List Role)) (done : List (List Role)), LvI A M k q done → (∀ s ∈ rest, RisS A k s) → LvI A M k (rest.foldl (lvS g A) q) (done ++ rest)
  | [], q, done, h, _ => by rw [List.append_nil]; exact h
  | s :: rest, q, done, h, hr => by
    have := lv_fold hM rest _ _ (lvS_ok hM h (hr s (by simp))) fun t ht => hr t (by simp [ht])
    rw [List.append_assoc] at this
    exact this
structure LvO (A : List Role) (M : List (List Role)) (k : Nat) (q : List (List Role) × List (List Role)) : Prop where
  sub : ∀ o ∈ q.1, o ∈ M
  nd : q.1.Nodup
  low : ∀ z ∈ M, z.length < k → z ∈ q.1
  ris : ∀ s ∈ q.2, RisS A k s
  nxt : ∀ z ∈ M, k ≤ z.length → z.take k ∈ q.2
theorem lvO_start {g : List Role → Bool} {A : List Role} {M : List (List Role)} : LvO A M 0 ([], [[]]) :=
  ⟨by simp, by simp, fun z _ h => by omega, fun s hs => by rw [List.mem_singleton.1 hs]; exact ⟨rfl, List.Pairwise.nil, by simp⟩, fun z _ _ => by simp⟩
theorem lvO_step {g : List Role → Bool} {A : List Role} {M : List (List Role)} (hM : MinS g A M) {k : Nat} {q : List (List Role) × List (List Role)} (h : LvO A M k q) : LvO A M (k + 1) (lvl g A q) := by
  have h0 : LvI A M k (q.1, []) [] := ⟨h.sub, h.nd, h.low, fun z _ hd => by simp at hd, fun s hs => by simp at hs, fun z _ _ hd => by simp at hd⟩
  have h1 := lv_fold hM q.2 _ _ h0 h.ris
  rw [List.nil_append] at h1
  refine ⟨h1.sub, h1.nd, fun z hz hl => ?_, h1.ris, fun z hz hl => h1.nxt z hz hl (h.nxt z hz (by omega))⟩
  rcases Nat.lt_or_eq_of_le (Nat.le_of_lt_succ hl) with q1 | q1
  · exact h1.low z hz q1
  · refine h1.hit z hz ?_
    have := h.nxt z hz (by omega)
    rwa [List.take_of_length_le (by omega)] at this
/-- Where the level is empty, just the least sets are found. -/
theorem lvO_end {A : List Role} {M : List (List Role)} {k : Nat} {out : List (List Role)} (h : LvO A M k (out, [])) : ∀ z, z ∈ out ↔ z ∈ M := fun z => ⟨h.sub z, fun hz => by
  rcases Nat.lt_or_ge z.length k with q | q
  · exact h.low z hz q
  · have := h.nxt z hz q; simp at this⟩
theorem lvO_len {A : List Role} {M : List (List Role)} {k : Nat} {q : List (List Role) × List (List Role)} (h : LvO A M k q) (hk : A.length < k) : q.2 = [] := by
  refine List.eq_nil_iff_forall_not_mem.2 fun s hs => ?_
  have h1 := h.ris s hs
  have h2 := List.Nodup.length_le_of_subset (ris_nodup h1) h1.2.2
  have h3 := h1.1
  omega
theorem lsS_min {f : Fo} (h : foR f = true) : MinS (suF f) (roleSet f.atoms) (lsS f) where
  has := lsS_has h
  anti a ha b hb hw := by
    obtain ⟨i, hi⟩ := List.mem_iff_getElem?.1 ha
    obtain ⟨j, hj⟩ := List.mem_iff_getElem?.1 hb
    by_cases e : i = j
    · subst e; rw [hi] at hj; exact Option.some.inj hj
    · have := lsS_anti' hi hj e; rw [hw] at this; cases this
  ris z hz := by
    obtain ⟨b, _, rfl⟩ := lsS_mem.1 hz
    have hs := pkN_sub (roleSet f.atoms) b _ (Nat.le_refl _)
    rw [List.take_length] at hs
    exact ⟨rfl, List.Pairwise.sublist hs (roleSet_set _).1, fun x hx => hs.subset hx⟩
  ok x hx := (((roleSet_set f.atoms).2 x).1 hx).2
theorem lsS_nodup (f : Fo) : (lsS f).Nodup := by
  rw [List.nodup_iff_pairwise_ne]
  exact (lsS_anti (f := f)).imp fun {a b} q e => by subst e; rw [wiL_self] at q; cases q.1
/-- What the levels find, sorted, is what the package finds. -/
theorem lv_sorted {f : Fo} {out m : List (List Role)} (hn : out.Nodup) (ho : ∀ z, z ∈ out ↔ z ∈ lsS f) (hp : m.Perm out) (hs : m.Pairwise fun x y => setLe x y = true) : m = lsS f := by
  have hp2 : out.Perm (lsS f) := (List.perm_ext_iff_of_nodup hn (lsS_nodup f)).2 ho
  have e1 := setSort_is (hp.trans hp2) hs
  have e2 : lsS f = setSort (lsS f) := setSort_is (List.Perm.refl _) (setSort_pw _)
  rw [e1, ← e2]
end Go.Proofs.YtcihjohgmhebiaaGreat

namespace Go.Proofs.YtcihjohgmhebiaaGreat
set_option linter.unusedSimpArgs false
set_option linter.unusedVariables false
open Go Go.RowKit Go.Sort Go.Lib Go.Shelf
def lessS (a b : List Role) : Bool := ltOf cmpSet a b
theorem rsLt_no : ∀ p : List Role, ¬ rsLt p p
  | [] => fun h => h
  | x :: l => fun h => by
    rcases h with q | q
    · rw [(roleOrd (fun _ => true)).irr] at q; cases q
    · exact rsLt_no l q.2
theorem rsLt_at (x y : Role) (l m : List Role) (hne : x ≠ y) : ∀ p : List Role, rsLt (p ++ x :: l) (p ++ y :: m) ↔ roleLt x y = true
  | [] => ⟨fun h => h.elim id fun q => (hne q.1).elim, .inl⟩
  | z :: p => by
    have ih := rsLt_at x y l m hne p
    constructor
    · intro h
      rcases h with q | q
      · rw [(roleOrd (fun _ => true)).irr] at q; cases q
      · exact ih.1 q.2
    · exact fun h => .inr ⟨rfl, ih.2 h⟩
theorem lessS_len {a b : List Role} (h : a.length ≠ b.length) : lessS a b = decide (a.length < b.length) := by
  rw [Bool.eq_iff_iff, decide_eq_true_eq]
  unfold lessS
  rw [seLt_is]
  unfold seLt
  exact ⟨fun q => q.elim id fun q => (h q.1).elim, .inl⟩
theorem lessS_eq (a : List Role) : lessS a a = false := by
  rw [Bool.eq_false_iff, Ne]
  unfold lessS
  rw [seLt_is]
  unfold seLt
  rintro (q | q)
  · omega
  · exact rsLt_no a q.2
theorem lessS_at {a b : List Role} {j : Nat} {x y : Role} (hl : a.length = b.length) (ht : a.take j = b.take j) (hx : a[j]? = some x) (hy : b[j]? = some y) (hne : x ≠ y) : lessS a b = roleLt x y := by
  obtain ⟨h1, e1⟩ := List.getElem?_eq_some_iff.1 hx
  obtain ⟨h2, e2⟩ := List.getElem?_eq_some_iff.1 hy
  have ea : a = a.take j ++ x :: a.drop (j + 1) := by rw [← e1, ← List.drop_eq_getElem_cons h1, List.take_append_drop]
  have eb : b = a.take j ++ y :: b.drop (j + 1) := by rw [ht, ← e2, ← List.drop_eq_getElem_cons h2, List.take_append_drop]
  rw [Bool.eq_iff_iff]
  unfold lessS
  rw [seLt_is]
  unfold seLt
  constructor
  · rintro (q | q)
    · omega
    · have q2 := q.2
      rw [ea, eb] at q2
      exact (rsLt_at x y _ _ hne _).1 q2
  · intro h
    refine .inr ⟨hl, ?_⟩
    rw [ea, eb]
    exact (rsLt_at x y _ _ hne _).2 h
theorem setLe_tr {a b c : List Role} (h1 : setLe a b = true) (h2 : setLe b c = true) : setLe a c = true := by
  unfold setLe at *
  simp only [Bool.not_eq_true'] at *
  exact setSwo.ntrans _ _ _ h2 h1
theorem lessS_le {a b : List Role} (h : lessS a b = true) : setLe a b = true := by
  unfold setLe
  cases q : ltOf cmpSet b a with
  | false => rfl
  | true => have := setSwo.trans _ _ _ h q; rw [setSwo.irrefl] at this; cases this
theorem setLe_no {a b : List Role} (h : lessS a b = false) : setLe b a = true := by
  unfold setLe
  rw [show ltOf cmpSet a b = false from h]; rfl
/-- Sorted so far. -/
def SrS (l out : List (List Role)) : Prop := out.Perm l ∧ out.Pairwise fun x y => setLe x y = true
theorem SrS.nil : SrS [] [] := ⟨List.Perm.refl _, List.Pairwise.nil⟩
theorem SrS.put {l A B : List (List Role)} {k : List Role} (h : SrS l (A ++ B)) (hB : ∀ x ∈ B, lessS k x = true) (hA : A = [] ∨ ∃ A1 u, A = A1 ++ [u] ∧ lessS k u = false) : SrS (l ++ [k]) (A ++ k :: B) := by
  refine ⟨?_, ?_⟩
  · exact List.perm_middle.trans ((h.1.cons k).trans (List.perm_append_singleton k l).symm)
  · have hp := List.pairwise_append.1 h.2
    have hAk : ∀ a ∈ A, setLe a k = true := fun a ha => by
      rcases hA with q | ⟨A1, u, rfl, q⟩
      · rw [q] at ha; cases ha
      · have hu := setLe_no q
        rcases List.mem_append.1 ha with r | r
        · exact setLe_tr ((List.pairwise_append.1 hp.1).2.2 a r u (by simp)) hu
        · rw [List.mem_singleton.1 r]; exact hu
    refine List.pairwise_append.2 ⟨hp.1, List.pairwise_cons.2 ⟨fun x hx => lessS_le (hB x hx), hp.2.1⟩, fun a ha b hb => ?_⟩
    rcases List.mem_cons.1 hb with e | e
    · rw [e]; exact hAk a ha
    · exact hp.2.2 a ha b e
end Go.Proofs.YtcihjohgmhebiaaGreat

namespace Go.Proofs.YtcihjohgmhebiaaGreat
set_option linter.unusedSimpArgs false
set_option linter.unusedVariables false
open Go Go.RowKit
theorem wiL_hit {l m : List Role} {j : Nat} {x : Role} (hx : l[j]? = some x) (h : x ∉ m) : wiL l m = false := by
  rw [Bool.eq_false_iff]
  intro q
  exact h (wiL_iff.1 q x (List.mem_of_getElem? hx))
set_option maxRecDepth 100000 in
set_option maxHeartbeats 2000000 in
theorem refWithin_any (a : Option Addr) (n c : Nat) (l : List Role) (a2 : Option Addr) (n2 c2 : Nat) (m : List Role) (W : World) (h : Fl W a n l) (h2 : Fl W a2 n2 m) (hn : n ≤ 2000000) (hn2 : n2 ≤ 2000000) :
    Calls Tryz.prog 11 #[.slice a n c, .slice a2 n2 c2] W fun e w' => e = .returned (.bool (wiL l m)) ∧ Ext W w' := by
  have H := Lib.hid h
  have HNL := Lib.hid h.1
  have HH := Lib.hid (fun (x : Role) W' (hx : Ext W W') => refRoleHas_any a2 n2 c2 m x W' (Arr.ext h2 hx) hn2)
  clear h h2
  have st := Own.startOld W
  (try simp only [nsl, Value.cells, unB] at st)
  (try clear hc); have hc := st.facts; (try simp only [nfl, nft, Nat.reduceAdd] at hc)
  go_enter Tryz.func11, Tryz.ntmps11
  go_wp2_with ((first
        | ((with_reducible refine wl_alloc ?_ (fun K hK => ?_)); rfl; refine owp_alloc (o := ⟨some 6, _, _, _, _, _⟩) rfl st ?_; apply Exists.intro; apply Exists.intro; refine ⟨?_, ?_⟩; (focus (first | (go_simp; done) | (go_simp; rfl))); (clear st; intro b6 w hb st; clear hb))
        | ((with_reducible refine wl_store ?_ (fun K hK => ?_)); rfl; refine owp_store rfl st ?_; apply Exists.intro; apply Exists.intro; refine ⟨?_, ?_, ?_⟩; (focus (go_simp; try rfl)); (focus (go_simp; try rfl)); (first | (with_reducible refine ⟨0, _, _, _, _, get0, rfl, rfl, ?_, ?_, ?_, ?_⟩) | (with_reducible refine ⟨1, _, _, _, _, get1, rfl, rfl, ?_, ?_, ?_, ?_⟩) | (with_reducible refine ⟨2, _, _, _, _, get2, rfl, rfl, ?_, ?_, ?_, ?_⟩) | (with_reducible refine ⟨3, _, _, _, _, get3, rfl, rfl, ?_, ?_, ?_, ?_⟩)); (kernel_rfl); (simp [Value.cells]); (rfl); (clear st; intro w st))); (try simp only [nsl, Value.cells, unB] at st); (try clear hc); have hc := st.facts; (try simp only [nfl, nft, Nat.reduceAdd] at hc))
  go_loopg [9] n (fun k i wr => ∃ (j : Nat), j ≤ n ∧ k = n - j ∧ i = .int .i64 (j : Int) ∧ Hid (∀ x ∈ l.take j, x ∈ m) ∧ Own (fun _ => False) (fun _ => True) W [oldI W] wr)
  case atStart => exact ⟨0, by omega, by omega, rfl, Lib.hid (by simp), st⟩
  case round =>
    obtain ⟨j, hj, rfl, rfl, HT, st'⟩ := hrel
    clear st hc
    have st := st'
    clear st'
    by_cases hjn : j < n
    · obtain ⟨b, off, ha, hcell⟩ := H.out.role (by omega)
      have hjl : j < l.length := by have := HNL.out; omega
      have hgt := List.getElem?_eq_getElem hjl
      have htk := (List.take_append_getElem hjl).symm
      generalize l[j] = x at *
      have HX := Lib.hid (fun W' hx => HH.out x W' hx)
      have HNO := Lib.hid (fun (q : x ∉ m) => wiL_hit hgt q)
      have HYE := Lib.hid (fun (q : x ∈ m) => (show ∀ y ∈ l.take (j + 1), y ∈ m from fun y hy => by
        rw [htk] at hy
        rcases List.mem_append.1 hy with r | r
        · exact HT.out y r
        · rw [List.mem_singleton.1 r]; exact q))
      have r0 := st.oldCell (i := 0) get0 (hcell j x hgt).1
      have r1 := st.oldCell (i := 0) get0 (hcell j x hgt).2
      obtain ⟨o, d⟩ := x
      unfold rV S at HX
      unfold S at r0 r1
      simp only at HX r0 r1
      clear hcell hgt htk hjl
      subst ha
      by_cases hv : (o, d) ∈ m
      · rw [decide_eq_true hv] at HX
        have HT2 := Lib.hid (HYE.out hv)
        clear HNO HYE hv
        (try simp only [nsl, Value.cells, unB] at st)
        (try clear hc); have hc := st.facts; (try simp only [nfl, nft, Nat.reduceAdd] at hc)
        go_wp2_with ((first
              | ((with_reducible refine wl_alloc ?_ (fun K hK => ?_)); rfl; refine owp_alloc (o := ⟨some 6, _, _, _, _, _⟩) rfl st ?_; apply Exists.intro; apply Exists.intro; refine ⟨?_, ?_⟩; (focus (first | (go_simp; done) | (go_simp; rfl))); (clear st; intro b6 w hb st; clear hb))
              | ((with_reducible refine wl_store ?_ (fun K hK => ?_)); rfl; refine owp_store rfl st ?_; apply Exists.intro; apply Exists.intro; refine ⟨?_, ?_, ?_⟩; (focus (go_simp; try rfl)); (focus (go_simp; try rfl)); (first | (with_reducible refine ⟨0, _, _, _, _, get0, rfl, rfl, ?_, ?_, ?_, ?_⟩) | (with_reducible refine ⟨1, _, _, _, _, get1, rfl, rfl, ?_, ?_, ?_, ?_⟩) | (with_reducible refine ⟨2, _, _, _, _, get2, rfl, rfl, ?_, ?_, ?_, ?_⟩) | (with_reducible refine ⟨3, _, _, _, _, get3, rfl, rfl, ?_, ?_, ?_, ?_⟩)); (kernel_rfl); (simp [Value.cells]); (rfl); (clear st; intro w st))); (try simp only [nsl, Value.cells, unB] at st); (try clear hc); have hc := st.facts; (try simp only [nfl, nft, Nat.reduceAdd] at hc))
        refine (HX.out _ st.ext0).mono ?_
        rintro en w ⟨rfl, hx⟩
        replace st := st.ext hx
        clear hx
        (try clear hc); have hc := st.facts; (try simp only [nfl, nft, Nat.reduceAdd] at hc)
        go_wp2_with fail
        have st' := st.keep [0] (by decide) (by simp)
        go_roundg (n - (j + 1))
        case measure => omega
        case rel => exact ⟨j + 1, by omega, by omega, by go_num, HT2, by simpa [pick] using st'⟩
      · rw [decide_eq_false hv] at HX
        have HQ := Lib.hid (HNO.out hv)
        clear HNO HYE hv
        (try simp only [nsl, Value.cells, unB] at st)
        (try clear hc); have hc := st.facts; (try simp only [nfl, nft, Nat.reduceAdd] at hc)
        go_wp2_with ((first
              | ((with_reducible refine wl_alloc ?_ (fun K hK => ?_)); rfl; refine owp_alloc (o := ⟨some 6, _, _, _, _, _⟩) rfl st ?_; apply Exists.intro; apply Exists.intro; refine ⟨?_, ?_⟩; (focus (first | (go_simp; done) | (go_simp; rfl))); (clear st; intro b6 w hb st; clear hb))
              | ((with_reducible refine wl_store ?_ (fun K hK => ?_)); rfl; refine owp_store rfl st ?_; apply Exists.intro; apply Exists.intro; refine ⟨?_, ?_, ?_⟩; (focus (go_simp; try rfl)); (focus (go_simp; try rfl)); (first | (with_reducible refine ⟨0, _, _, _, _, get0, rfl, rfl, ?_, ?_, ?_, ?_⟩) | (with_reducible refine ⟨1, _, _, _, _, get1, rfl, rfl, ?_, ?_, ?_, ?_⟩) | (with_reducible refine ⟨2, _, _, _, _, get2, rfl, rfl, ?_, ?_, ?_, ?_⟩) | (with_reducible refine ⟨3, _, _, _, _, get3, rfl, rfl, ?_, ?_, ?_, ?_⟩)); (kernel_rfl); (simp [Value.cells]); (rfl); (clear st; intro w st))); (try simp only [nsl, Value.cells, unB] at st); (try clear hc); have hc := st.facts; (try simp only [nfl, nft, Nat.reduceAdd] at hc))
        refine (HX.out _ st.ext0).mono ?_
        rintro en w ⟨rfl, hx⟩
        replace st := st.ext hx
        clear hx
        (try clear hc); have hc := st.facts; (try simp only [nfl, nft, Nat.reduceAdd] at hc)
        go_wp2_with ((first
              | ((with_reducible refine wl_alloc ?_ (fun K hK => ?_)); rfl; refine owp_alloc (o := ⟨some 6, _, _, _, _, _⟩) rfl st ?_; apply Exists.intro; apply Exists.intro; refine ⟨?_, ?_⟩; (focus (first | (go_simp; done) | (go_simp; rfl))); (clear st; intro b6 w hb st; clear hb))
              | ((with_reducible refine wl_store ?_ (fun K hK => ?_)); rfl; refine owp_store rfl st ?_; apply Exists.intro; apply Exists.intro; refine ⟨?_, ?_, ?_⟩; (focus (go_simp; try rfl)); (focus (go_simp; try rfl)); (first | (with_reducible refine ⟨0, _, _, _, _, get0, rfl, rfl, ?_, ?_, ?_, ?_⟩) | (with_reducible refine ⟨1, _, _, _, _, get1, rfl, rfl, ?_, ?_, ?_, ?_⟩) | (with_reducible refine ⟨2, _, _, _, _, get2, rfl, rfl, ?_, ?_, ?_, ?_⟩) | (with_reducible refine ⟨3, _, _, _, _, get3, rfl, rfl, ?_, ?_, ?_, ?_⟩)); (kernel_rfl); (simp [Value.cells]); (rfl); (clear st; intro w st))); (try simp only [nsl, Value.cells, unB] at st); (try clear hc); have hc := st.facts; (try simp only [nfl, nft, Nat.reduceAdd] at hc))
        go_ret
        exact ⟨by rw [HQ.out]; rfl, st.ext0⟩
    · obtain rfl : j = n := by omega
      have HQ : Hid (wiL l m = true) := Lib.hid (wiL_iff.2 (by
        have := HT.out
        rwa [List.take_of_length_le (by have := HNL.out; omega)] at this))
      (try simp only [nsl, Value.cells, unB] at st)
      (try clear hc); have hc := st.facts; (try simp only [nfl, nft, Nat.reduceAdd] at hc)
      go_wp2_with fail
      go_ret
      exact ⟨by rw [HQ.out]; rfl, st.ext0⟩
end Go.Proofs.YtcihjohgmhebiaaGreat

namespace Go.Proofs.YtcihjohgmhebiaaGreat
set_option linter.unusedSimpArgs false
set_option linter.unusedVariables false
open Go Go.RowKit
set_option maxRecDepth 100000 in
set_option maxHeartbeats 2000000 in
theorem refSetLess_any (a : Option Addr) (n c : Nat) (l : List Role) (a' : Option Addr) (n' c' : Nat) (l' : List Role) (W : World) (h : Fl W a n l) (h' : Fl W a' n' l') (hn : n ≤ 2000000) (hn' : n' ≤ 2000000) :
    Calls Tryz.prog 55 #[.slice a n c, .slice a' n' c'] W fun e w' => e = .returned (.bool (lessS l l')) ∧ Ext W w' := by
  have H := Lib.hid h
  have H' := Lib.hid h'
  have HNL := Lib.hid (And.intro h.1 h'.1)
  clear h h'
  have st := Own.startOld W
  (try simp only [nsl, Value.cells, unB] at st)
  (try clear hc); have hc := st.facts; (try simp only [nfl, nft, Nat.reduceAdd] at hc)
  by_cases hnn : n = n'
  · subst hnn
    go_enter Tryz.func55, Tryz.ntmps55
    go_wp2_with fail
    go_loopg [18] n (fun q i wr => ∃ (j : Nat), j ≤ n ∧ q = n - j ∧ i = .int .i64 (j : Int) ∧ Hid (l.take j = l'.take j) ∧ Own (fun _ => False) (fun _ => True) W [oldI W] wr)
    case atStart => exact ⟨0, by omega, by omega, rfl, Lib.hid (by simp), st⟩
    case round =>
      obtain ⟨j, hj, rfl, rfl, HT, st'⟩ := hrel
      clear st hc
      have st := st'
      clear st'
      (try simp only [nsl, Value.cells, unB] at st)
      (try clear hc); have hc := st.facts; (try simp only [nfl, nft, Nat.reduceAdd] at hc)
      by_cases hjn : j < n
      · obtain ⟨b, off, ha, hcell⟩ := H.out.role (by omega)
        obtain ⟨b', off', ha', hcell'⟩ := H'.out.role (by omega)
        have hjl : j < l.length := by have := HNL.out; omega
        have hjl' : j < l'.length := by have := HNL.out; omega
        have HC := Lib.hid (And.intro (hcell j l[j] (List.getElem?_eq_getElem hjl)) (hcell' j l'[j] (List.getElem?_eq_getElem hjl')))
        have hts : l.take (j + 1) = l.take j ++ [l[j]] := (List.take_append_getElem hjl).symm
        have hts' : l'.take (j + 1) = l'.take j ++ [l'[j]] := (List.take_append_getElem hjl').symm
        have hne : l[j] ≠ l'[j] → lessS l l' = roleLt l[j] l'[j] := fun h1 => lessS_at (by have := HNL.out; omega) HT.out (List.getElem?_eq_getElem hjl) (List.getElem?_eq_getElem hjl') h1
        clear hcell hcell'
        generalize l[j] = x at *
        generalize l'[j] = y at *
        have HL := Lib.hid (fun W' => refRoleLess_any x y W')
        obtain ⟨o, d⟩ := x
        obtain ⟨o', d'⟩ := y
        have HX := Lib.hid (And.intro hts (And.intro hts' hne))
        clear hts hts' hne
        subst ha
        subst ha'
        simp only at HC
        unfold S at HC
        unfold rV S at HL
        simp only at HL
        go_wp2_with fail
        refine Rg4.wp_region4_eq #[0, 0, 3, 7, 0, 0, 48, 112, 255] [] [3, 7] (fun _ => True) [0, 1, 2, 3, 4, 5, 6, 7, 8] (by kernel_rfl) (by kernel_rfl) (by kernel_rfl) (by kernel_rfl) (show Rg4.PB _ by repeat (first | with_reducible exact Rg4.pb_body | with_reducible exact Rg4.pb_bodyD rfl | with_reducible refine Rg4.pb_then ?_ | with_reducible refine Rg4.pb_inBlock ?_ | with_reducible refine Rg4.pb_noGoto ?_)) (trivial) ?_
        replace st := st.drew
        change Rg4.wp4 _ _ _ _ _ _ _ _ _ (World.drew _) _ _
        generalize World.drew _ = w at st ⊢
        (try clear hc); have hc := st.facts; (try simp only [nfl, nft, Nat.reduceAdd] at hc)
        iterate 3 (refine Rg4.w4_any (Rg4.want_none rfl) rfl ?_; apply Exists.intro; refine ⟨fun w' => ?_, ?_⟩; (focus (first | (go_simp; done) | (go_simp; first | rfl | (rw [if_neg] <;> first | rfl | omega) | (rw [if_pos] <;> first | rfl | omega)))); (try simp only [Rg4.nrm]))
        (refine Rg4.w4_read (Rg4.want_none rfl) rfl rfl ?_; apply Exists.intro; refine ⟨fun w' hw' hcl' => ?_, ?_⟩; focus (subst hw'; have r0 := st.oldCell (i := 0) get0 HC.out.1.1; have r1 := st.oldCell (i := 0) get0 HC.out.1.2; have r2 := st.oldCell (i := 0) get0 HC.out.2.1; have r3 := st.oldCell (i := 0) get0 HC.out.2.2; (focus (first | (go_simp; done) | (go_simp; first | rfl | (rw [if_neg] <;> first | rfl | omega) | (rw [if_pos] <;> first | rfl | omega))))); (try simp only [Rg4.nrm]))
        iterate 3 (refine Rg4.w4_any (Rg4.want_none rfl) rfl ?_; apply Exists.intro; refine ⟨fun w' => ?_, ?_⟩; (focus (first | (go_simp; done) | (go_simp; first | rfl | (rw [if_neg] <;> first | rfl | omega) | (rw [if_pos] <;> first | rfl | omega)))); (try simp only [Rg4.nrm]))
        (refine Rg4.w4_read (Rg4.want_none rfl) rfl rfl ?_; apply Exists.intro; refine ⟨fun w' hw' hcl' => ?_, ?_⟩; focus (subst hw'; have r0 := st.oldCell (i := 0) get0 HC.out.1.1; have r1 := st.oldCell (i := 0) get0 HC.out.1.2; have r2 := st.oldCell (i := 0) get0 HC.out.2.1; have r3 := st.oldCell (i := 0) get0 HC.out.2.2; (focus (first | (go_simp; done) | (go_simp; first | rfl | (rw [if_neg] <;> first | rfl | omega) | (rw [if_pos] <;> first | rfl | omega))))); (try simp only [Rg4.nrm]))
        (refine Rg4.w4_any (Rg4.want_none rfl) rfl ?_; apply Exists.intro; refine ⟨fun w' => ?_, ?_⟩; (focus (first | (go_simp; done) | (go_simp; first | rfl | (rw [if_neg] <;> first | rfl | omega) | (rw [if_pos] <;> first | rfl | omega)))); (try simp only [Rg4.nrm]))
        refine Rg4.w4_nil (fun w' hw' hcl' _ => ?_); subst hw'; clear hcl'
        cases hxy : roleEq (o, d) (o', d') with
        | true =>
          have hb : (!true) = false := rfl
          have HF : Hid (l.take (j + 1) = l'.take (j + 1)) := Lib.hid (by rw [roleEq_eq, decide_eq_true_eq] at hxy; rw [HX.out.1, HX.out.2.1, HT.out, hxy])
          clear hxy
          simp only [hb]
          go_wp2_with fail
          go_roundg (n - (j + 1))
          case measure => omega
          case rel => exact ⟨j + 1, by omega, by omega, by go_num, HF, st⟩
        | false =>
          have hb : (!false) = true := rfl
          have HF : Hid (lessS l l' = roleLt (o, d) (o', d')) := Lib.hid (HX.out.2.2 (by rw [roleEq_eq, decide_eq_false_iff_not] at hxy; exact hxy))
          clear hxy
          obtain ⟨v, hv⟩ : ∃ v, roleLt (o, d) (o', d') = v := ⟨_, rfl⟩
          rw [hv] at HL HF
          clear hv
          simp only [hb]
          go_wp2_with fail
          refine Rg4.wp_region4_eq #[0, 0, 3, 7, 0, 0, 48, 112, 255, 511] [8] [3, 7] (fun _ => True) [0, 1, 2, 3, 4, 5, 6, 7, 8, 9] (by kernel_rfl) (by kernel_rfl) (by kernel_rfl) (by kernel_rfl) (show Rg4.PB _ by repeat (first | with_reducible exact Rg4.pb_body | with_reducible exact Rg4.pb_bodyD rfl | with_reducible refine Rg4.pb_then ?_ | with_reducible refine Rg4.pb_inBlock ?_ | with_reducible refine Rg4.pb_noGoto ?_)) (trivial) ?_
          replace st := st.drew
          change Rg4.wp4 _ _ _ _ _ _ _ _ _ (World.drew _) _ _
          generalize World.drew _ = w at st ⊢
          (try clear hc); have hc := st.facts; (try simp only [nfl, nft, Nat.reduceAdd] at hc)
          iterate 3 (refine Rg4.w4_any (Rg4.want_none rfl) rfl ?_; apply Exists.intro; refine ⟨fun w' => ?_, ?_⟩; (focus (first | (go_simp; done) | (go_simp; first | rfl | (rw [if_neg] <;> first | rfl | omega) | (rw [if_pos] <;> first | rfl | omega)))); (try simp only [Rg4.nrm]))
          (refine Rg4.w4_read (Rg4.want_none rfl) rfl rfl ?_; apply Exists.intro; refine ⟨fun w' hw' hcl' => ?_, ?_⟩; focus (subst hw'; have r0 := st.oldCell (i := 0) get0 HC.out.1.1; have r1 := st.oldCell (i := 0) get0 HC.out.1.2; have r2 := st.oldCell (i := 0) get0 HC.out.2.1; have r3 := st.oldCell (i := 0) get0 HC.out.2.2; (focus (first | (go_simp; done) | (go_simp; first | rfl | (rw [if_neg] <;> first | rfl | omega) | (rw [if_pos] <;> first | rfl | omega))))); (try simp only [Rg4.nrm]))
          iterate 3 (refine Rg4.w4_any (Rg4.want_none rfl) rfl ?_; apply Exists.intro; refine ⟨fun w' => ?_, ?_⟩; (focus (first | (go_simp; done) | (go_simp; first | rfl | (rw [if_neg] <;> first | rfl | omega) | (rw [if_pos] <;> first | rfl | omega)))); (try simp only [Rg4.nrm]))
          (refine Rg4.w4_read (Rg4.want_none rfl) rfl rfl ?_; apply Exists.intro; refine ⟨fun w' hw' hcl' => ?_, ?_⟩; focus (subst hw'; have r0 := st.oldCell (i := 0) get0 HC.out.1.1; have r1 := st.oldCell (i := 0) get0 HC.out.1.2; have r2 := st.oldCell (i := 0) get0 HC.out.2.1; have r3 := st.oldCell (i := 0) get0 HC.out.2.2; (focus (first | (go_simp; done) | (go_simp; first | rfl | (rw [if_neg] <;> first | rfl | omega) | (rw [if_pos] <;> first | rfl | omega))))); (try simp only [Rg4.nrm]))
          refine Rg4.w4_bar (Rg4.want_none rfl) rfl (fun w' hw' hcl _ K hK => ?_)
          subst hw'
          go_wp2_with fail
          refine (HL.out _).mono ?_
          rintro en w ⟨rfl, hx⟩
          replace st := st.ext hx
          clear hx
          (try clear hc); have hc := st.facts; (try simp only [nfl, nft, Nat.reduceAdd] at hc)
          refine hK _ _ ⟨trivial, ?_⟩
          clear hK
          (try simp only [Rg4.nrm])
          (refine Rg4.w4_any (Rg4.want_none rfl) rfl ?_; apply Exists.intro; refine ⟨fun w' => ?_, ?_⟩; (focus (first | (go_simp; done) | (go_simp; first | rfl | (rw [if_neg] <;> first | rfl | omega) | (rw [if_pos] <;> first | rfl | omega)))); (try simp only [Rg4.nrm]))
          refine Rg4.w4_nil (fun w' hw' hcl' _ => ?_); subst hw'; clear hcl'
          go_wp2_with fail
          go_ret
          exact ⟨by rw [HF.out]; rfl, st.ext0⟩
      · obtain rfl : j = n := by omega
        have HF : Hid (lessS l l' = false) := Lib.hid (by
          have := HT.out
          rw [List.take_of_length_le (by have := HNL.out; omega), List.take_of_length_le (by have := HNL.out; omega)] at this
          rw [this]; exact lessS_eq _)
        go_wp2_with fail
        go_ret
        exact ⟨by rw [HF.out]; rfl, st.ext0⟩
  · have HF : Hid (lessS l l' = decide (n < n')) := Lib.hid (by
      have := HNL.out
      rw [lessS_len (by omega), this.1, this.2])
    have hne : ((n : Int) == (n' : Int)) = false := by simp; omega
    have hnb : ((n : Int) != (n' : Int)) = true := by simp; omega
    go_enter Tryz.func55, Tryz.ntmps55
    go_wp2_with fail
    go_ret
    exact ⟨by rw [HF.out]; simp, st.ext0⟩
end Go.Proofs.YtcihjohgmhebiaaGreat

namespace Go.Proofs.YtcihjohgmhebiaaGreat
set_option linter.unusedSimpArgs false
set_option linter.unusedVariables false
open Go Go.RowKit
/-- What Least answers lies anew. -/
def LeastAre (W : World) (er : Int) (ll : List (List Role)) (e : Ending) (w' : World) : Prop := ∃ va n vc, ∃ ys : List RsT, e = .returned (.tuple #[.slice va n vc, .int .i64 er]) ∧ (n ≤ vc ∧ vc ≤ maxLen) ∧ ys.map (·.xs) = ll ∧ Own (fun _ => False) (fun _ => False) W [flI va n ys, rssI ys] w'
theorem leastRes {W w : World} {va : Option Addr} {n vc : Nat} {er : Int} {ll : List (List Role)} {ys : List RsT} (hc : n ≤ vc ∧ vc ≤ maxLen) (hy : ys.map (·.xs) = ll) (st : Own (fun _ => False) (fun _ => False) W [flI va n ys, rssI ys] w) : LeastAre W er ll (.returned (.tuple #[.slice va n vc, .int .i64 er])) w := ⟨va, n, vc, ys, rfl, hc, hy, st⟩
theorem leastNone {W w : World} {L : List It} {er : Int} {ll : List (List Role)} (st : Own (fun _ => False) (fun _ => False) W L w) (h : ll = []) : LeastAre W er ll (.returned (.tuple #[.slice none 0 0, .int .i64 er])) w := by
  subst h
  have st2 : Own (fun _ => False) (fun _ => False) W [] w := st.keep [] (by simp) (by simp)
  exact ⟨none, 0, 0, [], rfl, ⟨Nat.le_refl _, by simp [maxLen]⟩, rfl, by simpa using (st2.bare (I := flI none 0 ([] : List RsT)) ⟨Fl.nil _ _, fun h => by omega⟩).noRss⟩
theorem Own.rssSub {fr al : Nat → Prop} {w0 w : World} {L : List It} (st : Own fr al w0 L w) {i : Nat} {l m : List RsT} (hi : L[i]? = some (rssI l)) (h : ∀ y ∈ m, y ∈ l) : Own fr al w0 (L ++ [rssI m]) w :=
  st.share hi fun e s h1 x hx => h1 x (h x hx)
theorem rsInfo : ∃ i, Tryz.prog.info? 27 = some i ∧ i.zero = some (.slice none 0 0) ∧ i.size = 1 ∧ i.bytes = 24 := info_parts (by kernel_rfl)
set_option maxRecDepth 100000 in
set_option maxHeartbeats 4000000 in
theorem leastSets_f (f : Fm) (W : World) (hf : FmOk W f) (hs : f.strip.nodes ≤ 1000000) (hl : FoL 100000 f.strip) :
    Calls Tryz.prog 6 #[fmV f] W fun e w' => LeastAre W (leastE f.strip) (lsL f.strip) e w' := by
  have HR := Lib.hid (fun W' (hx : Ext W W') => fmRight_any f W' (hf.ext hx) (by omega) hl)
  have HA := Lib.hid (fun W' (hx : Ext W W') => fmAtoms_f f W' (hf.ext hx) hs hl)
  have HL := Lib.hid (fun a c W' (hx : Ext W W') (h : Fl W' a (roleSet f.strip.atoms).length (roleSet f.strip.atoms)) hn => show Calls Tryz.prog _ _ _ fun e w' => MasksAre W' (mskF f.strip) e w' from least_f f a (roleSet f.strip.atoms).length c (roleSet f.strip.atoms) W' (hf.ext hx) h hn (by omega) hl)
  have HE1 := Lib.hid (@leastE_no f.strip)
  have HE2 := Lib.hid (@leastE_long f.strip)
  have HE3 := Lib.hid (@leastE_ok f.strip)
  have HLN := Lib.hid (@lsL_no f.strip)
  have HLY : Hid (leastE f.strip = 0 → lsL f.strip = setSort ((mskF f.strip).map (pk (roleSet f.strip.atoms)))) := Lib.hid (fun h => by rw [lsL_yes h]; rfl)
  have HB : Hid (∀ b ∈ mskF f.strip, b < 2 ^ (roleSet f.strip.atoms).length) := Lib.hid (fun b hb => (mem_lm.1 hb).1)
  have HM : Hid ((mskF f.strip).length ≤ 2 ^ (roleSet f.strip.atoms).length) := Lib.hid (by unfold mskF; exact lmN_len _ _ _)
  generalize mskF f.strip = ms at *
  generalize leastE f.strip = er at *
  generalize lsL f.strip = ll at *
  generalize foR f.strip = rv at *
  generalize roleSet f.strip.atoms = A at *
  obtain ⟨m, hm⟩ : ∃ m, A.length = m := ⟨_, rfl⟩
  have HPL := Lib.hid (fun b => pkN_len A b A.length)
  have HAL := Lib.hid hm
  rw [hm] at HA HL HE2 HE3 HB HM
  have HP := Lib.hid (fun a c b W' (h : Fl W' a m A) hn hb => picked_f a m c A b W' h hn hb)
  clear hm hf hs hl
  obtain ⟨op, k, ⟨o, d⟩, fa, fn, fc, kids⟩ := f
  unfold fmV S at HR HA HL ⊢
  simp only at HR HA HL ⊢
  have st := Own.start (fun _ => False) (fun _ => False) W
  (try simp only [nsl, Value.cells, unB] at st)
  (try clear hc); have hc := st.facts; (try simp only [nfl, nft, Nat.reduceAdd] at hc)
  go_enter Tryz.func6, Tryz.ntmps6
  go_wp2_with ((first
        | ((with_reducible refine wl_box ?_ (fun K hK => ?_)); rfl; refine owp_box (o := ⟨some 1, _, _, _, _, _⟩) rfl st ?_; apply Exists.intro; refine ⟨?_, ?_⟩; (focus (go_simp; try rfl)); (clear st; intro b1 w hb st; clear hb))
        | ((with_reducible refine wl_buildSlice ?_ (fun K hK => ?_)); rfl; refine owp_buildSlice (o := ⟨some 28, _, _, _, _, _⟩) rfl st ?_; apply Exists.intro; apply Exists.intro; apply Exists.intro; apply Exists.intro; refine ⟨?_, ?_⟩; (focus (go_simp; (first | done | exact ⟨⟨rfl, rfl⟩, rfl⟩ | rfl))); (clear st; intro b28 w hb st; clear hb))); (try simp only [nsl, Value.cells, unB] at st); (try clear hc); have hc := st.facts; (try simp only [nfl, nft, Nat.reduceAdd] at hc))
  refine (HR.out _ st.ext0).mono ?_
  rintro en w ⟨rfl, hx⟩
  replace st := st.ext hx
  clear hx
  (try clear hc); have hc := st.facts; (try simp only [nfl, nft, Nat.reduceAdd] at hc)
  cases rv with
  | false =>
    obtain rfl : er = 11 := HE1.out rfl
    have hll := HLN.out (by omega)
    go_wp2_with ((first
          | ((with_reducible refine wl_box ?_ (fun K hK => ?_)); rfl; refine owp_box (o := ⟨some 1, _, _, _, _, _⟩) rfl st ?_; apply Exists.intro; refine ⟨?_, ?_⟩; (focus (go_simp; try rfl)); (clear st; intro b1 w hb st; clear hb))
          | ((with_reducible refine wl_buildSlice ?_ (fun K hK => ?_)); rfl; refine owp_buildSlice (o := ⟨some 28, _, _, _, _, _⟩) rfl st ?_; apply Exists.intro; apply Exists.intro; apply Exists.intro; apply Exists.intro; refine ⟨?_, ?_⟩; (focus (go_simp; (first | done | exact ⟨⟨rfl, rfl⟩, rfl⟩ | rfl))); (clear st; intro b28 w hb st; clear hb))); (try simp only [nsl, Value.cells, unB] at st); (try clear hc); have hc := st.facts; (try simp only [nfl, nft, Nat.reduceAdd] at hc))
    go_ret2
    exact leastNone st (by first | exact hll | rfl)
  | true =>
    go_wp2_with ((first
          | ((with_reducible refine wl_box ?_ (fun K hK => ?_)); rfl; refine owp_box (o := ⟨some 1, _, _, _, _, _⟩) rfl st ?_; apply Exists.intro; refine ⟨?_, ?_⟩; (focus (go_simp; try rfl)); (clear st; intro b1 w hb st; clear hb))
          | ((with_reducible refine wl_buildSlice ?_ (fun K hK => ?_)); rfl; refine owp_buildSlice (o := ⟨some 28, _, _, _, _, _⟩) rfl st ?_; apply Exists.intro; apply Exists.intro; apply Exists.intro; apply Exists.intro; refine ⟨?_, ?_⟩; (focus (go_simp; (first | done | exact ⟨⟨rfl, rfl⟩, rfl⟩ | rfl))); (clear st; intro b28 w hb st; clear hb))); (try simp only [nsl, Value.cells, unB] at st); (try clear hc); have hc := st.facts; (try simp only [nfl, nft, Nat.reduceAdd] at hc))
    refine (HA.out _ st.ext0).mono ?_
    rintro en w ⟨ra, rc, rfl, h2⟩
    replace st := st.join h2
    clear h2
    simp only [List.cons_append, List.nil_append] at st
    replace st := st.rowToFl (α := Role) (i := 1) get1
    simp only [List.set] at st
    by_cases hm : 12 < m
    · obtain rfl : er = 12 := HE2.out (by simp) (.inl hm)
      have hll := HLN.out (by omega)
      have hmi : (12 : Int) < (m : Int) := by omega
      (try simp only [nsl, Value.cells, unB] at st)
      (try clear hc); have hc := st.facts; (try simp only [nfl, nft, Nat.reduceAdd] at hc)
      go_wp2_with ((first
            | ((with_reducible refine wl_box ?_ (fun K hK => ?_)); rfl; refine owp_box (o := ⟨some 1, _, _, _, _, _⟩) rfl st ?_; apply Exists.intro; refine ⟨?_, ?_⟩; (focus (go_simp; try rfl)); (clear st; intro b1 w hb st; clear hb))
            | ((with_reducible refine wl_buildSlice ?_ (fun K hK => ?_)); rfl; refine owp_buildSlice (o := ⟨some 28, _, _, _, _, _⟩) rfl st ?_; apply Exists.intro; apply Exists.intro; apply Exists.intro; apply Exists.intro; refine ⟨?_, ?_⟩; (focus (go_simp; (first | done | exact ⟨⟨rfl, rfl⟩, rfl⟩ | rfl))); (clear st; intro b28 w hb st; clear hb))); (try simp only [nsl, Value.cells, unB] at st); (try clear hc); have hc := st.facts; (try simp only [nfl, nft, Nat.reduceAdd] at hc))
      go_ret2
      exact leastNone st (by first | exact hll | rfl)
    have hmi : ¬ (12 : Int) < (m : Int) := by omega
    have hp12 : 2 ^ m ≤ 4096 := Nat.le_trans (Nat.pow_le_pow_right (by decide) (show m ≤ 12 by omega)) (by decide)
    have hms : ms.length ≤ 4096 := Nat.le_trans HM.out hp12
    have HB2 : Hid (∀ b ∈ ms, b ≤ 4096) := Lib.hid (fun b hb => Nat.le_trans (Nat.le_of_lt (HB.out b hb)) hp12)
    clear hp12 HB HM
    (try simp only [nsl, Value.cells, unB] at st)
    (try clear hc); have hc := st.facts; (try simp only [nfl, nft, Nat.reduceAdd] at hc)
    go_wp2_with ((first
          | ((with_reducible refine wl_box ?_ (fun K hK => ?_)); rfl; refine owp_box (o := ⟨some 1, _, _, _, _, _⟩) rfl st ?_; apply Exists.intro; refine ⟨?_, ?_⟩; (focus (go_simp; try rfl)); (clear st; intro b1 w hb st; clear hb))
          | ((with_reducible refine wl_buildSlice ?_ (fun K hK => ?_)); rfl; refine owp_buildSlice (o := ⟨some 28, _, _, _, _, _⟩) rfl st ?_; apply Exists.intro; apply Exists.intro; apply Exists.intro; apply Exists.intro; refine ⟨?_, ?_⟩; (focus (go_simp; (first | done | exact ⟨⟨rfl, rfl⟩, rfl⟩ | rfl))); (clear st; intro b28 w hb st; clear hb))); (try simp only [nsl, Value.cells, unB] at st); (try clear hc); have hc := st.facts; (try simp only [nfl, nft, Nat.reduceAdd] at hc))
    refine (HL.out _ _ _ st.ext0 (st.flAt (i := 1) get1) (by omega)).mono ?_
    rintro en w ⟨ma, mn, mc, rfl, hmc, h2⟩
    replace st := st.join h2
    clear h2 hmc
    simp only [List.cons_append, List.nil_append] at st
    have hmn := (st.flAt (i := 2) get2).1
    rw [List.length_map] at hmn
    have HMN := Lib.hid hmn
    have hmn4 : mn ≤ 4096 := by omega
    clear hmn hms
    replace st := (st.row_nil 27 1).noRss
    simp only [List.cons_append, List.nil_append] at st
    (try simp only [nsl, Value.cells, unB] at st)
    (try clear hc); have hc := st.facts; (try simp only [nfl, nft, Nat.reduceAdd] at hc)
    go_wp2_with fail
    go_loopg [5, 20] mn (fun q ov i wr => ∃ (j : Nat) (ys : List RsT), j ≤ mn ∧ q = mn - j ∧ i = .int .i64 (j : Int) ∧ Hid (ys.map (·.xs) = (ms.take j).map (pk A)) ∧ Own (fun _ => False) (fun _ => False) W [blkI b1 [.int .i64 op, .int .i64 k, .string ⟨o.toArray⟩, .string ⟨d.toArray⟩, .slice fa fn fc], flI ra m A, flI ma mn (ms.map MkT.mk), rowI 27 1 ov j (cellsL ys), rssI ys] wr)
    case atStart => exact ⟨0, [], by omega, by omega, rfl, Lib.hid rfl, by simpa [cellsL] using st⟩
    case round =>
      obtain ⟨j, ys, hj, rfl, rfl, HY, st'⟩ := hrel
      clear st hc
      have st := st'
      clear st'
      obtain ⟨oa, oc, rfl⟩ := own_slice (st.row (i := 3) get3)
      by_cases hjn : j < mn
      · obtain ⟨bb, off, ha, hcell⟩ := (st.flAt (i := 2) get2).2 (by omega)
        have hjl : j < ms.length := by have := HMN.out; omega
        have hgt := List.getElem?_eq_getElem hjl
        have hb4 := HB2.out _ (List.getElem_mem hjl)
        have htk : ms.take (j + 1) = ms.take j ++ [ms[j]] := (List.take_append_getElem hjl).symm
        generalize ms[j] = b at *
        have r0 := hcell j (MkT.mk b) (by rw [List.getElem?_map, hgt]; rfl) 0 (.int .i64 (b : Int)) rfl
        rw [show Flt.k MkT = 1 from rfl, Nat.mul_one, Nat.add_zero] at r0
        have HTK := Lib.hid htk
        clear hcell hgt hjl htk
        subst ha
        (try simp only [nsl, Value.cells, unB] at st)
        (try clear hc); have hc := st.facts; (try simp only [nfl, nft, Nat.reduceAdd] at hc)
        go_wp2_with ((first
              | ((with_reducible refine wl_box ?_ (fun K hK => ?_)); rfl; refine owp_box (o := ⟨some 1, _, _, _, _, _⟩) rfl st ?_; apply Exists.intro; refine ⟨?_, ?_⟩; (focus (go_simp; try rfl)); (clear st; intro b1 w hb st; clear hb))
              | ((with_reducible refine wl_buildSlice ?_ (fun K hK => ?_)); rfl; refine owp_buildSlice (o := ⟨some 28, _, _, _, _, _⟩) rfl st ?_; apply Exists.intro; apply Exists.intro; apply Exists.intro; apply Exists.intro; refine ⟨?_, ?_⟩; (focus (go_simp; (first | done | exact ⟨⟨rfl, rfl⟩, rfl⟩ | rfl))); (clear st; intro b28 w hb st; clear hb))); (try simp only [nsl, Value.cells, unB] at st); (try clear hc); have hc := st.facts; (try simp only [nfl, nft, Nat.reduceAdd] at hc))
        refine (HP.out _ _ b _ (st.flAt (i := 1) get1) (by omega) hb4).mono ?_
        clear r0
        rintro en w ⟨va, n', vc, rfl, hpc, h2⟩
        replace st := st.join h2
        clear h2
        simp only [List.cons_append, List.nil_append] at st
        have HPC := Lib.hid hpc
        clear hpc
        (try simp only [nsl, Value.cells, unB] at st)
        (try clear hc); have hc := st.facts; (try simp only [nfl, nft, Nat.reduceAdd] at hc)
        go_wp2_with (first
            | ((with_reducible refine wl_append ?_ (fun K hK => ?_)); (rfl); (obtain ⟨inf, hinf, hz0, hz1, hz2⟩ := rsInfo); (refine owp_append rfl st 3 get3 Tryz.underlying30 hinf hz0 hz1 hz2 rfl (by decide) rfl rfl ((st.blk (i := 6) get6).flat rfl) (by first | exact cellsL_all _ | simp [Value.oneCell']) (by simp only [maxLen]; omega) (by omega) ?_); (clear hinf hz0 hz1 hz2 inf); (clear st; intro v' w st); (obtain ⟨va', vc', rfl⟩ := own_slice (st.row (i := 3) get3)); (try simp only [nsl, Value.cells, unB] at st); (try simp only [Nat.zero_add] at st); (try clear hc); have hc := st.facts; (try simp only [nfl, nft, Nat.reduceAdd] at hc))
            | ((with_reducible refine wl_buildSlice ?_ (fun K hK => ?_)); (rfl); (refine owp_buildRow (o := ⟨some 9999, _, _, _, _, _⟩) rfl st 27 1 ?_; refine ⟨0, #[], ?_, by simp, by simp [maxLen], ?_⟩; (focus (go_simp; (first | done | rfl))); (clear st; intro b9999 w hb st; clear hb)); (try simp only [nsl, Value.cells, unB] at st); (try clear hc); have hc := st.facts; (try simp only [nfl, nft, Nat.reduceAdd] at hc))
            | ((first
              | ((with_reducible refine wl_box ?_ (fun K hK => ?_)); rfl; refine owp_box (o := ⟨some 1, _, _, _, _, _⟩) rfl st ?_; apply Exists.intro; refine ⟨?_, ?_⟩; (focus (go_simp; try rfl)); (clear st; intro b1 w hb st; clear hb))
              | ((with_reducible refine wl_buildSlice ?_ (fun K hK => ?_)); rfl; refine owp_buildSlice (o := ⟨some 28, _, _, _, _, _⟩) rfl st ?_; apply Exists.intro; apply Exists.intro; apply Exists.intro; apply Exists.intro; refine ⟨?_, ?_⟩; (focus (go_simp; (first | done | exact ⟨⟨rfl, rfl⟩, rfl⟩ | rfl))); (clear st; intro b28 w hb st; clear hb))); (try simp only [nsl, Value.cells, unB] at st); (try clear hc); have hc := st.facts; (try simp only [nfl, nft, Nat.reduceAdd] at hc)))
        replace st := st.rssMore (i := 4) (j := 5) get4 get5 HPC.out
        have st' := st.keep [0, 1, 2, 3, 7] (by decide) (by simp)
        go_roundg (mn - (j + 1))
        case measure => omega
        case rel => exact ⟨j + 1, ys ++ [⟨va, n', vc, pk A b⟩], by omega, by omega, by go_num, Lib.hid (by rw [List.map_append, HY.out, HTK.out, List.map_append]; rfl), by rw [cellsL_append, show cellsL [(⟨va, n', vc, pk A b⟩ : RsT)] = [.slice va n' vc] from rfl]; simpa [pick] using st'⟩
      · obtain rfl : j = mn := by omega
        have HY2 : Hid (ys.map (·.xs) = ms.map (pk A)) := Lib.hid (by rw [HY.out, List.take_of_length_le (by have := HMN.out; omega)])
        by_cases h128 : 128 < j
        · obtain rfl : er = 12 := HE2.out (by simp) (.inr (by have := HMN.out; omega))
          have hll := HLN.out (by omega)
          have h128i : (128 : Int) < (j : Int) := by omega
          (try simp only [nsl, Value.cells, unB] at st)
          (try clear hc); have hc := st.facts; (try simp only [nfl, nft, Nat.reduceAdd] at hc)
          go_wp2_with fail
          go_ret2
          exact leastNone st (by first | exact hll | rfl)
        · obtain rfl : er = 0 := HE3.out (by simp) (by omega) (by have := HMN.out; omega)
          have h128i : ¬ (128 : Int) < (j : Int) := by omega
          have hxl : ∀ x ∈ ys, x.n ≤ 2000000 := fun x hx => by
            have h1 := (st.rss (i := 4) get4 x hx).2.1
            have h2 : x.xs ∈ ms.map (pk A) := by rw [← HY2.out]; exact List.mem_map_of_mem hx
            obtain ⟨b, _, hb⟩ := List.mem_map.1 h2
            have h3 := HPL.out b
            rw [← hb] at h1
            unfold pk at h1
            have h4 := HAL.out
            rw [h4] at h1 h3
            omega
          (try simp only [nsl, Value.cells, unB] at st)
          (try clear hc); have hc := st.facts; (try simp only [nfl, nft, Nat.reduceAdd] at hc)
          go_wp2_with fail
          refine (sortSets_s st 3 4 get3 get4 (by decide) (by omega) hxl).mono ?_
          rintro en w ⟨rfl, zs, ⟨hz1, hz2⟩, st'⟩
          clear st
          have st := st'
          clear st' hxl
          simp only [List.set] at st
          replace st := st.rssSub (i := 4) get4 hz2
          simp only [List.cons_append, List.nil_append] at st
          have HZ : Hid (zs.map (·.xs) = ll) := Lib.hid (by rw [hz1, HY2.out, HLY.out (by simp)])
          clear hz1 hz2
          (try simp only [nsl, Value.cells, unB] at st)
          (try clear hc); have hc := st.facts; (try simp only [nfl, nft, Nat.reduceAdd] at hc)
          go_wp2_with fail
          go_ret2
          have st2 := st.keep [3, 5] (by decide) (by simp)
          simp only [pick, List.map_cons, List.map_nil, List.getElem?_cons_zero, List.getElem?_cons_succ, Option.getD_some] at st2
          obtain ⟨q1, _⟩ := st2.rowFl4 (α := RsT) (i := 0) get0
          exact leastRes q1 HZ.out (st2.rowToFl (α := RsT) (i := 0) get0)
end Go.Proofs.YtcihjohgmhebiaaGreat

namespace Go.Proofs.YtcihjohgmhebiaaGreat
set_option linter.unusedSimpArgs false
set_option linter.unusedVariables false
open Go Go.RowKit
section
variable {fr al : Nat → Prop} {w0 w : World} {L : List It}
theorem Own.rsOf (st : Own fr al w0 L w) {i : Nat} {l : List RsT} (hi : L[i]? = some (rssI l)) {x : RsT} (hx : x ∈ l) : Own fr al w0 (L ++ [flI x.a x.n x.xs]) w :=
  st.share hi fun e s h1 => ⟨(h1 x hx).2.1, (h1 x hx).2.2⟩
theorem Own.flToEl {α : Type} [Flt α] (st : Own fr al w0 L w) {i n b off : Nat} {xs : List α} (l : List (Nat × Value)) (hi : L[i]? = some (flI (some ⟨b, off, none⟩) n xs)) (hn : 0 < n) (hl : ∀ p ∈ l, ∃ q, p.1 = off + q ∧ (cellsL xs)[q]? = some p.2) : Own fr al w0 (L ++ [elI b l]) w :=
  st.share hi fun e s h1 => ⟨h1.2 hn _ rfl, fun p hp => by
    obtain ⟨q, hq, hv⟩ := hl p hp
    have hf := h1.1.flat
    obtain ⟨ad, had, hc⟩ := hf.2 (by have := (List.getElem?_eq_some_iff.1 hv).1; omega)
    cases had
    have := hc q p.2 hv
    rw [addr_add] at this
    rw [hq]; exact this⟩
theorem Fl.at {α : Type} [Flt α] {a : Option Addr} {n : Nat} {xs : List α} (h : Fl w a n xs) (h0 : 0 < n) : ∃ b off, a = some ⟨b, off, none⟩ := by
  obtain ⟨b, off, h, _⟩ := h.2 h0
  exact ⟨b, off, h⟩
end
theorem run_equalIn_func_nil {P : Program} (w : World) (d : Nat) (t : TypeId) {ps rs : Array TypeId} {v : Bool} (f : Fn) (x y : Array Value) (h : P.underlying t = some (.func ps rs v)) :
    (Op.equalIn (d + 1) t (.func f x y) .nilFunc).run P w = .ok false w := by simp [Op.equalIn, run_underlying h]
@[go_sem high] theorem eqlNilFunc (f : Fn) (x y : Array Value) (w : World) : (binOp .eql 35 (.func f x y) .nilFunc).run Tryz.prog w = .ok (.bool false) w := by
  simp only [binOp]
  simp [Op.equal, Op.maxDepth, run_equalIn_func_nil w 9999 35 f x y Tryz.underlying35]
def FirstAre (W : World) (r : Option (List Role)) (e : Ending) (w' : World) : Prop := ∃ va n vc, e = .returned (.tuple #[.slice va n vc, .bool r.isSome]) ∧ (n ≤ vc ∧ vc ≤ maxLen) ∧ Own (fun _ => False) (fun _ => False) W [flI va n (r.getD [])] w'
theorem firstNone {W w : World} {L : List It} {r : Option (List Role)} (st : Own (fun _ => False) (fun _ => False) W L w) (h : r = none) : FirstAre W r (.returned (.tuple #[.slice none 0 0, .bool false])) w := by
  subst h
  have st2 : Own (fun _ => False) (fun _ => False) W [] w := st.keep [] (by simp) (by simp)
  exact ⟨none, 0, 0, rfl, ⟨Nat.le_refl _, by simp [maxLen]⟩, st2.bare (I := flI none 0 ([] : List Role)) ⟨Fl.nil _ _, fun h => by omega⟩⟩
theorem firstSome {W w : World} {r : Option (List Role)} {a : Option Addr} {n c : Nat} {xs : List Role} (st : Own (fun _ => False) (fun _ => False) W [flI a n xs] w) (hc : n ≤ c ∧ c ≤ maxLen) (h : r = some xs) : FirstAre W r (.returned (.tuple #[.slice a n c, .bool true])) w := by
  subst h
  exact ⟨a, n, c, rfl, hc, st⟩
set_option maxRecDepth 100000 in
set_option maxHeartbeats 1000000 in
theorem setsFirst1_any (b : Nat) (F : FuncId) (cap : Array Value) (r : Role) (v : Bool) (W : World) (hb : Blk W b [.func (.func F) #[] cap]) (hi : ∀ w x, (callFunc F (#[x] ++ cap)).run Tryz.prog w = .ok (.enter F (#[x] ++ cap)) w)
    (hp : ∀ w, Ext W w → Calls Tryz.prog F (#[rV r] ++ cap) w fun e w' => e = .returned (.bool v) ∧ Ext w w') :
    Calls Tryz.prog 29 #[rV r, .pointer (some ⟨b, 0, none⟩)] W fun e w' => e = .returned (.bool (!v)) ∧ Ext W w' := by
  have HH := Lib.hid hp
  have HB := Lib.hid hb
  clear hb hp
  obtain ⟨o, d⟩ := r
  have st := Own.startOld W
  unfold rV S at HH ⊢
  simp only at HH ⊢
  have r0 := HB.out.cell 0
  simp only [List.getElem?_cons_zero] at r0
  have hr0 := st.addEl (i := 0) get0 b 0 (.func (.func F) #[] cap) [] ⟨r0, trivial⟩
  replace st := hr0
  clear r0 hr0
  simp only [List.cons_append, List.nil_append] at st
  (try simp only [nsl, Value.cells, unB] at st)
  (try clear hc); have hc := st.facts; (try simp only [nfl, nft, elI, elF, Nat.reduceAdd] at hc)
  go_enter Tryz.func29, Tryz.ntmps29
  go_wp2_with ((((with_reducible refine wl_box ?_ (fun K hK => ?_)); rfl; refine owp_box (o := ⟨some 2, _, _, _, _, _⟩) rfl st ?_; apply Exists.intro; refine ⟨?_, ?_⟩; (focus (go_simp; try rfl)); (clear st; intro b2 w hb st; clear hb))); (try simp only [nsl, Value.cells, unB] at st); (try clear hc); have hc := st.facts; (try simp only [nfl, nft, elI, elF, Nat.reduceAdd] at hc))
  refine (HH.out _ st.ext0).mono ?_
  rintro en w ⟨rfl, hx⟩
  replace st := st.ext hx
  clear hx
  (try clear hc); have hc := st.facts; (try simp only [nfl, nft, elI, elF, Nat.reduceAdd] at hc)
  go_wp2_with ((((with_reducible refine wl_box ?_ (fun K hK => ?_)); rfl; refine owp_box (o := ⟨some 2, _, _, _, _, _⟩) rfl st ?_; apply Exists.intro; refine ⟨?_, ?_⟩; (focus (go_simp; try rfl)); (clear st; intro b2 w hb st; clear hb))); (try simp only [nsl, Value.cells, unB] at st); (try clear hc); have hc := st.facts; (try simp only [nfl, nft, elI, elF, Nat.reduceAdd] at hc))
  go_ret
  exact ⟨rfl, st.ext0⟩
theorem find_hit {p : List Role → Bool} {ys : List RsT} {j : Nat} {y : RsT} (h : ∀ x ∈ ys.take j, p x.xs = false) (hj : ys[j]? = some y) (hy : p y.xs = true) : (ys.map (·.xs)).find? p = some y.xs := by
  have e : ys = ys.take j ++ y :: ys.drop (j + 1) := by
    obtain ⟨hlt, rfl⟩ := List.getElem?_eq_some_iff.1 hj
    rw [← List.drop_eq_getElem_cons hlt, List.take_append_drop]
  rw [e, List.map_append, List.find?_append]
  have h1 : ((ys.take j).map (·.xs)).find? p = none := by
    rw [List.find?_eq_none]
    intro x hx
    obtain ⟨z, hz, rfl⟩ := List.mem_map.1 hx
    simp [h z hz]
  rw [h1]
  simp [hy]
theorem find_miss {p : List Role → Bool} {ys : List RsT} (h : ∀ x ∈ ys, p x.xs = false) : (ys.map (·.xs)).find? p = none := by
  rw [List.find?_eq_none]
  intro x hx
  obtain ⟨z, hz, rfl⟩ := List.mem_map.1 hx
  simp [h z hz]
theorem any_not_all (p : Role → Bool) (l : List Role) : (l.any fun r => !p r) = !(l.all p) := by rw [← List.not_all_eq_any_not]
theorem lsL_xs {f : Fo} {z : List Role} (h : z ∈ lsL f) : z.length ≤ 12 := by
  unfold lsL at h
  split at h
  · rename_i e
    have h1 := lsS_len2 h
    have h2 : ¬ 12 < (roleSet f.atoms).length := fun q => by
      cases hr : foR f with
      | true => rw [leastE_long hr (.inl q)] at e; cases e
      | false => rw [leastE_no hr] at e; cases e
    omega
  · simp at h
theorem lsL_128 (f : Fo) : (lsL f).length ≤ 128 := by
  unfold lsL
  split
  · rename_i e
    rw [lsS_len]
    refine Nat.le_of_not_lt fun q => ?_
    cases hr : foR f with
    | true => rw [leastE_long hr (.inr q)] at e; cases e
    | false => rw [leastE_no hr] at e; cases e
  · simp
set_option maxRecDepth 100000 in
set_option maxHeartbeats 4000000 in
theorem setsFirst_f (F : FuncId) (cap : Array Value) (p : Role → Bool) (hi : ∀ w x, (callFunc F (#[x] ++ cap)).run Tryz.prog w = .ok (.enter F (#[x] ++ cap)) w) (f : Fm) (W : World) (hf : FmOk W f) (hs : f.strip.nodes ≤ 1000000) (hl : FoL 100000 f.strip)
    (hp : ∀ r w, Ext W w → Calls Tryz.prog F (#[rV r] ++ cap) w fun e w' => e = .returned (.bool (p r)) ∧ Ext w w') :
    Calls Tryz.prog 9 #[fmV f, .func (.func F) #[] cap] W fun e w' => FirstAre W ((lsL f.strip).find? fun z => z.all p) e w' := by
  have HL := Lib.hid (fun W' (hx : Ext W W') => leastSets_f f W' (hf.ext hx) hs hl)
  have HC := Lib.hid (fun b a n c xs W' (hx : Ext W W') (hb : Blk W' b [.func (.func F) #[] cap]) (h : Fl W' a n xs) hn => roleContainsFunc_any a n c xs W' h hn 29 #[.pointer (some ⟨b, 0, none⟩)] (fun r => !p r) (fun _ _ => by kernel_rfl)
    (fun x _ w hw => setsFirst1_any b F cap x (p x) w (hb.ext hw) hi (fun w' hw' => hp x w' ((hx.trans hw).trans hw'))))
  have HLN := Lib.hid (@lsL_no f.strip)
  have HX := Lib.hid (fun z => lsL_xs (f := f.strip) (z := z))
  have HLEN := Lib.hid (lsL_128 f.strip)
  generalize leastE f.strip = er at *
  generalize lsL f.strip = ll at *
  clear hf hs hl hp
  obtain ⟨op, k, ⟨o, d⟩, fa, fn, fc, kids⟩ := f
  unfold fmV S at HL ⊢
  simp only at HL ⊢
  have st := Own.start (fun _ => False) (fun _ => False) W
  (try simp only [nsl, Value.cells, unB] at st)
  (try clear hc); have hc := st.facts; (try simp only [nfl, nft, Nat.reduceAdd] at hc)
  go_enter Tryz.func9, Tryz.ntmps9
  go_wp2_with ((first
        | ((with_reducible refine wl_box ?_ (fun K hK => ?_)); rfl; refine owp_box (o := ⟨some 2, _, _, _, _, _⟩) rfl st ?_; apply Exists.intro; refine ⟨?_, ?_⟩; (focus (go_simp; try rfl)); (clear st; intro b2 w hb st; clear hb))
        | ((with_reducible refine wl_box ?_ (fun K hK => ?_)); rfl; refine owp_box (o := ⟨some 3, _, _, _, _, _⟩) rfl st ?_; apply Exists.intro; refine ⟨?_, ?_⟩; (focus (go_simp; try rfl)); (clear st; intro b3 w hb st; clear hb))); (try simp only [nsl, Value.cells, unB] at st); (try clear hc); have hc := st.facts; (try simp only [nfl, nft, Nat.reduceAdd] at hc))
  refine (HL.out _ st.ext0).mono ?_
  rintro en w ⟨va, n, vc, ys, rfl, hvc, hy, h2⟩
  replace st := st.join h2
  clear h2 hvc
  simp only [List.cons_append, List.nil_append] at st
  have HY := Lib.hid hy
  clear hy
  by_cases her : er = 0
  · subst her
    have HN : Hid (n = ys.length) := Lib.hid (st.flAt (i := 2) get2).1
    have hn128 : n ≤ 128 := by
      have h1 := HLEN.out
      rw [← HY.out, List.length_map] at h1
      have := HN.out
      omega
    (try simp only [nsl, Value.cells, unB] at st)
    (try clear hc); have hc := st.facts; (try simp only [nfl, nft, Nat.reduceAdd] at hc)
    go_wp2_with fail
    go_loopg [23] n (fun q i wr => ∃ (j : Nat), j ≤ n ∧ q = n - j ∧ i = .int .i64 (j : Int) ∧ Hid (∀ x ∈ ys.take j, x.xs.all p = false) ∧ Own (fun _ => False) (fun _ => False) W [blkI b2 [.int .i64 op, .int .i64 k, .string ⟨o.toArray⟩, .string ⟨d.toArray⟩, .slice fa fn fc], blkI b3 [.func (.func F) #[] cap], flI va n ys, rssI ys] wr)
    case atStart => exact ⟨0, by omega, by omega, rfl, Lib.hid (by simp), st⟩
    case round =>
      obtain ⟨j, hj, rfl, rfl, HT, st'⟩ := hrel
      clear st hc
      have st := st'
      clear st'
      by_cases hjn : j < n
      · obtain ⟨bb, off, ha, hcell⟩ := (st.flAt (i := 2) get2).2 (by omega)
        have hjl : j < ys.length := by have := HN.out; omega
        have hgt := List.getElem?_eq_getElem hjl
        have hmem := List.getElem_mem hjl
        have htk : ys.take (j + 1) = ys.take j ++ [ys[j]] := (List.take_append_getElem hjl).symm
        generalize ys[j] = y at *
        have HYL : Hid (y.xs.length ≤ 12) := Lib.hid (HX.out _ (by rw [← HY.out]; exact List.mem_map_of_mem hmem))
        obtain ⟨hyc, hyf⟩ := st.rss (i := 3) get3 y hmem
        obtain ⟨ya, yn, yc, yx⟩ := y
        have r0 := hcell j ⟨ya, yn, yc, yx⟩ hgt 0 (.slice ya yn yc) rfl
        rw [show Flt.k RsT = 1 from rfl, Nat.mul_one, Nat.add_zero] at r0
        have hyn : yn ≤ 2000000 := by have := hyf.1; have := HYL.out; simp only at *; omega
        have HC2 := Lib.hid (fun b W' (hx : Ext W W') hb (h : Fl W' ya yn yx) => HC.out b ya yn yc yx W' hx hb h hyn)
        have HT2 := Lib.hid htk
        have HHIT : Hid (yx.all p = true → (ll.find? fun z => z.all p) = some yx) := Lib.hid (fun h => by rw [← HY.out]; exact find_hit (p := fun z => z.all p) (y := ⟨ya, yn, yc, yx⟩) HT.out hgt h)
        have HMEM := Lib.hid hmem
        rw [any_not_all] at HC2
        obtain ⟨v, hv⟩ : ∃ v, yx.all p = v := ⟨_, rfl⟩
        rw [hv] at HC2 HHIT
        have HV := Lib.hid hv
        simp only at hyc
        have HYC := Lib.hid hyc
        clear hcell hgt hjl hmem htk hyc hyf hyn hv
        subst ha
        (try simp only [nsl, Value.cells, unB] at st)
        (try clear hc); have hc := st.facts; (try simp only [nfl, nft, Nat.reduceAdd] at hc)
        go_wp2_with fail
        refine (HC2.out _ _ st.ext0 (st.blk (i := 1) get1) (by exact st.rss (i := 3) get3 _ HMEM.out |>.2)).mono ?_
        rintro en w ⟨rfl, hx⟩
        replace st := st.ext hx
        clear hx
        (try clear hc); have hc := st.facts; (try simp only [nfl, nft, Nat.reduceAdd] at hc)
        clear r0
        cases v with
        | true =>
          have HR := HHIT.out rfl
          go_wp2_with fail
          go_ret2
          have st2 := (st.rsOf (i := 3) get3 HMEM.out).keep [4] (by decide) (by simp)
          exact firstSome (by simpa [pick] using st2) HYC.out HR
        | false =>
          have HT3 : Hid (∀ x ∈ ys.take (j + 1), x.xs.all p = false) := Lib.hid (fun x hx => by
            rw [HT2.out] at hx
            rcases List.mem_append.1 hx with q | q
            · exact HT.out x q
            · rw [List.mem_singleton.1 q]; exact HV.out)
          go_wp2_with fail
          go_roundg (n - (j + 1))
          case measure => omega
          case rel => exact ⟨j + 1, by omega, by omega, by go_num, HT3, st⟩
      · obtain rfl : j = n := by omega
        have HR : Hid ((ll.find? fun z => z.all p) = none) := Lib.hid (by
          rw [← HY.out]
          exact find_miss (p := fun z => z.all p) (fun x hx => HT.out x (by rw [List.take_of_length_le (by have := HN.out; omega)]; exact hx)))
        (try simp only [nsl, Value.cells, unB] at st)
        (try clear hc); have hc := st.facts; (try simp only [nfl, nft, Nat.reduceAdd] at hc)
        go_wp2_with fail
        go_ret2
        exact firstNone st HR.out
  · have HR : Hid ((ll.find? fun z => z.all p) = none) := Lib.hid (by rw [HLN.out her]; rfl)
    have herb : (er == 0) = false := by simpa using her
    (try simp only [nsl, Value.cells, unB] at st)
    (try clear hc); have hc := st.facts; (try simp only [nfl, nft, Nat.reduceAdd] at hc)
    go_wp2_with fail
    go_ret2
    exact firstNone st HR.out
end Go.Proofs.YtcihjohgmhebiaaGreat

namespace Go.Proofs.YtcihjohgmhebiaaGreat
set_option linter.unusedSimpArgs false
set_option linter.unusedVariables false
open Go Go.RowKit
theorem Fl.rs {w : World} {a : Option Addr} {n : Nat} {ys : List RsT} (h : Fl w a n ys) (h0 : 0 < n) : ∃ b off, a = some ⟨b, off, none⟩ ∧ ∀ (j : Nat) (x : RsT), ys[j]? = some x → w.cell? ⟨b, off + j, none⟩ = some (.slice x.a x.n x.c) := by
  obtain ⟨b, off, e, hc⟩ := h.2 h0
  refine ⟨b, off, e, fun j x hj => ?_⟩
  have h1 : w.cell? ⟨b, off + j * 1 + 0, none⟩ = some (.slice x.a x.n x.c) := hc j x hj 0 _ rfl
  rwa [Nat.mul_one, Nat.add_zero] at h1
set_option maxRecDepth 100000 in
set_option maxHeartbeats 2000000 in
theorem refSetsSame_any (a : Option Addr) (n c : Nat) (ys : List RsT) (a' : Option Addr) (n' c' : Nat) (zs : List RsT) (W : World) (h : Fl W a n ys) (h' : Fl W a' n' zs) (hy : ∀ x ∈ ys, Fl W x.a x.n x.xs ∧ x.n ≤ 2000000) (hz : ∀ x ∈ zs, Fl W x.a x.n x.xs ∧ x.n ≤ 2000000) (hn : n ≤ 2000000) (hn' : n' ≤ 2000000) :
    Calls Tryz.prog 18 #[.slice a n c, .slice a' n' c'] W fun e w' => e = .returned (.bool (decide (ys.map (·.xs) = zs.map (·.xs)))) ∧ Ext W w' := by
  have H := Lib.hid h
  have H' := Lib.hid h'
  have HNL := Lib.hid (And.intro h.1 h'.1)
  have HS := Lib.hid (fun (x y : RsT) (hx : x ∈ ys) (hy' : y ∈ zs) W' (he : Ext W W') => refRoleSame_any x.a x.n x.c x.xs y.a y.n y.c y.xs W' (Arr.ext (hy x hx).1 he) (Arr.ext (hz y hy').1 he) (by have := (hy x hx).2; omega) (by have := (hz y hy').2; omega))
  clear h h' hy hz
  have st := Own.startOld W
  (try simp only [nsl, Value.cells, unB] at st)
  (try clear hc); have hc := st.facts; (try simp only [nfl, nft, Nat.reduceAdd] at hc)
  by_cases hnn : n = n'
  · subst hnn
    go_enter Tryz.func18, Tryz.ntmps18
    go_wp2_with fail
    go_loopg [13] n (fun q i wr => ∃ (j : Nat), j ≤ n ∧ q = n - j ∧ i = .int .i64 (j : Int) ∧ Hid ((ys.map (·.xs)).take j = (zs.map (·.xs)).take j) ∧ Own (fun _ => False) (fun _ => True) W [oldI W] wr)
    case atStart => exact ⟨0, by omega, by omega, rfl, Lib.hid (by simp), st⟩
    case round =>
      obtain ⟨j, hj, rfl, rfl, HT, st'⟩ := hrel
      clear st hc
      have st := st'
      clear st'
      (try simp only [nsl, Value.cells, unB] at st)
      (try clear hc); have hc := st.facts; (try simp only [nfl, nft, Nat.reduceAdd] at hc)
      by_cases hjn : j < n
      · obtain ⟨b, off, ha, hcell⟩ := Fl.rs H.out (by omega)
        obtain ⟨b', off', ha', hcell'⟩ := Fl.rs H'.out (by omega)
        have hjl : j < ys.length := by have := HNL.out; omega
        have hjl' : j < zs.length := by have := HNL.out; omega
        have HC := Lib.hid (And.intro (hcell j ys[j] (List.getElem?_eq_getElem hjl)) (hcell' j zs[j] (List.getElem?_eq_getElem hjl')))
        have hts : (ys.map (·.xs)).take (j + 1) = (ys.map (·.xs)).take j ++ [ys[j].xs] := by
          rw [← List.take_append_getElem (l := ys.map (·.xs)) (by simpa using hjl)]; simp
        have hts' : (zs.map (·.xs)).take (j + 1) = (zs.map (·.xs)).take j ++ [zs[j].xs] := by
          rw [← List.take_append_getElem (l := zs.map (·.xs)) (by simpa using hjl')]; simp
        have hne : ys[j].xs ≠ zs[j].xs → ys.map (·.xs) ≠ zs.map (·.xs) := fun h1 h2 => h1 (by
          have e : (ys.map (·.xs))[j]? = (zs.map (·.xs))[j]? := by rw [h2]
          rw [List.getElem?_map, List.getElem?_map, List.getElem?_eq_getElem hjl, List.getElem?_eq_getElem hjl'] at e
          exact Option.some.inj e)
        have hm := List.getElem_mem hjl
        have hm' := List.getElem_mem hjl'
        clear hcell hcell'
        generalize ys[j] = x at *
        generalize zs[j] = y at *
        have HL := Lib.hid (fun W' he => HS.out x y hm hm' W' he)
        have HX := Lib.hid (And.intro hts (And.intro hts' hne))
        clear hts hts' hne hm hm'
        subst ha
        subst ha'
        obtain ⟨xa, xn, xc, xx⟩ := x
        obtain ⟨ya, yn, yc, yy⟩ := y
        simp only at HC HL HX
        by_cases hv : xx = yy
        · rw [decide_eq_true hv] at HL
          have HF : Hid ((ys.map (·.xs)).take (j + 1) = (zs.map (·.xs)).take (j + 1)) := Lib.hid (by rw [HX.out.1, HX.out.2.1, HT.out, hv])
          clear hv
          go_wp2_with fail
          refine Rg4.wp_region4_eq #[0, 0, 3, 7, 0, 0, 48, 112, 255, 511] [8] [3, 7] (fun _ => True) [0, 1, 2, 3, 4, 5, 6, 7, 8, 9] (by kernel_rfl) (by kernel_rfl) (by kernel_rfl) (by kernel_rfl) (show Rg4.PB _ by repeat (first | with_reducible exact Rg4.pb_body | with_reducible exact Rg4.pb_bodyD rfl | with_reducible refine Rg4.pb_then ?_ | with_reducible refine Rg4.pb_inBlock ?_ | with_reducible refine Rg4.pb_noGoto ?_)) (trivial) ?_
          replace st := st.drew
          change Rg4.wp4 _ _ _ _ _ _ _ _ _ (World.drew _) _ _
          generalize World.drew _ = w at st ⊢
          (try clear hc); have hc := st.facts; (try simp only [nfl, nft, Nat.reduceAdd] at hc)
          iterate 3 (refine Rg4.w4_any (Rg4.want_none rfl) rfl ?_; apply Exists.intro; refine ⟨fun w' => ?_, ?_⟩; (focus (first | (go_simp; done) | (go_simp; first | rfl | (rw [if_neg] <;> first | rfl | omega) | (rw [if_pos] <;> first | rfl | omega)))); (try simp only [Rg4.nrm]))
          (refine Rg4.w4_read (Rg4.want_none rfl) rfl rfl ?_; apply Exists.intro; refine ⟨fun w' hw' hcl' => ?_, ?_⟩; focus (subst hw'; have r0 := st.oldCell (i := 0) get0 HC.out.1; have r1 := st.oldCell (i := 0) get0 HC.out.2; (focus (first | (go_simp; done) | (go_simp; first | rfl | (rw [if_neg] <;> first | rfl | omega) | (rw [if_pos] <;> first | rfl | omega))))); (try simp only [Rg4.nrm]))
          iterate 3 (refine Rg4.w4_any (Rg4.want_none rfl) rfl ?_; apply Exists.intro; refine ⟨fun w' => ?_, ?_⟩; (focus (first | (go_simp; done) | (go_simp; first | rfl | (rw [if_neg] <;> first | rfl | omega) | (rw [if_pos] <;> first | rfl | omega)))); (try simp only [Rg4.nrm]))
          (refine Rg4.w4_read (Rg4.want_none rfl) rfl rfl ?_; apply Exists.intro; refine ⟨fun w' hw' hcl' => ?_, ?_⟩; focus (subst hw'; have r0 := st.oldCell (i := 0) get0 HC.out.1; have r1 := st.oldCell (i := 0) get0 HC.out.2; (focus (first | (go_simp; done) | (go_simp; first | rfl | (rw [if_neg] <;> first | rfl | omega) | (rw [if_pos] <;> first | rfl | omega))))); (try simp only [Rg4.nrm]))
          refine Rg4.w4_bar (Rg4.want_none rfl) rfl (fun w' hw' hcl _ K hK => ?_)
          subst hw'
          go_wp2_with fail
          refine (HL.out _ st.ext0).mono ?_
          rintro en w ⟨rfl, hx⟩
          replace st := st.ext hx
          clear hx
          (try clear hc); have hc := st.facts; (try simp only [nfl, nft, Nat.reduceAdd] at hc)
          refine hK _ _ ⟨trivial, ?_⟩
          clear hK
          (try simp only [Rg4.nrm])
          (refine Rg4.w4_any (Rg4.want_none rfl) rfl ?_; apply Exists.intro; refine ⟨fun w' => ?_, ?_⟩; (focus (first | (go_simp; done) | (go_simp; first | rfl | (rw [if_neg] <;> first | rfl | omega) | (rw [if_pos] <;> first | rfl | omega)))); (try simp only [Rg4.nrm]))
          refine Rg4.w4_nil (fun w' hw' hcl' _ => ?_); subst hw'; clear hcl'
          go_wp2_with fail
          go_roundg (n - (j + 1))
          case measure => omega
          case rel => exact ⟨j + 1, by omega, by omega, by go_num, HF, st⟩
        · rw [decide_eq_false hv] at HL
          have HF : Hid (decide (ys.map (·.xs) = zs.map (·.xs)) = false) := Lib.hid (decide_eq_false (HX.out.2.2 hv))
          clear hv
          go_wp2_with fail
          refine Rg4.wp_region4_eq #[0, 0, 3, 7, 0, 0, 48, 112, 255, 511] [8] [3, 7] (fun _ => True) [0, 1, 2, 3, 4, 5, 6, 7, 8, 9] (by kernel_rfl) (by kernel_rfl) (by kernel_rfl) (by kernel_rfl) (show Rg4.PB _ by repeat (first | with_reducible exact Rg4.pb_body | with_reducible exact Rg4.pb_bodyD rfl | with_reducible refine Rg4.pb_then ?_ | with_reducible refine Rg4.pb_inBlock ?_ | with_reducible refine Rg4.pb_noGoto ?_)) (trivial) ?_
          replace st := st.drew
          change Rg4.wp4 _ _ _ _ _ _ _ _ _ (World.drew _) _ _
          generalize World.drew _ = w at st ⊢
          (try clear hc); have hc := st.facts; (try simp only [nfl, nft, Nat.reduceAdd] at hc)
          iterate 3 (refine Rg4.w4_any (Rg4.want_none rfl) rfl ?_; apply Exists.intro; refine ⟨fun w' => ?_, ?_⟩; (focus (first | (go_simp; done) | (go_simp; first | rfl | (rw [if_neg] <;> first | rfl | omega) | (rw [if_pos] <;> first | rfl | omega)))); (try simp only [Rg4.nrm]))
          (refine Rg4.w4_read (Rg4.want_none rfl) rfl rfl ?_; apply Exists.intro; refine ⟨fun w' hw' hcl' => ?_, ?_⟩; focus (subst hw'; have r0 := st.oldCell (i := 0) get0 HC.out.1; have r1 := st.oldCell (i := 0) get0 HC.out.2; (focus (first | (go_simp; done) | (go_simp; first | rfl | (rw [if_neg] <;> first | rfl | omega) | (rw [if_pos] <;> first | rfl | omega))))); (try simp only [Rg4.nrm]))
          iterate 3 (refine Rg4.w4_any (Rg4.want_none rfl) rfl ?_; apply Exists.intro; refine ⟨fun w' => ?_, ?_⟩; (focus (first | (go_simp; done) | (go_simp; first | rfl | (rw [if_neg] <;> first | rfl | omega) | (rw [if_pos] <;> first | rfl | omega)))); (try simp only [Rg4.nrm]))
          (refine Rg4.w4_read (Rg4.want_none rfl) rfl rfl ?_; apply Exists.intro; refine ⟨fun w' hw' hcl' => ?_, ?_⟩; focus (subst hw'; have r0 := st.oldCell (i := 0) get0 HC.out.1; have r1 := st.oldCell (i := 0) get0 HC.out.2; (focus (first | (go_simp; done) | (go_simp; first | rfl | (rw [if_neg] <;> first | rfl | omega) | (rw [if_pos] <;> first | rfl | omega))))); (try simp only [Rg4.nrm]))
          refine Rg4.w4_bar (Rg4.want_none rfl) rfl (fun w' hw' hcl _ K hK => ?_)
          subst hw'
          go_wp2_with fail
          refine (HL.out _ st.ext0).mono ?_
          rintro en w ⟨rfl, hx⟩
          replace st := st.ext hx
          clear hx
          (try clear hc); have hc := st.facts; (try simp only [nfl, nft, Nat.reduceAdd] at hc)
          refine hK _ _ ⟨trivial, ?_⟩
          clear hK
          (try simp only [Rg4.nrm])
          (refine Rg4.w4_any (Rg4.want_none rfl) rfl ?_; apply Exists.intro; refine ⟨fun w' => ?_, ?_⟩; (focus (first | (go_simp; done) | (go_simp; first | rfl | (rw [if_neg] <;> first | rfl | omega) | (rw [if_pos] <;> first | rfl | omega)))); (try simp only [Rg4.nrm]))
          refine Rg4.w4_nil (fun w' hw' hcl' _ => ?_); subst hw'; clear hcl'
          go_wp2_with fail
          go_ret
          exact ⟨by rw [HF.out]; rfl, st.ext0⟩
      · obtain rfl : j = n := by omega
        have HF : Hid (decide (ys.map (·.xs) = zs.map (·.xs)) = true) := Lib.hid (decide_eq_true (by
          have := HT.out
          rwa [List.take_of_length_le (by have := HNL.out; simp; omega), List.take_of_length_le (by have := HNL.out; simp; omega)] at this))
        go_wp2_with fail
        go_ret
        exact ⟨by rw [HF.out]; rfl, st.ext0⟩
  · have HF : Hid (decide (ys.map (·.xs) = zs.map (·.xs)) = false) := Lib.hid (decide_eq_false (fun e => hnn (by
      have := congrArg List.length e
      rw [List.length_map, List.length_map] at this
      have h2 := HNL.out
      omega)))
    go_enter Tryz.func18, Tryz.ntmps18
    go_wp2_with fail
    go_ret
    exact ⟨by rw [HF.out]; rfl, st.ext0⟩
end Go.Proofs.YtcihjohgmhebiaaGreat

namespace Go.Proofs.YtcihjohgmhebiaaGreat
set_option linter.unusedSimpArgs false
set_option linter.unusedVariables false
open Go Go.RowKit
theorem Fl.preR {w : World} {a : Option Addr} {n : Nat} {xs : List RsT} (h : Fl w a n xs) (j : Nat) (hj : j ≤ n) : Fl w a j (xs.take j) := by
  refine ⟨by have := h.1; simp; omega, fun h0 => ?_⟩
  obtain ⟨b, off, e, hc⟩ := h.2 (by omega)
  refine ⟨b, off, e, fun i x hi => hc i x ?_⟩
  have hij : i < j := by
    have := (List.getElem?_eq_some_iff.1 hi).1
    simp at this; omega
  rwa [List.getElem?_take_of_lt hij] at hi
theorem Fl.fromR {w : World} {b off n : Nat} {xs : List RsT} (h : Fl w (some ⟨b, off, none⟩) n xs) (p : Nat) (hp : p ≤ n) : Fl w (some ⟨b, off + p, none⟩) (n - p) (xs.drop p) := by
  have := h.part p (n - p) (by omega)
  rw [show Flt.k RsT = 1 from rfl, Nat.mul_one] at this
  rwa [List.take_of_length_le (by have := h.1; simp; omega)] at this
theorem Fl.fromIfR {w : World} {b off n c : Nat} {xs : List RsT} (h : Fl w (some ⟨b, off, none⟩) n xs) (p : Nat) (hp : p ≤ n) (hc : n ≤ c) : Fl w (if c = p then some ⟨b, off, none⟩ else some ⟨b, off + p, none⟩) (n - p) (xs.drop p) := by
  have h1 := h.fromR p hp
  split
  · have e : n - p = 0 := by omega
    have e2 : xs.drop p = [] := List.drop_of_length_le (by have := h.1; omega)
    rw [e, e2]
    exact Fl.nil _ _
  · exact h1
theorem Fl.restR {w : World} {n p : Nat} {xs : List RsT} (h : xs.length = n) (hp : n = p) (a' : Option Addr) : Fl w a' (n - p) (xs.drop p) := by
  have e : n - p = 0 := by omega
  have e2 : xs.drop p = [] := List.drop_of_length_le (by omega)
  rw [e, e2]
  exact Fl.nil _ _
theorem cells_insR (A B : List RsT) (a : Option Addr) (n c : Nat) (xs : List Role) : (cellsL A ++ [.slice a n c]) ++ cellsL B = cellsL (A ++ ⟨a, n, c, xs⟩ :: B) := by
  rw [cellsL_append, cellsL_cons, List.append_assoc]
  rfl
def SrR (l out : List RsT) : Prop := SrS (l.map (·.xs)) (out.map (·.xs)) ∧ ∀ x ∈ out, x ∈ l
theorem SrR.nil : SrR [] [] := ⟨SrS.nil, by simp⟩
theorem SrR.put {l A B : List RsT} {k : RsT} (h : SrR l (A ++ B)) (hB : ∀ x ∈ B, lessS k.xs x.xs = true) (hA : A = [] ∨ ∃ A1 u, A = A1 ++ [u] ∧ lessS k.xs u.xs = false) : SrR (l ++ [k]) (A ++ k :: B) := by
  refine ⟨?_, fun x hx => ?_⟩
  · have h1 := h.1
    rw [List.map_append] at h1
    rw [List.map_append, List.map_append, List.map_cons]
    refine SrS.put h1 (fun x hx => ?_) ?_
    · obtain ⟨y, hy, rfl⟩ := List.mem_map.1 hx
      exact hB y hy
    · rcases hA with q | ⟨A1, u, rfl, q⟩
      · exact .inl (by rw [q]; rfl)
      · exact .inr ⟨A1.map (·.xs), u.xs, by simp, q⟩
  · rcases List.mem_append.1 hx with q | q
    · exact List.mem_append_left _ (h.2 x (List.mem_append_left _ q))
    · rcases List.mem_cons.1 q with q | q
      · rw [q]; simp
      · exact List.mem_append_left _ (h.2 x (List.mem_append_right _ q))
set_option maxRecDepth 100000 in
set_option maxHeartbeats 8000000 in
theorem refSetsSorted_c {fr al : Nat → Prop} {W : World} {a : Option Addr} {n c : Nat} (l : List RsT) (st : Own fr al W [flI a n l, rssI l] W) (hn : n ≤ 1000000) (hB : ∀ x ∈ l, x.n ≤ 2000000) :
    Calls Tryz.prog 40 #[.slice a n c] W fun e w' => ∃ va m vc out, e = .returned (.slice va m vc) ∧ (SrR l out ∧ m ≤ vc ∧ vc ≤ maxLen) ∧ Own fr al W [flI a n l, rssI l, flI va m out, rssI out] w' := by
  have HN := Lib.hid (st.flAt (i := 0) get0).1
  have HCM := Lib.hid (fun x y (hx : x ∈ l) (hy : y ∈ l) W' (hw : ∀ z ∈ l, (z.n ≤ z.c ∧ z.c ≤ maxLen) ∧ Fl W' z.a z.n z.xs) => refSetLess_any x.a x.n x.c x.xs y.a y.n y.c y.xs W' (hw x hx).2 (hw y hy).2 (hB x hx) (hB y hy))
  clear hB
  (try simp only [nsl, Value.cells, unB] at st)
  (try clear hc); have hc := st.facts; (try simp only [nfl, nft, Nat.reduceAdd] at hc)
  go_enter Tryz.func40, Tryz.ntmps40
  go_wp2_with ((first
        | ((with_reducible refine wl_buildSlice ?_ (fun K hK => ?_)); rfl; refine owp_buildSlice (o := ⟨some 29, _, _, _, _, _⟩) rfl st ?_; apply Exists.intro; apply Exists.intro; apply Exists.intro; apply Exists.intro; refine ⟨?_, ?_⟩; (focus (go_simp; (first | done | exact ⟨⟨rfl, rfl⟩, rfl⟩ | rfl))); (clear st; intro b29 w hb st; clear hb))
        | ((with_reducible refine wl_buildSlice ?_ (fun K hK => ?_)); rfl; refine owp_buildSlice (o := ⟨some 36, _, _, _, _, _⟩) rfl st ?_; apply Exists.intro; apply Exists.intro; apply Exists.intro; apply Exists.intro; refine ⟨?_, ?_⟩; (focus (go_simp; (first | done | exact ⟨⟨rfl, rfl⟩, rfl⟩ | rfl))); (clear st; intro b36 w hb st; clear hb))); (try simp only [nsl, Value.cells, unB] at st); (try clear hc); have hc := st.facts; (try simp only [nfl, nft, Nat.reduceAdd] at hc))
  replace st := st.bare (I := flI none 0 ([] : List RsT)) ⟨Fl.nil _ _, fun h => by omega⟩
  simp only [List.cons_append, List.nil_append] at st
  go_loopg [3, 10] n (fun q ov i wr => ∃ (j m vc : Nat) (va : Option Addr) (out : List RsT), j ≤ n ∧ q = n - j ∧ ov = .slice va m vc ∧ i = .int .i64 (j : Int) ∧ (m ≤ j ∧ m ≤ vc ∧ vc ≤ maxLen) ∧ (0 < m ∨ (m = 0 ∧ vc = 0 ∧ va = none)) ∧ Hid (SrR (l.take j) out) ∧ Own fr al W [flI a n l, rssI l, flI va m out] wr)
  case atStart => exact ⟨0, 0, 0, none, [], by omega, by omega, rfl, rfl, ⟨by omega, by omega, by simp [maxLen]⟩, .inr ⟨rfl, rfl, rfl⟩, Lib.hid SrR.nil, st⟩
  case round =>
    obtain ⟨j, m, vc, va, out, hj, rfl, rfl, rfl, hm, hv0, HO, st'⟩ := hrel
    clear st hc
    have st := st'
    clear st'
    by_cases hjn : j < n
    · obtain ⟨lb, loff, hla, hcell⟩ := Fl.rs (st.flAt (i := 0) get0) (by omega)
      subst hla
      have hjl : j < l.length := by have := HN.out; omega
      obtain ⟨k, hk⟩ : ∃ k, l[j]? = some k := ⟨_, List.getElem?_eq_getElem hjl⟩
      have hkm : k ∈ l := List.mem_of_getElem? hk
      have htk : l.take (j + 1) = l.take j ++ [k] := by rw [List.take_add_one, hk]; rfl
      have HTK := Lib.hid htk
      have HKM := Lib.hid hkm
      have HOS := Lib.hid (fun x (hx : x ∈ out) => List.mem_of_mem_take (HO.out.2 x hx))
      have hml := (st.flAt (i := 2) get2).1
      have HML := Lib.hid hml
      have r0 := hcell j k hk
      obtain ⟨ka, kn, kc, kx⟩ := k
      simp only at r0
      have hm9 : m ≤ 1000000 := by omega
      clear hjl hk hkm htk hml hcell
      have hmv := hm.2.1
      have hvc9 : vc ≤ 9223372036854775807 := by have := hm.2.2; simp only [maxLen] at this; omega
      rcases hv0 with hpos | ⟨rfl, rfl, rfl⟩
      case inr =>
        obtain rfl : out = [] := List.eq_nil_of_length_eq_zero HML.out.symm
        have HPUT : Hid (SrR (l.take (j + 1)) ([] ++ ⟨ka, kn, kc, kx⟩ :: [])) := Lib.hid (by
          rw [HTK.out]
          exact SrR.put (A := []) (B := []) HO.out (by simp) (.inl rfl))
        obtain ⟨out, hout⟩ : ∃ o : List RsT, [] = o := ⟨_, rfl⟩
        rw [hout] at st HML
        have hE1 : out.take 0 = [] := by rw [← hout]; rfl
        have hE2 : out.drop 0 = [] := by rw [← hout]; rfl
        clear hout
        (try simp only [nsl, Value.cells, unB] at st)
        (try clear hc); have hc := st.facts; (try simp only [nfl, nft, Nat.reduceAdd] at hc)
        go_wp2_with ((first
              | ((with_reducible refine wl_buildSlice ?_ (fun K hK => ?_)); rfl; refine owp_buildSlice (o := ⟨some 29, _, _, _, _, _⟩) rfl st ?_; apply Exists.intro; apply Exists.intro; apply Exists.intro; apply Exists.intro; refine ⟨?_, ?_⟩; (focus (go_simp; (first | done | exact ⟨⟨rfl, rfl⟩, rfl⟩ | rfl))); (clear st; intro b29 w hb st; clear hb))
              | ((with_reducible refine wl_buildSlice ?_ (fun K hK => ?_)); rfl; refine owp_buildSlice (o := ⟨some 36, _, _, _, _, _⟩) rfl st ?_; apply Exists.intro; apply Exists.intro; apply Exists.intro; apply Exists.intro; refine ⟨?_, ?_⟩; (focus (go_simp; (first | done | exact ⟨⟨rfl, rfl⟩, rfl⟩ | rfl))); (clear st; intro b36 w hb st; clear hb))); (try simp only [nsl, Value.cells, unB] at st); (try clear hc); have hc := st.facts; (try simp only [nfl, nft, Nat.reduceAdd] at hc))
        clear r0
        go_loopg [6] 0 (fun q pv wr => q = 0 ∧ pv = .int .i64 0 ∧ Own fr al W [flI (some ⟨lb, loff, none⟩) n l, rssI l, flI none 0 out] wr)
        case atStart => exact ⟨rfl, rfl, st⟩
        case round =>
          obtain ⟨rfl, rfl, st'⟩ := hrel
          clear st hc
          have st := st'
          clear st'
          (try simp only [nsl, Value.cells, unB] at st)
          (try clear hc); have hc := st.facts; (try simp only [nfl, nft, Nat.reduceAdd] at hc)
          (try simp only [nsl, Value.cells, unB] at st)
          (try clear hc); have hc := st.facts; (try simp only [nfl, nft, Nat.reduceAdd] at hc)
          go_wp2_with (first
              | ((with_reducible refine wl_append ?_ (fun K hK => ?_)); (rfl); (obtain ⟨inf, hinf, hz0, hz1, hz2⟩ := rsInfo); (refine owp_append rfl st 3 get3 Tryz.underlying30 hinf hz0 hz1 hz2 rfl (by decide) rfl rfl ((by first | exact ((st.flAt (i := 2) get2).preR 0 (by omega)).flat | exact (st.blk (i := 4) get4).flat rfl | exact (Fl.fromIfR (st.flAt (i := 2) get2) 0 (by omega) (by omega)).flat | exact ((st.flAt (i := 2) get2).fromR 0 (by omega)).flat | exact (Fl.restR (HML.out).symm (by omega) _).flat | exact (Fl.nil (α := RsT) _ _).flat)) (by first | exact cellsL_all _ | simp [Value.oneCell']) (by simp only [maxLen]; omega) (by omega) ?_); (clear hinf hz0 hz1 hz2 inf); (clear st; intro v' w st); (obtain ⟨va', vc', rfl⟩ := own_slice (st.row (i := 3) get3)); (try simp only [nsl, Value.cells, unB] at st); (try simp only [Nat.zero_add] at st); (try clear hc); have hc := st.facts; (try simp only [nfl, nft, Nat.reduceAdd] at hc))
              | ((with_reducible refine wl_buildSlice ?_ (fun K hK => ?_)); (rfl); (refine owp_buildRow (o := ⟨some 29, _, _, _, _, _⟩) rfl st 27 1 ?_; refine ⟨0, #[], ?_, by simp, by simp [maxLen], ?_⟩; (focus (go_simp; (first | done | rfl))); (clear st; intro b29 w hb st; clear hb)); (try simp only [nsl, Value.cells, unB] at st); (try clear hc); have hc := st.facts; (try simp only [nfl, nft, Nat.reduceAdd] at hc))
              | ((first
                | ((with_reducible refine wl_buildSlice ?_ (fun K hK => ?_)); rfl; refine owp_buildSlice (o := ⟨some 29, _, _, _, _, _⟩) rfl st ?_; apply Exists.intro; apply Exists.intro; apply Exists.intro; apply Exists.intro; refine ⟨?_, ?_⟩; (focus (go_simp; (first | done | exact ⟨⟨rfl, rfl⟩, rfl⟩ | rfl))); (clear st; intro b29 w hb st; clear hb))
                | ((with_reducible refine wl_buildSlice ?_ (fun K hK => ?_)); rfl; refine owp_buildSlice (o := ⟨some 36, _, _, _, _, _⟩) rfl st ?_; apply Exists.intro; apply Exists.intro; apply Exists.intro; apply Exists.intro; refine ⟨?_, ?_⟩; (focus (go_simp; (first | done | exact ⟨⟨rfl, rfl⟩, rfl⟩ | rfl))); (clear st; intro b36 w hb st; clear hb))); (try simp only [nsl, Value.cells, unB] at st); (try clear hc); have hc := st.facts; (try simp only [nfl, nft, Nat.reduceAdd] at hc)))
          all_goals
            have hcl : (cellsL (out.take 0) ++ [.slice ka kn kc]) ++ cellsL (out.take 0) = cellsL ([] ++ (⟨ka, kn, kc, kx⟩ : RsT) :: []) := by
              rw [hE1]
              (try rw [hE1])
              exact cells_insR _ _ _ _ _ _
            (try rw [hcl] at st)
            clear hcl
            obtain ⟨hcap9, _⟩ := rowFl' (α := RsT) st (i := 3) get3
            obtain ⟨g9, cap9, hv9, _, _⟩ := st.rowAt (i := 3) get3 (by omega)
            injection hv9 with hv91 hv92 hv93
            subst hv91
            replace st := st.rowToFl (α := RsT) (i := 3) get3
            simp only [List.set] at st
            have st' := st.keep [0, 1, 3] (by decide) (by simp)
            go_roundg (n - (j + 1))
            case measure => omega
            case rel => exact ⟨j + 1, _, _, _, [] ++ (⟨ka, kn, kc, kx⟩ : RsT) :: [], by omega, by omega, rfl, by go_num, ⟨by omega, hcap9.1, hcap9.2⟩, .inl (by omega), HPUT, by simpa [pick] using st'⟩
      obtain ⟨ob, oo, rfl, hocell⟩ := Fl.rs (st.flAt (i := 2) get2) hpos
      clear hocell
      (try simp only [nsl, Value.cells, unB] at st)
      (try clear hc); have hc := st.facts; (try simp only [nfl, nft, Nat.reduceAdd] at hc)
      go_wp2_with ((first
            | ((with_reducible refine wl_buildSlice ?_ (fun K hK => ?_)); rfl; refine owp_buildSlice (o := ⟨some 29, _, _, _, _, _⟩) rfl st ?_; apply Exists.intro; apply Exists.intro; apply Exists.intro; apply Exists.intro; refine ⟨?_, ?_⟩; (focus (go_simp; (first | done | exact ⟨⟨rfl, rfl⟩, rfl⟩ | rfl))); (clear st; intro b29 w hb st; clear hb))
            | ((with_reducible refine wl_buildSlice ?_ (fun K hK => ?_)); rfl; refine owp_buildSlice (o := ⟨some 36, _, _, _, _, _⟩) rfl st ?_; apply Exists.intro; apply Exists.intro; apply Exists.intro; apply Exists.intro; refine ⟨?_, ?_⟩; (focus (go_simp; (first | done | exact ⟨⟨rfl, rfl⟩, rfl⟩ | rfl))); (clear st; intro b36 w hb st; clear hb))); (try simp only [nsl, Value.cells, unB] at st); (try clear hc); have hc := st.facts; (try simp only [nfl, nft, Nat.reduceAdd] at hc))
      clear r0
      go_loopg [6] (m + 1) (fun q pv wr => ∃ (p : Nat) (A B : List RsT), q = p + 1 ∧ p ≤ m ∧ pv = .int .i64 (p : Int) ∧ Hid (p = A.length ∧ out = A ++ B ∧ ∀ x ∈ B, lessS kx x.xs = true) ∧ Own fr al W [flI (some ⟨lb, loff, none⟩) n l, rssI l, flI (some ⟨ob, oo, none⟩) m out] wr)
      case atStart => exact ⟨m, out, [], rfl, Nat.le_refl _, rfl, Lib.hid ⟨HML.out, by simp, by simp⟩, st⟩
      case round =>
        obtain ⟨p, A, B, rfl, hpm, rfl, HP, st'⟩ := hrel
        clear st hc
        have st := st'
        clear st'
        obtain ⟨hp1, hp2, hp3⟩ := HP.out
        have ep1 : out.take p = A := by rw [hp2, hp1]; simp
        have ep2 : out.drop p = B := by rw [hp2, hp1]; simp
        rcases List.eq_nil_or_concat A with rfl | ⟨A', u, rfl⟩
        · obtain rfl : p = 0 := hp1
          have HPUT : Hid (SrR (l.take (j + 1)) ([] ++ ⟨ka, kn, kc, kx⟩ :: B)) := Lib.hid (by
            rw [HTK.out]
            have h := HO.out
            rw [hp2] at h
            exact SrR.put (A := []) h hp3 (.inl rfl))
          have HEP := Lib.hid (And.intro ep1 (show out = B by rw [hp2]; rfl))
          clear hp2 hp3 ep1 ep2 HP
          (try simp only [nsl, Value.cells, unB] at st)
          (try clear hc); have hc := st.facts; (try simp only [nfl, nft, Nat.reduceAdd] at hc)
          (try simp only [nsl, Value.cells, unB] at st)
          (try clear hc); have hc := st.facts; (try simp only [nfl, nft, Nat.reduceAdd] at hc)
          go_wp2_with (first
              | ((with_reducible refine wl_append ?_ (fun K hK => ?_)); (rfl); (obtain ⟨inf, hinf, hz0, hz1, hz2⟩ := rsInfo); (refine owp_append rfl st 3 get3 Tryz.underlying30 hinf hz0 hz1 hz2 rfl (by decide) rfl rfl ((by first | exact ((st.flAt (i := 2) get2).preR 0 hpm).flat | exact (st.blk (i := 4) get4).flat rfl | exact (Fl.fromIfR (st.flAt (i := 2) get2) 0 hpm hmv).flat | exact ((st.flAt (i := 2) get2).fromR 0 hpm).flat | exact (Fl.restR (HML.out).symm (by omega) _).flat | exact (Fl.nil (α := RsT) _ _).flat)) (by first | exact cellsL_all _ | simp [Value.oneCell']) (by simp only [maxLen]; omega) (by omega) ?_); (clear hinf hz0 hz1 hz2 inf); (clear st; intro v' w st); (obtain ⟨va', vc', rfl⟩ := own_slice (st.row (i := 3) get3)); (try simp only [nsl, Value.cells, unB] at st); (try simp only [Nat.zero_add] at st); (try clear hc); have hc := st.facts; (try simp only [nfl, nft, Nat.reduceAdd] at hc))
              | ((with_reducible refine wl_buildSlice ?_ (fun K hK => ?_)); (rfl); (refine owp_buildRow (o := ⟨some 29, _, _, _, _, _⟩) rfl st 27 1 ?_; refine ⟨0, #[], ?_, by simp, by simp [maxLen], ?_⟩; (focus (go_simp; (first | done | rfl))); (clear st; intro b29 w hb st; clear hb)); (try simp only [nsl, Value.cells, unB] at st); (try clear hc); have hc := st.facts; (try simp only [nfl, nft, Nat.reduceAdd] at hc))
              | ((first
                | ((with_reducible refine wl_buildSlice ?_ (fun K hK => ?_)); rfl; refine owp_buildSlice (o := ⟨some 29, _, _, _, _, _⟩) rfl st ?_; apply Exists.intro; apply Exists.intro; apply Exists.intro; apply Exists.intro; refine ⟨?_, ?_⟩; (focus (go_simp; (first | done | exact ⟨⟨rfl, rfl⟩, rfl⟩ | rfl))); (clear st; intro b29 w hb st; clear hb))
                | ((with_reducible refine wl_buildSlice ?_ (fun K hK => ?_)); rfl; refine owp_buildSlice (o := ⟨some 36, _, _, _, _, _⟩) rfl st ?_; apply Exists.intro; apply Exists.intro; apply Exists.intro; apply Exists.intro; refine ⟨?_, ?_⟩; (focus (go_simp; (first | done | exact ⟨⟨rfl, rfl⟩, rfl⟩ | rfl))); (clear st; intro b36 w hb st; clear hb))); (try simp only [nsl, Value.cells, unB] at st); (try clear hc); have hc := st.facts; (try simp only [nfl, nft, Nat.reduceAdd] at hc)))
          all_goals
            have hcl : (cellsL (out.take 0) ++ [.slice ka kn kc]) ++ cellsL (out) = cellsL ([] ++ (⟨ka, kn, kc, kx⟩ : RsT) :: B) := by
              rw [HEP.out.1]
              (try rw [HEP.out.2])
              exact cells_insR _ _ _ _ _ _
            (try rw [hcl] at st)
            clear hcl
            obtain ⟨hcap9, _⟩ := rowFl' (α := RsT) st (i := 3) get3
            obtain ⟨g9, cap9, hv9, _, _⟩ := st.rowAt (i := 3) get3 (by omega)
            injection hv9 with hv91 hv92 hv93
            subst hv91
            replace st := st.rowToFl (α := RsT) (i := 3) get3
            simp only [List.set] at st
            have st' := st.keep [0, 1, 3] (by decide) (by simp)
            go_roundg (n - (j + 1))
            case measure => omega
            case rel => exact ⟨j + 1, _, _, _, [] ++ (⟨ka, kn, kc, kx⟩ : RsT) :: B, by omega, by omega, rfl, by go_num, ⟨by omega, hcap9.1, hcap9.2⟩, .inl (by omega), HPUT, by simpa [pick] using st'⟩
        · rw [List.concat_eq_append] at hp1 hp2 ep1
          obtain ⟨p', hpp⟩ : ∃ q, p = q + 1 := ⟨A'.length, by rw [hp1]; simp⟩
          have hp1' : p' = A'.length := by simp at hp1; omega
          have w8 : IntKind.i64.wrap ((p : Int) - 1) = (p' : Int) := by rw [show ((p : Int) - 1) = (p' : Int) by omega]; exact IntWalk.i64_in _ ⟨by omega, by omega⟩
          have hgt : decide (0 < p) = true := by simp; omega
          have hu : out[p']? = some u := by rw [hp2, hp1']; simp
          have hum : u ∈ l := HOS.out u (List.mem_of_getElem? hu)
          have HC2 := Lib.hid (fun W' hw => HCM.out ⟨ka, kn, kc, kx⟩ u HKM.out hum W' hw)
          obtain ⟨_, _, hoe, hocell⟩ := Fl.rs (st.flAt (i := 2) get2) hpos
          injection hoe with hoe
          injection hoe with hoe1 hoe2
          subst hoe1 hoe2
          have r0 := hocell p' u hu
          clear hocell
          obtain ⟨lv, hlv⟩ : ∃ z, lessS kx u.xs = z := ⟨_, rfl⟩
          simp only at HC2
          rw [hlv] at HC2
          obtain ⟨ua, un, uc, ux⟩ := u
          simp only at HC2 r0 hlv
          have hpn : p' < m := by omega
          have HPP := Lib.hid hpp
          clear hpp
          have HEP := Lib.hid (And.intro ep1 ep2)
          cases lv with
          | true =>
            have HP2 : Hid (p' = A'.length ∧ out = A' ++ (⟨ua, un, uc, ux⟩ :: B) ∧ ∀ x ∈ (⟨ua, un, uc, ux⟩ : RsT) :: B, lessS kx x.xs = true) := Lib.hid ⟨hp1', by rw [hp2]; simp, fun x hx => by
              rcases List.mem_cons.1 hx with e | e
              · rw [e]; exact hlv
              · exact hp3 x e⟩
            clear hp1 hp2 hp3 hp1' hu hum hlv ep1 ep2 HP
            (try simp only [nsl, Value.cells, unB] at st)
            (try clear hc); have hc := st.facts; (try simp only [nfl, nft, Nat.reduceAdd] at hc)
            go_wp2_with fail
            refine (HC2.out _ (st.rss (i := 1) get1)).mono ?_
            rintro en w ⟨rfl, hx⟩
            replace st := st.ext hx
            clear hx
            (try clear hc); have hc := st.facts; (try simp only [nfl, nft, Nat.reduceAdd] at hc)
            clear r0
            go_wp2_with fail
            go_roundg (p' + 1)
            case measure => have := HPP.out; omega
            case rel => exact ⟨p', A', ⟨ua, un, uc, ux⟩ :: B, rfl, by omega, by first | rfl | rw [← w8], HP2, st⟩
          | false =>
            have HPUT : Hid (SrR (l.take (j + 1)) ((A' ++ [⟨ua, un, uc, ux⟩]) ++ ⟨ka, kn, kc, kx⟩ :: B)) := Lib.hid (by
              rw [HTK.out]
              have h := HO.out
              rw [hp2] at h
              exact SrR.put h hp3 (.inr ⟨_, _, rfl, hlv⟩))
            clear hp1 hp2 hp3 hp1' hu hum hlv ep1 ep2 HP
            (try simp only [nsl, Value.cells, unB] at st)
            (try clear hc); have hc := st.facts; (try simp only [nfl, nft, Nat.reduceAdd] at hc)
            go_wp2_with fail
            refine (HC2.out _ (st.rss (i := 1) get1)).mono ?_
            rintro en w ⟨rfl, hx⟩
            replace st := st.ext hx
            clear hx
            (try clear hc); have hc := st.facts; (try simp only [nfl, nft, Nat.reduceAdd] at hc)
            clear r0
            (try simp only [nsl, Value.cells, unB] at st)
            (try clear hc); have hc := st.facts; (try simp only [nfl, nft, Nat.reduceAdd] at hc)
            go_wp2_with (first
                | ((with_reducible refine wl_append ?_ (fun K hK => ?_)); (rfl); (obtain ⟨inf, hinf, hz0, hz1, hz2⟩ := rsInfo); (refine owp_append rfl st 3 get3 Tryz.underlying30 hinf hz0 hz1 hz2 rfl (by decide) rfl rfl ((by first | exact ((st.flAt (i := 2) get2).preR p hpm).flat | exact (st.blk (i := 4) get4).flat rfl | exact (Fl.fromIfR (st.flAt (i := 2) get2) p hpm hmv).flat | exact ((st.flAt (i := 2) get2).fromR p hpm).flat | exact (Fl.restR (HML.out).symm (by omega) _).flat | exact (Fl.nil (α := RsT) _ _).flat)) (by first | exact cellsL_all _ | simp [Value.oneCell']) (by simp only [maxLen]; omega) (by omega) ?_); (clear hinf hz0 hz1 hz2 inf); (clear st; intro v' w st); (obtain ⟨va', vc', rfl⟩ := own_slice (st.row (i := 3) get3)); (try simp only [nsl, Value.cells, unB] at st); (try simp only [Nat.zero_add] at st); (try clear hc); have hc := st.facts; (try simp only [nfl, nft, Nat.reduceAdd] at hc))
                | ((with_reducible refine wl_buildSlice ?_ (fun K hK => ?_)); (rfl); (refine owp_buildRow (o := ⟨some 29, _, _, _, _, _⟩) rfl st 27 1 ?_; refine ⟨0, #[], ?_, by simp, by simp [maxLen], ?_⟩; (focus (go_simp; (first | done | rfl))); (clear st; intro b29 w hb st; clear hb)); (try simp only [nsl, Value.cells, unB] at st); (try clear hc); have hc := st.facts; (try simp only [nfl, nft, Nat.reduceAdd] at hc))
                | ((first
                  | ((with_reducible refine wl_buildSlice ?_ (fun K hK => ?_)); rfl; refine owp_buildSlice (o := ⟨some 29, _, _, _, _, _⟩) rfl st ?_; apply Exists.intro; apply Exists.intro; apply Exists.intro; apply Exists.intro; refine ⟨?_, ?_⟩; (focus (go_simp; (first | done | exact ⟨⟨rfl, rfl⟩, rfl⟩ | rfl))); (clear st; intro b29 w hb st; clear hb))
                  | ((with_reducible refine wl_buildSlice ?_ (fun K hK => ?_)); rfl; refine owp_buildSlice (o := ⟨some 36, _, _, _, _, _⟩) rfl st ?_; apply Exists.intro; apply Exists.intro; apply Exists.intro; apply Exists.intro; refine ⟨?_, ?_⟩; (focus (go_simp; (first | done | exact ⟨⟨rfl, rfl⟩, rfl⟩ | rfl))); (clear st; intro b36 w hb st; clear hb))); (try simp only [nsl, Value.cells, unB] at st); (try clear hc); have hc := st.facts; (try simp only [nfl, nft, Nat.reduceAdd] at hc)))
            all_goals
              have hcl : (cellsL (out.take p) ++ [.slice ka kn kc]) ++ cellsL (out.drop p) = cellsL ((A' ++ [⟨ua, un, uc, ux⟩]) ++ (⟨ka, kn, kc, kx⟩ : RsT) :: B) := by
                rw [HEP.out.1]
                (try rw [HEP.out.2])
                exact cells_insR _ _ _ _ _ _
              (try rw [hcl] at st)
              clear hcl
              obtain ⟨hcap9, _⟩ := rowFl' (α := RsT) st (i := 3) get3
              obtain ⟨g9, cap9, hv9, _, _⟩ := st.rowAt (i := 3) get3 (by omega)
              injection hv9 with hv91 hv92 hv93
              subst hv91
              replace st := st.rowToFl (α := RsT) (i := 3) get3
              simp only [List.set] at st
              have st' := st.keep [0, 1, 3] (by decide) (by simp)
              go_roundg (n - (j + 1))
              case measure => omega
              case rel => exact ⟨j + 1, _, _, _, (A' ++ [⟨ua, un, uc, ux⟩]) ++ (⟨ka, kn, kc, kx⟩ : RsT) :: B, by omega, by omega, rfl, by go_num, ⟨by omega, hcap9.1, hcap9.2⟩, .inl (by omega), HPUT, by simpa [pick] using st'⟩
    · obtain rfl : j = n := by omega
      have HE : Hid (SrR l out ∧ m ≤ vc ∧ vc ≤ maxLen) := Lib.hid ⟨by have h := HO.out; rwa [List.take_of_length_le (by have := HN.out; omega)] at h, hm.2.1, hm.2.2⟩
      clear hm hv0
      replace st := st.rssSub (i := 1) get1 (fun x hx => HE.out.1.2 x hx)
      simp only [List.cons_append, List.nil_append] at st
      (try simp only [nsl, Value.cells, unB] at st)
      (try clear hc); have hc := st.facts; (try simp only [nfl, nft, Nat.reduceAdd] at hc)
      go_wp2_with fail
      go_ret
      exact ⟨va, m, vc, out, rfl, HE.out, st⟩
end Go.Proofs.YtcihjohgmhebiaaGreat

namespace Go.Proofs.YtcihjohgmhebiaaGreat
set_option linter.unusedSimpArgs false
set_option linter.unusedVariables false
open Go Go.RowKit
set_option maxRecDepth 100000 in
set_option maxHeartbeats 2000000 in
theorem refTrue11_any (f : Fm) (la : Option Addr) (ln lc : Nat) (l : List Role) (hln : ln ≤ 2000000) : ∀ (W : World), FmOk W f → Fl W la ln l →
    Calls Tryz.prog 19 #[fmV f, .slice la ln lc] W fun e w' => e = .returned (.bool (f.strip.holds fun r => decide (r ∈ l))) ∧ Ext W w' := by
  obtain ⟨p, hpe⟩ : ∃ p : Role → Bool, (fun r => decide (r ∈ l)) = p := ⟨_, rfl⟩
  have HP := Lib.hid (fun W' r (h : Fl W' la ln l) => (show decide (r ∈ l) = p r by rw [← hpe]) ▸ refRoleHas_any la ln lc l r W' h hln)
  rw [hpe]
  clear hpe hln
  induction f using Fm.ind
  rename_i op k r a n c kids ih
  intro W hok hF
  obtain ⟨o, d⟩ := r
  rw [strip_mk] at *
  rw [Fo.holds, List.length_map]
  have st := Own.startOld W
  unfold fmV S
  simp only
  by_cases o1 : op = 1
  · subst o1
    rw [if_pos rfl]
    have HP := Lib.hid (fun w (hx : Ext W w) => HP.out w (o, d) (Arr.ext hF hx))
    unfold rV S at HP
    simp only at HP
    obtain ⟨v, hv⟩ : ∃ v, p (o, d) = v := ⟨_, rfl⟩
    rw [hv] at HP ⊢
    clear hok ih hv hF
    (try simp only [nsl, Value.cells, unB] at st)
    (try clear hc); have hc := st.facts; (try simp only [nfl, nft, Nat.reduceAdd] at hc)
    go_enter Tryz.func19, Tryz.ntmps19
    go_wp2_with ((first
          | ((with_reducible refine wl_box ?_ (fun K hK => ?_)); rfl; refine owp_box (o := ⟨some 2, _, _, _, _, _⟩) rfl st ?_; apply Exists.intro; refine ⟨?_, ?_⟩; (focus (go_simp; try rfl)); (clear st; intro b2 w hb st; clear hb))
          | ((with_reducible refine wl_alloc ?_ (fun K hK => ?_)); rfl; refine owp_alloc (o := ⟨some 7, _, _, _, _, _⟩) rfl st ?_; apply Exists.intro; apply Exists.intro; refine ⟨?_, ?_⟩; (focus (first | (go_simp; done) | (go_simp; rfl))); (clear st; intro b7 w hb st; clear hb))
          | ((with_reducible refine wl_store ?_ (fun K hK => ?_)); rfl; refine owp_store rfl st ?_; apply Exists.intro; apply Exists.intro; refine ⟨?_, ?_, ?_⟩; (focus (go_simp; try rfl)); (focus (go_simp; try rfl)); (first | (with_reducible refine ⟨0, _, _, _, _, get0, rfl, rfl, ?_, ?_, ?_, ?_⟩) | (with_reducible refine ⟨1, _, _, _, _, get1, rfl, rfl, ?_, ?_, ?_, ?_⟩) | (with_reducible refine ⟨2, _, _, _, _, get2, rfl, rfl, ?_, ?_, ?_, ?_⟩) | (with_reducible refine ⟨3, _, _, _, _, get3, rfl, rfl, ?_, ?_, ?_, ?_⟩) | (with_reducible refine ⟨4, _, _, _, _, get4, rfl, rfl, ?_, ?_, ?_, ?_⟩)); (kernel_rfl); (simp [Value.cells]); (rfl); (clear st; intro w st))); (try simp only [nsl, Value.cells, unB] at st); (try clear hc); have hc := st.facts; (try simp only [nfl, nft, Nat.reduceAdd] at hc))
    refine (HP.out _ st.ext0).mono ?_
    rintro en w ⟨rfl, hx⟩
    replace st := st.ext hx
    clear hx
    (try clear hc); have hc := st.facts; (try simp only [nfl, nft, Nat.reduceAdd] at hc)
    go_wp2_with ((first
          | ((with_reducible refine wl_box ?_ (fun K hK => ?_)); rfl; refine owp_box (o := ⟨some 2, _, _, _, _, _⟩) rfl st ?_; apply Exists.intro; refine ⟨?_, ?_⟩; (focus (go_simp; try rfl)); (clear st; intro b2 w hb st; clear hb))
          | ((with_reducible refine wl_alloc ?_ (fun K hK => ?_)); rfl; refine owp_alloc (o := ⟨some 7, _, _, _, _, _⟩) rfl st ?_; apply Exists.intro; apply Exists.intro; refine ⟨?_, ?_⟩; (focus (first | (go_simp; done) | (go_simp; rfl))); (clear st; intro b7 w hb st; clear hb))
          | ((with_reducible refine wl_store ?_ (fun K hK => ?_)); rfl; refine owp_store rfl st ?_; apply Exists.intro; apply Exists.intro; refine ⟨?_, ?_, ?_⟩; (focus (go_simp; try rfl)); (focus (go_simp; try rfl)); (first | (with_reducible refine ⟨0, _, _, _, _, get0, rfl, rfl, ?_, ?_, ?_, ?_⟩) | (with_reducible refine ⟨1, _, _, _, _, get1, rfl, rfl, ?_, ?_, ?_, ?_⟩) | (with_reducible refine ⟨2, _, _, _, _, get2, rfl, rfl, ?_, ?_, ?_, ?_⟩) | (with_reducible refine ⟨3, _, _, _, _, get3, rfl, rfl, ?_, ?_, ?_, ?_⟩) | (with_reducible refine ⟨4, _, _, _, _, get4, rfl, rfl, ?_, ?_, ?_, ?_⟩)); (kernel_rfl); (simp [Value.cells]); (rfl); (clear st; intro w st))); (try simp only [nsl, Value.cells, unB] at st); (try clear hc); have hc := st.facts; (try simp only [nfl, nft, Nat.reduceAdd] at hc))
    go_ret
    exact ⟨rfl, st.ext0⟩
  · rw [if_neg o1]
    have hob : (op == 1) = false := by simpa using o1
    have HOK := Lib.hid hok
    have HI := Lib.hid ih
    have HF := Lib.hid hF
    have HN : Hid (n = kids.length) := Lib.hid hok.fl.1
    have hn : n ≤ 9223372036854775807 := by have := hok.cap; simp only [maxLen] at this; omega
    have HT : Hid (∀ j, holdsL p ((kids.take j).map Fm.strip) ≤ n) := Lib.hid (fun j => by have := holdsL_le p ((kids.take j).map Fm.strip); rw [List.length_map, List.length_take] at this; have := hok.fl.1; omega)
    obtain ⟨v, hv⟩ : ∃ v, truth op k kids.length (holdsL p (kids.map Fm.strip)) = v := ⟨_, rfl⟩
    have HV0 := Lib.hid hv
    rw [hv]
    clear hok ih hF o1 hv
    (try simp only [nsl, Value.cells, unB] at st)
    (try clear hc); have hc := st.facts; (try simp only [nfl, nft, Nat.reduceAdd] at hc)
    go_enter Tryz.func19, Tryz.ntmps19
    go_wp2_with ((first
          | ((with_reducible refine wl_box ?_ (fun K hK => ?_)); rfl; refine owp_box (o := ⟨some 2, _, _, _, _, _⟩) rfl st ?_; apply Exists.intro; refine ⟨?_, ?_⟩; (focus (go_simp; try rfl)); (clear st; intro b2 w hb st; clear hb))
          | ((with_reducible refine wl_alloc ?_ (fun K hK => ?_)); rfl; refine owp_alloc (o := ⟨some 7, _, _, _, _, _⟩) rfl st ?_; apply Exists.intro; apply Exists.intro; refine ⟨?_, ?_⟩; (focus (first | (go_simp; done) | (go_simp; rfl))); (clear st; intro b7 w hb st; clear hb))
          | ((with_reducible refine wl_store ?_ (fun K hK => ?_)); rfl; refine owp_store rfl st ?_; apply Exists.intro; apply Exists.intro; refine ⟨?_, ?_, ?_⟩; (focus (go_simp; try rfl)); (focus (go_simp; try rfl)); (first | (with_reducible refine ⟨0, _, _, _, _, get0, rfl, rfl, ?_, ?_, ?_, ?_⟩) | (with_reducible refine ⟨1, _, _, _, _, get1, rfl, rfl, ?_, ?_, ?_, ?_⟩) | (with_reducible refine ⟨2, _, _, _, _, get2, rfl, rfl, ?_, ?_, ?_, ?_⟩) | (with_reducible refine ⟨3, _, _, _, _, get3, rfl, rfl, ?_, ?_, ?_, ?_⟩) | (with_reducible refine ⟨4, _, _, _, _, get4, rfl, rfl, ?_, ?_, ?_, ?_⟩)); (kernel_rfl); (simp [Value.cells]); (rfl); (clear st; intro w st))); (try simp only [nsl, Value.cells, unB] at st); (try clear hc); have hc := st.facts; (try simp only [nfl, nft, Nat.reduceAdd] at hc))
    go_loopg [5, 18] n (fun q s i wr => ∃ (j g : Nat), j ≤ n ∧ q = n - j ∧ s = .int .i64 (g : Int) ∧ i = .int .i64 (j : Int) ∧ g ≤ j ∧ Hid (g = holdsL p ((kids.take j).map Fm.strip)) ∧ Own (fun _ => False) (fun _ => True) W [oldI W, blkI b2 [.int .i64 op, .int .i64 k, .string ⟨o.toArray⟩, .string ⟨d.toArray⟩, .slice a n c]] wr)
    case atStart => exact ⟨0, 0, by omega, by omega, rfl, rfl, by omega, Lib.hid (by simp [holdsL]), st⟩
    case round =>
      obtain ⟨j, g, hj, rfl, rfl, rfl, hg, HG, st'⟩ := hrel
      clear st hc
      have st := st'
      clear st'
      by_cases hjn : j < n
      · obtain ⟨b, off, ha, hcell⟩ := (HOK.out.ext st.ext0).fl.fm (by omega)
        have hjl : j < kids.length := by have := HN.out; omega
        have hsn := map_snoc_strip kids j hjl
        have hok := HOK.out.kids _ (List.getElem_mem hjl)
        have hih := HI.out _ (List.getElem_mem hjl)
        have hgt := List.getElem?_eq_getElem hjl
        generalize kids[j] = x at *
        have HC := Lib.hid (fun W' (hx : Ext W W') => hih W' (hok.ext hx) (Arr.ext HF.out hx))
        obtain ⟨sx, hsx⟩ : ∃ v, x.strip = v := ⟨_, rfl⟩
        rw [hsx] at HC hsn
        obtain ⟨hv, hhv⟩ : ∃ v, sx.holds p = v := ⟨_, rfl⟩
        have HG2 : Hid (g + (if hv then 1 else 0) = holdsL p ((kids.take (j + 1)).map Fm.strip)) := Lib.hid (by rw [hsn, holdsL_snoc, HG.out, hhv])
        rw [hhv] at HC
        clear hsx hsn hih hjl hok hhv
        obtain ⟨op', k', ⟨o', d'⟩, a', n', c', kids'⟩ := x
        obtain ⟨r0, r1, r2, r3, r4⟩ := hcell j op' k' (o', d') a' n' c' kids' hgt
        unfold fmV S at HC
        simp only at HC
        clear hcell hgt
        subst ha
        unfold S at r2 r3
        simp only at r2 r3
        (try simp only [nsl, Value.cells, unB] at st)
        (try clear hc); have hc := st.facts; (try simp only [nfl, nft, Nat.reduceAdd] at hc)
        go_wp2_with ((first
              | ((with_reducible refine wl_box ?_ (fun K hK => ?_)); rfl; refine owp_box (o := ⟨some 2, _, _, _, _, _⟩) rfl st ?_; apply Exists.intro; refine ⟨?_, ?_⟩; (focus (go_simp; try rfl)); (clear st; intro b2 w hb st; clear hb))
              | ((with_reducible refine wl_alloc ?_ (fun K hK => ?_)); rfl; refine owp_alloc (o := ⟨some 7, _, _, _, _, _⟩) rfl st ?_; apply Exists.intro; apply Exists.intro; refine ⟨?_, ?_⟩; (focus (first | (go_simp; done) | (go_simp; rfl))); (clear st; intro b7 w hb st; clear hb))
              | ((with_reducible refine wl_store ?_ (fun K hK => ?_)); rfl; refine owp_store rfl st ?_; apply Exists.intro; apply Exists.intro; refine ⟨?_, ?_, ?_⟩; (focus (go_simp; try rfl)); (focus (go_simp; try rfl)); (first | (with_reducible refine ⟨0, _, _, _, _, get0, rfl, rfl, ?_, ?_, ?_, ?_⟩) | (with_reducible refine ⟨1, _, _, _, _, get1, rfl, rfl, ?_, ?_, ?_, ?_⟩) | (with_reducible refine ⟨2, _, _, _, _, get2, rfl, rfl, ?_, ?_, ?_, ?_⟩) | (with_reducible refine ⟨3, _, _, _, _, get3, rfl, rfl, ?_, ?_, ?_, ?_⟩) | (with_reducible refine ⟨4, _, _, _, _, get4, rfl, rfl, ?_, ?_, ?_, ?_⟩)); (kernel_rfl); (simp [Value.cells]); (rfl); (clear st; intro w st))); (try simp only [nsl, Value.cells, unB] at st); (try clear hc); have hc := st.facts; (try simp only [nfl, nft, Nat.reduceAdd] at hc))
        clear r0 r1 r2 r3 r4
        refine (HC.out _ st.ext0).mono ?_
        rintro en w ⟨rfl, hx⟩
        replace st := st.ext hx
        clear hx
        (try clear hc); have hc := st.facts; (try simp only [nfl, nft, Nat.reduceAdd] at hc)
        cases hv with
        | true =>
          go_wp2_with fail
          have st' := st.keep [0, 1] (by decide) (by simp)
          go_roundg (n - (j + 1))
          case measure => omega
          case rel => exact ⟨j + 1, g + 1, by omega, by omega, by go_num, by go_num, by omega, HG2, by simpa [pick] using st'⟩
        | false =>
          go_wp2_with fail
          have st' := st.keep [0, 1] (by decide) (by simp)
          go_roundg (n - (j + 1))
          case measure => omega
          case rel => exact ⟨j + 1, g, by omega, by omega, rfl, by go_num, by omega, HG2, by simpa [pick] using st'⟩
      · obtain rfl : n = j := by omega
        have HE : Hid (holdsL p (kids.map Fm.strip) = g) := Lib.hid (by rw [HG.out, List.take_of_length_le (by have := HN.out; omega)])
        have HV : Hid (v = if op = 2 then decide (g = n) else if op = 3 then decide (0 < g) else decide (k ≤ (g : Int))) := Lib.hid (by rw [← HV0.out, HE.out, ← HN.out]; rfl)
        by_cases o2 : op = 2
        · subst o2
          have H := Lib.hid (HV.out.trans (if_pos rfl))
          by_cases gn : g = n
          · have H2 : Hid (v = true) := Lib.hid (by rw [H.out]; simpa using gn)
            have gb : ((g : Int) == (n : Int)) = true := by simp; omega
            clear gn
            (try simp only [nsl, Value.cells, unB] at st)
            (try clear hc); have hc := st.facts; (try simp only [nfl, nft, Nat.reduceAdd] at hc)
            go_wp2_with fail
            go_ret
            exact ⟨by rw [H2.out] <;> first | rfl | (simp; omega) | simp, st.ext0⟩
          · have H2 : Hid (v = false) := Lib.hid (by rw [H.out]; simpa using gn)
            have gb : ((g : Int) == (n : Int)) = false := by simp; omega
            clear gn
            (try simp only [nsl, Value.cells, unB] at st)
            (try clear hc); have hc := st.facts; (try simp only [nfl, nft, Nat.reduceAdd] at hc)
            go_wp2_with fail
            go_ret
            exact ⟨by rw [H2.out] <;> first | rfl | (simp; omega) | simp, st.ext0⟩
        · have hb2 : (op == 2) = false := by simpa using o2
          by_cases o3 : op = 3
          · subst o3
            have H := Lib.hid (HV.out.trans ((if_neg (by decide)).trans (if_pos rfl)))
            clear o2
            by_cases gn : 0 < g
            · have H2 : Hid (v = true) := Lib.hid (by rw [H.out]; simpa using gn)
              have gi : (0 : Int) < (g : Int) := by omega
              clear gn
              (try simp only [nsl, Value.cells, unB] at st)
              (try clear hc); have hc := st.facts; (try simp only [nfl, nft, Nat.reduceAdd] at hc)
              go_wp2_with fail
              go_ret
              exact ⟨by rw [H2.out] <;> first | rfl | (simp; omega) | simp, st.ext0⟩
            · have H2 : Hid (v = false) := Lib.hid (by rw [H.out]; simpa using gn)
              have gi : ¬ (0 : Int) < (g : Int) := by omega
              clear gn
              (try simp only [nsl, Value.cells, unB] at st)
              (try clear hc); have hc := st.facts; (try simp only [nfl, nft, Nat.reduceAdd] at hc)
              go_wp2_with fail
              go_ret
              exact ⟨by rw [H2.out] <;> first | rfl | (simp; omega) | simp, st.ext0⟩
          · have hb3 : (op == 3) = false := by simpa using o3
            have H := Lib.hid (HV.out.trans ((if_neg o2).trans (if_neg o3)))
            clear o2 o3
            by_cases gn : k ≤ (g : Int)
            · have H2 : Hid (v = true) := Lib.hid (by rw [H.out]; simpa using gn)
              (try simp only [nsl, Value.cells, unB] at st)
              (try clear hc); have hc := st.facts; (try simp only [nfl, nft, Nat.reduceAdd] at hc)
              go_wp2_with fail
              go_ret
              exact ⟨by rw [H2.out] <;> first | rfl | (simp; omega) | simp, st.ext0⟩
            · have H2 : Hid (v = false) := Lib.hid (by rw [H.out]; simpa using gn)
              (try simp only [nsl, Value.cells, unB] at st)
              (try clear hc); have hc := st.facts; (try simp only [nfl, nft, Nat.reduceAdd] at hc)
              go_wp2_with fail
              go_ret
              exact ⟨by rw [H2.out] <;> first | rfl | (simp; omega) | simp, st.ext0⟩
end Go.Proofs.YtcihjohgmhebiaaGreat

namespace Go.Proofs.YtcihjohgmhebiaaGreat
set_option linter.unusedSimpArgs false
set_option linter.unusedVariables false
open Go Go.RowKit
theorem ownsRow_base {w : World} {b0 b1 : Nat} {E : TypeId} {k n : Nat} {v : Value} {xs : List Value} (h : w.ownsRow b1 E k v n xs) (hb : b0 ≤ b1) : w.ownsRow b0 E k v n xs := by
  refine ⟨h.1, h.2.imp id ?_⟩
  rintro ⟨g, cap, cur, hv, hg, r⟩
  exact ⟨g, cap, cur, hv, by omega, r⟩
section
variable {fr al : Nat → Prop} {w0 w w' : World} {L : List It}
theorem Own.newRow (st : Own fr al w0 L w) (hx : Ext w w') {E : TypeId} {k n : Nat} {v : Value} {xs : List Value} (h : w'.ownsRow w.heap.size E k v n xs) : Own fr al w0 (L ++ [rowI E k v n xs]) w' :=
  st.new hx (e' := fun q => v.ownBlock = some q) (s' := fun _ => False) ⟨ownsRow_base h (Nat.zero_le _), fun q hq => hq⟩ (fun q hq => ⟨(h.lt q hq).2, (h.lt q hq).1⟩) (fun _ q => q.elim) (fun _ _ q => q)
end
end Go.Proofs.YtcihjohgmhebiaaGreat

namespace Go.Proofs.YtcihjohgmhebiaaGreat
set_option linter.unusedSimpArgs false
set_option linter.unusedVariables false
open Go Go.RowKit
theorem Own.flRow7 {α : Type} [Flt α] {fr al : Nat → Prop} {w0 w : World} {L : List It} (st : Own fr al w0 L w) {i n c : Nat} {a : Option Addr} {E : TypeId} {xs : List α} (hi : L[i]? = some (rowI E (Flt.k α) (.slice a n c) n (cellsL xs))) : (n ≤ c ∧ c ≤ maxLen) ∧ Fl w a n xs := by
  obtain ⟨a', c', hv, h2, h3⟩ := st.rowFl hi
  injection hv with q1 q2 q3
  subst q1 q3
  exact ⟨h2, h3⟩
theorem empty_row {w : World} {B0 : Nat} (hB : B0 ≤ w.heap.size) (E : TypeId) (k : Nat) : (w.alloc (.cells #[] E)).ownsRow B0 E k (.slice (some ⟨w.heap.size, 0, none⟩) 0 0) 0 [] := by
  refine ⟨by simp, .inr ⟨w.heap.size, 0, #[], rfl, hB, ?_, Nat.le_refl _, by decide, by simp, by simp⟩⟩
  show (w.heap.push _)[_]? = _
  simp
theorem append_exec {P : Program} {o : Oper} {a : Act} {w w' : World} {s x : Operand} {t : TypeId} {v v1 v2 : Value} (ho : o.op = .call { callee := .builtin .append, args := #[s, x], argTypes := #[t, t] }) (hs : a.eval s = v1) (hx : a.eval x = v2)
    (hr : (Builtin.append_ #[t, t] o.type #[v1, v2]).run P w = .ok v w') : (execOp a.eval o).run P w = .ok (.value v) w' := by
  simp [execOp, ho, resolve, invoke, builtin, hs, hx, hr, Result.andThen]
/-- An append to a slice without room lays a row anew. -/
theorem append_fresh {P : Program} {w : World} {B0 : Nat} (hB : B0 ≤ w.heap.size) {t ty e : TypeId} {i : TypeInfo} {z : Value} {size bytes : Nat} (ht : P.underlying t = some (.slice e)) (hi : P.info? e = some i) (hz : i.zero = some z)
    (hsize : i.size = size) (hby : i.bytes = bytes) (hzs : z.cells.size = size) (hsz : 0 < size) {b : Nat} (h0 : w.ownsRow B0 e size (.slice (some ⟨b, 0, none⟩) 0 0) 0 [])
    {A : Option Addr} {m c : Nat} {news : List Value} (hf : Flat w A m size news) (hc : m ≤ c) (h63 : m ≤ maxLen) (hbytes : m * bytes ≤ 140737488355328) :
    ∃ v' w', (Builtin.append_ #[t, t] ty #[.slice (some ⟨b, 0, none⟩) 0 0, .slice A m c]).run P w = .ok v' w' ∧ w'.ownsRow B0 e size v' m news ∧ Ext w w' := by
  by_cases hm : 0 < m
  · obtain ⟨ad, rfl, hn⟩ := hf.2 (by rw [hf.1]; exact Nat.mul_pos hm hsz)
    obtain ⟨v', w', h1, h2, h3⟩ := run_append_arg_grows (P := P) (w := w) t ty e i z size bytes ht hi hz hsize hby hzs hsz ⟨b, 0, none⟩ 0 0 [] (by simp) (fun j u hj => by simp at hj) ad m c news hf.1 (fun j u hj => hn j u hj) (by omega) (by omega) (by rw [Nat.zero_add]; exact hbytes)
    rw [Nat.zero_add, List.nil_append] at h2
    exact ⟨v', w', h1, ownsRow_base h2 hB, Ext.grown (Ext.refl w) ⟨h3, sem_drawn _ _ _ _ h1⟩ (fun k hk => by cases hk)⟩
  · obtain rfl : m = 0 := by omega
    have hl : news = [] := List.eq_nil_of_length_eq_zero (by simpa using hf.1)
    subst hl
    refine ⟨.slice (some ⟨b, 0, none⟩) 0 0, w, ?_, h0, Ext.refl _⟩
    have hc : (Builtin.firstCells i.size 0 (.slice A 0 c)).run P w = .ok #[] w := by
      cases A with
      | none => simp [Builtin.firstCells]
      | some ad => simpa using run_firstCells_some (P := P) w i.size 0 ad 0 c [] (by simp) (fun j u hj => by simp at hj)
    simp [Builtin.append_, run_underlying ht, sizeOf, typeInfo, hi, Builtin.lenOf, hc, storeCells]
end Go.Proofs.YtcihjohgmhebiaaGreat
