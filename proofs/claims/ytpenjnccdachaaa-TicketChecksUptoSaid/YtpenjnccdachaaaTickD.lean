/- Tickets: the reference makes one. -/
import Derived.Test.YtpenjnccdachaaaTickC
namespace Go.Proofs.Ytpenjnccdachaaa
set_option linter.unusedSimpArgs false
set_option linter.unusedVariables false
open Go Go.RowKit
/-- string to bytes, and where they lie. -/
theorem owp_sbF {fr al : Nat → Prop} {w0 w : World} {L : List It} {P : Program} {o : Oper} {a : Act} {K : Act → World → Prop} {Q : Exit → Act → World → Prop} {src dst e : TypeId} {x : Operand} (ho : o.op = .convert src dst x) (st : Own fr al w0 L w) {xs : List UInt8} (hx : a.eval x = .string ⟨xs.toArray⟩)
    (hs : P.underlying src = some .string) (hd : P.underlying dst = some (.slice e)) (he : P.underlying e = some (.int .u8)) (hl : xs.length ≤ maxLen)
    (h : ∀ A c w', (xs.length ≤ c ∧ c ≤ maxLen) → (∀ ad, A = some ad → w0.heap.size ≤ ad.block) → Own fr al w0 (L ++ [byI A xs.length xs]) w' → K (a.put o.dst (.slice A xs.length c)) w') : o.wp P a w K Q := by
  have hr := run_bytes_of_string (P := P) w src dst e ⟨xs.toArray⟩ hs hd he
  obtain ⟨v, w', hr', ⟨A, n, c, rfl, h1, h2, h3⟩, hx'⟩ := conv_sb (P := P) (w := w) (src := src) (dst := dst) (e := e) xs hs hd he hl
  obtain rfl : n = xs.length := h3.1
  have hf : ∀ ad, A = some ad → w.heap.size ≤ ad.block := fun ad had => by
    rw [show (.string ⟨xs.toArray⟩ : Value) = S xs from rfl] at hr
    rw [hr'] at hr
    injection hr with hr _
    injection hr with hr _ _
    rw [had] at hr
    injection hr with hr
    rw [hr]
    exact Nat.le_refl _
  refine owp_run (v := .slice A xs.length c) (w' := w') ?_ (h A c w' ⟨h1, h2⟩ (fun ad q => Nat.le_trans st.le (hf ad q)) (st.addBy hx' h3 fun _ ad had => hf ad had))
  unfold execOp
  simp only [ho, hx]
  rw [show (.string ⟨xs.toArray⟩ : Value) = S xs from rfl]
  simp only [Sem.run_bind, hr', Result.andThen, Sem.run_pure]
set_option maxRecDepth 100000 in
set_option maxHeartbeats 2000000 in
theorem refMake_ok (a : Option Addr) (n c : Nat) (l : List KeyT) (o cl : List UInt8) (t : Int) (W : World) (h : Fl W a n l) (hn : n ≤ 2000000) (hc : n ≤ c ∧ c ≤ maxLen) (hs : ∀ k ∈ l, k.who.length ≤ 100000 ∧ k.n ≤ 100000) (hk : ∀ k ∈ l, KOk W k) (hne : mkErr l o cl t = 0) :
    Calls Try.prog 18 #[.slice a n c, S o, S cl, .int .i64 t] W fun e w' => ∃ x : TickT, e = .returned (.tuple #[tV x, .int .i64 0]) ∧ (x.o = o ∧ x.cl = cl ∧ x.t = t ∧ x.xs = mkTag l o cl t) ∧ (∀ ad, x.a = some ad → W.heap.size ≤ ad.block) ∧ TOk w' x ∧ Ext W w' := by
  have HKN := Lib.hid (fun W' (hx : Ext W W') => refKeysNew_any a n c l W' (h.extW hx) hn hc fun k q => ⟨(hs k q).1, (hk k q).1.1, (hk k q).1.2⟩)
  have H := Lib.hid h
  have HNL := Lib.hid h.1
  obtain ⟨h0, ho1, hc1, t0, t1, kk, hko, hn1, hn32, hmem⟩ := mkErr_0 hne
  have l1 := (nameR_len ho1).2
  have l2 := (nameR_len hc1).2
  have HNO := Lib.hid ho1
  have HNC := Lib.hid hc1
  rw [h0] at HKN
  have hMT : mkTag l o cl t = tagOf kk.xs (bodyB o cl t.toNat) := by unfold mkTag; rw [hko]
  rw [hMT]
  obtain ⟨tn, rfl⟩ : ∃ m : Nat, t = (m : Int) := ⟨t.toNat, by omega⟩
  simp only [Int.toNat_natCast]
  have HKO := Lib.hid hko
  have HKK := Lib.hid hk
  have HKS := Lib.hid (And.intro hn1 hn32)
  have n1 : (numB 229).length ≤ 10 := numF_len 10 _
  have n2 : (numB o.length).length ≤ 10 := numF_len 10 _
  have n3 : (numB cl.length).length ≤ 10 := numF_len 10 _
  have n4 : (numB tn).length ≤ 10 := numF_len 10 _
  have happ := ba_append
  clear h0 ho1 hc1 hko hMT hmem hk hs h hne hn1 hn32
  have st := Own.startOld W
  unfold S
  (try simp only [Value.cells, List.cons_append, List.nil_append, List.set, spl, putIt, pick, List.map_cons, List.map_nil, List.getElem?_cons_zero, List.getElem?_cons_succ, Option.getD_some, List.drop_succ_cons, List.drop_zero, List.drop_nil, List.append_nil, unB] at st)
  (try clear hc); have hc := st.facts; (try simp only [factsOf, blkI, blkFacts, rowI, byI, datI, nullI, oldI, penI, rdI, rdAnyI, rdOverI, Nat.zero_add, Nat.reduceAdd, and_true, true_and, and_self] at hc)
  go_enter Try.func18, Try.ntmps18
  go_wp2_with ((first
        | ((with_reducible refine wl_alloc ?_ (fun K hK => ?_)); rfl; refine owp_alloc (o := ⟨some 8, _, _, _, _, _⟩) rfl st ?_; apply Exists.intro; apply Exists.intro; refine ⟨?_, ?_⟩; (focus (first | (go_simp; done) | (go_simp; rfl))); (clear st; intro b8 w hb st; clear hb))
        | ((with_reducible refine wl_store ?_ (fun K hK => ?_)); rfl; refine owp_store rfl st ?_; apply Exists.intro; apply Exists.intro; refine ⟨?_, ?_, ?_⟩; (focus (go_simp; try rfl)); (focus (go_simp; try rfl)); (first | (with_reducible refine ⟨0, _, _, _, _, get0, rfl, rfl, ?_, ?_, ?_, ?_⟩) | (with_reducible refine ⟨1, _, _, _, _, get1, rfl, rfl, ?_, ?_, ?_, ?_⟩) | (with_reducible refine ⟨2, _, _, _, _, get2, rfl, rfl, ?_, ?_, ?_, ?_⟩) | (with_reducible refine ⟨3, _, _, _, _, get3, rfl, rfl, ?_, ?_, ?_, ?_⟩) | (with_reducible refine ⟨4, _, _, _, _, get4, rfl, rfl, ?_, ?_, ?_, ?_⟩)); (kernel_rfl); (simp [Value.cells]); (rfl); (clear st; intro w st))
        | ((with_reducible refine wl_alloc ?_ (fun K hK => ?_)); rfl; refine owp_alloc (o := ⟨some 12, _, _, _, _, _⟩) rfl st ?_; apply Exists.intro; apply Exists.intro; refine ⟨?_, ?_⟩; (focus (first | (go_simp; done) | (go_simp; rfl))); (clear st; intro b12 w hb st; clear hb))
        | ((with_reducible refine wl_convert ?_ (fun K hK => ?_)); rfl; (first | (refine owp_bs (o := ⟨some 61, _, _, _, _, _⟩) rfl st 0 get0 rfl Try.underlying23 Try.underlying5 Try.underlying9 ?_) | (refine owp_bs (o := ⟨some 61, _, _, _, _, _⟩) rfl st 1 get1 rfl Try.underlying23 Try.underlying5 Try.underlying9 ?_) | (refine owp_bs (o := ⟨some 61, _, _, _, _, _⟩) rfl st 2 get2 rfl Try.underlying23 Try.underlying5 Try.underlying9 ?_) | (refine owp_bs (o := ⟨some 61, _, _, _, _, _⟩) rfl st 3 get3 rfl Try.underlying23 Try.underlying5 Try.underlying9 ?_) | (refine owp_bs (o := ⟨some 61, _, _, _, _, _⟩) rfl st 4 get4 rfl Try.underlying23 Try.underlying5 Try.underlying9 ?_)))
        | ((with_reducible refine wl_convert ?_ (fun K hK => ?_)); rfl; refine owp_sb (o := ⟨some 64, _, _, _, _, _⟩) rfl st rfl Try.underlying9 Try.underlying23 Try.underlying5 ?_ ?_; (simp only [maxLen]; omega); (clear st; intro A64 c64 w hc64 st))); (try simp only [Value.cells, List.cons_append, List.nil_append, List.set, spl, putIt, pick, List.map_cons, List.map_nil, List.getElem?_cons_zero, List.getElem?_cons_succ, Option.getD_some, List.drop_succ_cons, List.drop_zero, List.drop_nil, List.append_nil, unB] at st); (try clear hc); have hc := st.facts; (try simp only [factsOf, blkI, blkFacts, rowI, byI, datI, nullI, oldI, penI, rdI, rdAnyI, rdOverI, Nat.zero_add, Nat.reduceAdd, and_true, true_and, and_self] at hc))
  refine (HKN.out _ st.ext0).mono ?_
  rintro en w ⟨rfl, hx⟩
  replace st := st.ext hx
  clear hx
  (try clear hc); have hc := st.facts; (try simp only [factsOf, blkI, blkFacts, rowI, byI, datI, nullI, oldI, penI, rdI, rdAnyI, rdOverI, Nat.zero_add, Nat.reduceAdd, and_true, true_and, and_self] at hc)
  go_wp2_with ((first
        | ((with_reducible refine wl_alloc ?_ (fun K hK => ?_)); rfl; refine owp_alloc (o := ⟨some 8, _, _, _, _, _⟩) rfl st ?_; apply Exists.intro; apply Exists.intro; refine ⟨?_, ?_⟩; (focus (first | (go_simp; done) | (go_simp; rfl))); (clear st; intro b8 w hb st; clear hb))
        | ((with_reducible refine wl_store ?_ (fun K hK => ?_)); rfl; refine owp_store rfl st ?_; apply Exists.intro; apply Exists.intro; refine ⟨?_, ?_, ?_⟩; (focus (go_simp; try rfl)); (focus (go_simp; try rfl)); (first | (with_reducible refine ⟨0, _, _, _, _, get0, rfl, rfl, ?_, ?_, ?_, ?_⟩) | (with_reducible refine ⟨1, _, _, _, _, get1, rfl, rfl, ?_, ?_, ?_, ?_⟩) | (with_reducible refine ⟨2, _, _, _, _, get2, rfl, rfl, ?_, ?_, ?_, ?_⟩) | (with_reducible refine ⟨3, _, _, _, _, get3, rfl, rfl, ?_, ?_, ?_, ?_⟩) | (with_reducible refine ⟨4, _, _, _, _, get4, rfl, rfl, ?_, ?_, ?_, ?_⟩)); (kernel_rfl); (simp [Value.cells]); (rfl); (clear st; intro w st))
        | ((with_reducible refine wl_alloc ?_ (fun K hK => ?_)); rfl; refine owp_alloc (o := ⟨some 12, _, _, _, _, _⟩) rfl st ?_; apply Exists.intro; apply Exists.intro; refine ⟨?_, ?_⟩; (focus (first | (go_simp; done) | (go_simp; rfl))); (clear st; intro b12 w hb st; clear hb))
        | ((with_reducible refine wl_convert ?_ (fun K hK => ?_)); rfl; (first | (refine owp_bs (o := ⟨some 61, _, _, _, _, _⟩) rfl st 0 get0 rfl Try.underlying23 Try.underlying5 Try.underlying9 ?_) | (refine owp_bs (o := ⟨some 61, _, _, _, _, _⟩) rfl st 1 get1 rfl Try.underlying23 Try.underlying5 Try.underlying9 ?_) | (refine owp_bs (o := ⟨some 61, _, _, _, _, _⟩) rfl st 2 get2 rfl Try.underlying23 Try.underlying5 Try.underlying9 ?_) | (refine owp_bs (o := ⟨some 61, _, _, _, _, _⟩) rfl st 3 get3 rfl Try.underlying23 Try.underlying5 Try.underlying9 ?_) | (refine owp_bs (o := ⟨some 61, _, _, _, _, _⟩) rfl st 4 get4 rfl Try.underlying23 Try.underlying5 Try.underlying9 ?_)))
        | ((with_reducible refine wl_convert ?_ (fun K hK => ?_)); rfl; refine owp_sb (o := ⟨some 64, _, _, _, _, _⟩) rfl st rfl Try.underlying9 Try.underlying23 Try.underlying5 ?_ ?_; (simp only [maxLen]; omega); (clear st; intro A64 c64 w hc64 st))); (try simp only [Value.cells, List.cons_append, List.nil_append, List.set, spl, putIt, pick, List.map_cons, List.map_nil, List.getElem?_cons_zero, List.getElem?_cons_succ, Option.getD_some, List.drop_succ_cons, List.drop_zero, List.drop_nil, List.append_nil, unB] at st); (try clear hc); have hc := st.facts; (try simp only [factsOf, blkI, blkFacts, rowI, byI, datI, nullI, oldI, penI, rdI, rdAnyI, rdOverI, Nat.zero_add, Nat.reduceAdd, and_true, true_and, and_self] at hc))
  refine (refRight_any o _ (by omega)).mono ?_
  rintro en w ⟨rfl, hx⟩
  replace st := st.ext hx
  clear hx
  (try clear hc); have hc := st.facts; (try simp only [factsOf, blkI, blkFacts, rowI, byI, datI, nullI, oldI, penI, rdI, rdAnyI, rdOverI, Nat.zero_add, Nat.reduceAdd, and_true, true_and, and_self] at hc)
  rw [HNO.out]
  go_wp2_with ((first
        | ((with_reducible refine wl_alloc ?_ (fun K hK => ?_)); rfl; refine owp_alloc (o := ⟨some 8, _, _, _, _, _⟩) rfl st ?_; apply Exists.intro; apply Exists.intro; refine ⟨?_, ?_⟩; (focus (first | (go_simp; done) | (go_simp; rfl))); (clear st; intro b8 w hb st; clear hb))
        | ((with_reducible refine wl_store ?_ (fun K hK => ?_)); rfl; refine owp_store rfl st ?_; apply Exists.intro; apply Exists.intro; refine ⟨?_, ?_, ?_⟩; (focus (go_simp; try rfl)); (focus (go_simp; try rfl)); (first | (with_reducible refine ⟨0, _, _, _, _, get0, rfl, rfl, ?_, ?_, ?_, ?_⟩) | (with_reducible refine ⟨1, _, _, _, _, get1, rfl, rfl, ?_, ?_, ?_, ?_⟩) | (with_reducible refine ⟨2, _, _, _, _, get2, rfl, rfl, ?_, ?_, ?_, ?_⟩) | (with_reducible refine ⟨3, _, _, _, _, get3, rfl, rfl, ?_, ?_, ?_, ?_⟩) | (with_reducible refine ⟨4, _, _, _, _, get4, rfl, rfl, ?_, ?_, ?_, ?_⟩)); (kernel_rfl); (simp [Value.cells]); (rfl); (clear st; intro w st))
        | ((with_reducible refine wl_alloc ?_ (fun K hK => ?_)); rfl; refine owp_alloc (o := ⟨some 12, _, _, _, _, _⟩) rfl st ?_; apply Exists.intro; apply Exists.intro; refine ⟨?_, ?_⟩; (focus (first | (go_simp; done) | (go_simp; rfl))); (clear st; intro b12 w hb st; clear hb))
        | ((with_reducible refine wl_convert ?_ (fun K hK => ?_)); rfl; (first | (refine owp_bs (o := ⟨some 61, _, _, _, _, _⟩) rfl st 0 get0 rfl Try.underlying23 Try.underlying5 Try.underlying9 ?_) | (refine owp_bs (o := ⟨some 61, _, _, _, _, _⟩) rfl st 1 get1 rfl Try.underlying23 Try.underlying5 Try.underlying9 ?_) | (refine owp_bs (o := ⟨some 61, _, _, _, _, _⟩) rfl st 2 get2 rfl Try.underlying23 Try.underlying5 Try.underlying9 ?_) | (refine owp_bs (o := ⟨some 61, _, _, _, _, _⟩) rfl st 3 get3 rfl Try.underlying23 Try.underlying5 Try.underlying9 ?_) | (refine owp_bs (o := ⟨some 61, _, _, _, _, _⟩) rfl st 4 get4 rfl Try.underlying23 Try.underlying5 Try.underlying9 ?_)))
        | ((with_reducible refine wl_convert ?_ (fun K hK => ?_)); rfl; refine owp_sb (o := ⟨some 64, _, _, _, _, _⟩) rfl st rfl Try.underlying9 Try.underlying23 Try.underlying5 ?_ ?_; (simp only [maxLen]; omega); (clear st; intro A64 c64 w hc64 st))); (try simp only [Value.cells, List.cons_append, List.nil_append, List.set, spl, putIt, pick, List.map_cons, List.map_nil, List.getElem?_cons_zero, List.getElem?_cons_succ, Option.getD_some, List.drop_succ_cons, List.drop_zero, List.drop_nil, List.append_nil, unB] at st); (try clear hc); have hc := st.facts; (try simp only [factsOf, blkI, blkFacts, rowI, byI, datI, nullI, oldI, penI, rdI, rdAnyI, rdOverI, Nat.zero_add, Nat.reduceAdd, and_true, true_and, and_self] at hc))
  refine (refRight_any cl _ (by omega)).mono ?_
  rintro en w ⟨rfl, hx⟩
  replace st := st.ext hx
  clear hx
  (try clear hc); have hc := st.facts; (try simp only [factsOf, blkI, blkFacts, rowI, byI, datI, nullI, oldI, penI, rdI, rdAnyI, rdOverI, Nat.zero_add, Nat.reduceAdd, and_true, true_and, and_self] at hc)
  rw [HNC.out]
  go_wp2_with ((first
        | ((with_reducible refine wl_alloc ?_ (fun K hK => ?_)); rfl; refine owp_alloc (o := ⟨some 8, _, _, _, _, _⟩) rfl st ?_; apply Exists.intro; apply Exists.intro; refine ⟨?_, ?_⟩; (focus (first | (go_simp; done) | (go_simp; rfl))); (clear st; intro b8 w hb st; clear hb))
        | ((with_reducible refine wl_store ?_ (fun K hK => ?_)); rfl; refine owp_store rfl st ?_; apply Exists.intro; apply Exists.intro; refine ⟨?_, ?_, ?_⟩; (focus (go_simp; try rfl)); (focus (go_simp; try rfl)); (first | (with_reducible refine ⟨0, _, _, _, _, get0, rfl, rfl, ?_, ?_, ?_, ?_⟩) | (with_reducible refine ⟨1, _, _, _, _, get1, rfl, rfl, ?_, ?_, ?_, ?_⟩) | (with_reducible refine ⟨2, _, _, _, _, get2, rfl, rfl, ?_, ?_, ?_, ?_⟩) | (with_reducible refine ⟨3, _, _, _, _, get3, rfl, rfl, ?_, ?_, ?_, ?_⟩) | (with_reducible refine ⟨4, _, _, _, _, get4, rfl, rfl, ?_, ?_, ?_, ?_⟩)); (kernel_rfl); (simp [Value.cells]); (rfl); (clear st; intro w st))
        | ((with_reducible refine wl_alloc ?_ (fun K hK => ?_)); rfl; refine owp_alloc (o := ⟨some 12, _, _, _, _, _⟩) rfl st ?_; apply Exists.intro; apply Exists.intro; refine ⟨?_, ?_⟩; (focus (first | (go_simp; done) | (go_simp; rfl))); (clear st; intro b12 w hb st; clear hb))
        | ((with_reducible refine wl_convert ?_ (fun K hK => ?_)); rfl; (first | (refine owp_bs (o := ⟨some 61, _, _, _, _, _⟩) rfl st 0 get0 rfl Try.underlying23 Try.underlying5 Try.underlying9 ?_) | (refine owp_bs (o := ⟨some 61, _, _, _, _, _⟩) rfl st 1 get1 rfl Try.underlying23 Try.underlying5 Try.underlying9 ?_) | (refine owp_bs (o := ⟨some 61, _, _, _, _, _⟩) rfl st 2 get2 rfl Try.underlying23 Try.underlying5 Try.underlying9 ?_) | (refine owp_bs (o := ⟨some 61, _, _, _, _, _⟩) rfl st 3 get3 rfl Try.underlying23 Try.underlying5 Try.underlying9 ?_) | (refine owp_bs (o := ⟨some 61, _, _, _, _, _⟩) rfl st 4 get4 rfl Try.underlying23 Try.underlying5 Try.underlying9 ?_)))
        | ((with_reducible refine wl_convert ?_ (fun K hK => ?_)); rfl; refine owp_sb (o := ⟨some 64, _, _, _, _, _⟩) rfl st rfl Try.underlying9 Try.underlying23 Try.underlying5 ?_ ?_; (simp only [maxLen]; omega); (clear st; intro A64 c64 w hc64 st))); (try simp only [Value.cells, List.cons_append, List.nil_append, List.set, spl, putIt, pick, List.map_cons, List.map_nil, List.getElem?_cons_zero, List.getElem?_cons_succ, Option.getD_some, List.drop_succ_cons, List.drop_zero, List.drop_nil, List.append_nil, unB] at st); (try clear hc); have hc := st.facts; (try simp only [factsOf, blkI, blkFacts, rowI, byI, datI, nullI, oldI, penI, rdI, rdAnyI, rdOverI, Nat.zero_add, Nat.reduceAdd, and_true, true_and, and_self] at hc))
  go_loopg [38] n (fun k i wr => ∃ j : Nat, j ≤ n ∧ k = n - j ∧ i = .int .i64 (j : Int) ∧ Hid (keyOf (l.take j) o = none) ∧ Own (fun _ => False) (fun _ => True) W [oldI W, blkI b8 [.string ⟨#[]⟩, .string ⟨#[]⟩, .int .i64 0, .slice none 0 0]] wr)
  case atStart => exact ⟨0, by omega, by omega, rfl, Lib.hid (by simp [keyOf]), st⟩
  case round =>
    obtain ⟨j, hj, rfl, rfl, HT, st'⟩ := hrel
    clear st hc
    have st := st'
    clear st'
    (try simp only [Value.cells, List.cons_append, List.nil_append, List.set, spl, putIt, pick, List.map_cons, List.map_nil, List.getElem?_cons_zero, List.getElem?_cons_succ, Option.getD_some, List.drop_succ_cons, List.drop_zero, List.drop_nil, List.append_nil, unB] at st)
    (try clear hc); have hc := st.facts; (try simp only [factsOf, blkI, blkFacts, rowI, byI, datI, nullI, oldI, penI, rdI, rdAnyI, rdOverI, Nat.zero_add, Nat.reduceAdd, and_true, true_and, and_self] at hc)
    by_cases hjn : j < n
    · obtain ⟨b, off, ha, hcell⟩ := H.out.key (by omega)
      have hjl : j < l.length := by have := HNL.out; omega
      have r0 := st.oldCell (i := 0) get0 (hcell j l[j] (List.getElem?_eq_getElem hjl)).1
      have r1 := st.oldCell (i := 0) get0 (hcell j l[j] (List.getElem?_eq_getElem hjl)).2
      have hts := keyOf_snoc (l.take j) l[j] o HT.out
      rw [List.take_append_getElem] at hts
      have hsp : l = l.take (j + 1) ++ l.drop (j + 1) := (List.take_append_drop _ _).symm
      have hap := keyOf_app (l.take (j + 1)) (l.drop (j + 1)) l[j] o
      rw [← hsp] at hap
      have HS := Lib.hid (And.intro hts hap)
      have hkk := HKK.out l[j] (List.getElem_mem hjl)
      clear hcell hts hsp hap
      generalize l[j] = k at *
      subst ha
      unfold S at r0
      cases heq : (k.who == o) with
      | true =>
        have hkq : k = kk := by
          have := HS.out.2 (by rw [HS.out.1, if_pos heq])
          rw [HKO.out] at this
          injection this with this
          exact this.symm
        subst hkq
        have HS2 := HKS.out
        obtain ⟨⟨kc1, kc2⟩, hby⟩ := hkk
        replace st := st.addOldBy (i := 0) get0 hby
        have hkl : k.xs.length ≤ 32 := by have := hby.1; omega
        clear hby HS
        have hbl : (bodyB o cl tn).length ≤ 200 := by unfold bodyB; simp; omega
        obtain ⟨u, hu⟩ : ∃ u, bodyB o cl tn = u := ⟨_, rfl⟩
        have HU : Hid (numB 229 ++ (numB o.length ++ o) ++ (numB cl.length ++ cl) ++ numB tn = u) := Lib.hid hu
        have HU2 := Lib.hid hu
        rw [hu] at hbl
        clear hu
        have l3 : (numB 229 ++ (numB o.length ++ o)).length ≤ 100 := by simp; omega
        have l4 : (numB 229 ++ (numB o.length ++ o) ++ (numB cl.length ++ cl)).length ≤ 200 := by simp; omega
        have l5 : (numB o.length ++ o).length ≤ 50 := by simp; omega
        have l6 : (numB cl.length ++ cl).length ≤ 50 := by simp; omega
        go_wp2_with ((first
              | ((with_reducible refine wl_alloc ?_ (fun K hK => ?_)); rfl; refine owp_alloc (o := ⟨some 8, _, _, _, _, _⟩) rfl st ?_; apply Exists.intro; apply Exists.intro; refine ⟨?_, ?_⟩; (focus (first | (go_simp; done) | (go_simp; rfl))); (clear st; intro b8 w hb st; clear hb))
              | ((with_reducible refine wl_store ?_ (fun K hK => ?_)); rfl; refine owp_store rfl st ?_; apply Exists.intro; apply Exists.intro; refine ⟨?_, ?_, ?_⟩; (focus (go_simp; try rfl)); (focus (go_simp; try rfl)); (first | (with_reducible refine ⟨0, _, _, _, _, get0, rfl, rfl, ?_, ?_, ?_, ?_⟩) | (with_reducible refine ⟨1, _, _, _, _, get1, rfl, rfl, ?_, ?_, ?_, ?_⟩) | (with_reducible refine ⟨2, _, _, _, _, get2, rfl, rfl, ?_, ?_, ?_, ?_⟩) | (with_reducible refine ⟨3, _, _, _, _, get3, rfl, rfl, ?_, ?_, ?_, ?_⟩) | (with_reducible refine ⟨4, _, _, _, _, get4, rfl, rfl, ?_, ?_, ?_, ?_⟩)); (kernel_rfl); (simp [Value.cells]); (rfl); (clear st; intro w st))
              | ((with_reducible refine wl_alloc ?_ (fun K hK => ?_)); rfl; refine owp_alloc (o := ⟨some 12, _, _, _, _, _⟩) rfl st ?_; apply Exists.intro; apply Exists.intro; refine ⟨?_, ?_⟩; (focus (first | (go_simp; done) | (go_simp; rfl))); (clear st; intro b12 w hb st; clear hb))
              | ((with_reducible refine wl_convert ?_ (fun K hK => ?_)); rfl; (first | (refine owp_bs (o := ⟨some 61, _, _, _, _, _⟩) rfl st 0 get0 rfl Try.underlying23 Try.underlying5 Try.underlying9 ?_) | (refine owp_bs (o := ⟨some 61, _, _, _, _, _⟩) rfl st 1 get1 rfl Try.underlying23 Try.underlying5 Try.underlying9 ?_) | (refine owp_bs (o := ⟨some 61, _, _, _, _, _⟩) rfl st 2 get2 rfl Try.underlying23 Try.underlying5 Try.underlying9 ?_) | (refine owp_bs (o := ⟨some 61, _, _, _, _, _⟩) rfl st 3 get3 rfl Try.underlying23 Try.underlying5 Try.underlying9 ?_) | (refine owp_bs (o := ⟨some 61, _, _, _, _, _⟩) rfl st 4 get4 rfl Try.underlying23 Try.underlying5 Try.underlying9 ?_)))
              | ((with_reducible refine wl_convert ?_ (fun K hK => ?_)); rfl; refine owp_sb (o := ⟨some 64, _, _, _, _, _⟩) rfl st rfl Try.underlying9 Try.underlying23 Try.underlying5 ?_ ?_; (simp only [maxLen]; omega); (clear st; intro A64 c64 w hc64 st))); (try simp only [Value.cells, List.cons_append, List.nil_append, List.set, spl, putIt, pick, List.map_cons, List.map_nil, List.getElem?_cons_zero, List.getElem?_cons_succ, Option.getD_some, List.drop_succ_cons, List.drop_zero, List.drop_nil, List.append_nil, unB] at st); (try clear hc); have hc := st.facts; (try simp only [factsOf, blkI, blkFacts, rowI, byI, datI, nullI, oldI, penI, rdI, rdAnyI, rdOverI, Nat.zero_add, Nat.reduceAdd, and_true, true_and, and_self] at hc))
        clear r0 r1
        refine (refNumber_any 229 _ (by decide)).mono ?_
        rintro en w ⟨rfl, hx⟩
        replace st := st.ext hx
        clear hx
        (try clear hc); have hc := st.facts; (try simp only [factsOf, blkI, blkFacts, rowI, byI, datI, nullI, oldI, penI, rdI, rdAnyI, rdOverI, Nat.zero_add, Nat.reduceAdd, and_true, true_and, and_self] at hc)
        (try unfold S)
        go_wp2_with ((first
              | ((with_reducible refine wl_alloc ?_ (fun K hK => ?_)); rfl; refine owp_alloc (o := ⟨some 8, _, _, _, _, _⟩) rfl st ?_; apply Exists.intro; apply Exists.intro; refine ⟨?_, ?_⟩; (focus (first | (go_simp; done) | (go_simp; rfl))); (clear st; intro b8 w hb st; clear hb))
              | ((with_reducible refine wl_store ?_ (fun K hK => ?_)); rfl; refine owp_store rfl st ?_; apply Exists.intro; apply Exists.intro; refine ⟨?_, ?_, ?_⟩; (focus (go_simp; try rfl)); (focus (go_simp; try rfl)); (first | (with_reducible refine ⟨0, _, _, _, _, get0, rfl, rfl, ?_, ?_, ?_, ?_⟩) | (with_reducible refine ⟨1, _, _, _, _, get1, rfl, rfl, ?_, ?_, ?_, ?_⟩) | (with_reducible refine ⟨2, _, _, _, _, get2, rfl, rfl, ?_, ?_, ?_, ?_⟩) | (with_reducible refine ⟨3, _, _, _, _, get3, rfl, rfl, ?_, ?_, ?_, ?_⟩) | (with_reducible refine ⟨4, _, _, _, _, get4, rfl, rfl, ?_, ?_, ?_, ?_⟩)); (kernel_rfl); (simp [Value.cells]); (rfl); (clear st; intro w st))
              | ((with_reducible refine wl_alloc ?_ (fun K hK => ?_)); rfl; refine owp_alloc (o := ⟨some 12, _, _, _, _, _⟩) rfl st ?_; apply Exists.intro; apply Exists.intro; refine ⟨?_, ?_⟩; (focus (first | (go_simp; done) | (go_simp; rfl))); (clear st; intro b12 w hb st; clear hb))
              | ((with_reducible refine wl_convert ?_ (fun K hK => ?_)); rfl; (first | (refine owp_bs (o := ⟨some 61, _, _, _, _, _⟩) rfl st 0 get0 rfl Try.underlying23 Try.underlying5 Try.underlying9 ?_) | (refine owp_bs (o := ⟨some 61, _, _, _, _, _⟩) rfl st 1 get1 rfl Try.underlying23 Try.underlying5 Try.underlying9 ?_) | (refine owp_bs (o := ⟨some 61, _, _, _, _, _⟩) rfl st 2 get2 rfl Try.underlying23 Try.underlying5 Try.underlying9 ?_) | (refine owp_bs (o := ⟨some 61, _, _, _, _, _⟩) rfl st 3 get3 rfl Try.underlying23 Try.underlying5 Try.underlying9 ?_) | (refine owp_bs (o := ⟨some 61, _, _, _, _, _⟩) rfl st 4 get4 rfl Try.underlying23 Try.underlying5 Try.underlying9 ?_)))
              | ((with_reducible refine wl_convert ?_ (fun K hK => ?_)); rfl; refine owp_sb (o := ⟨some 64, _, _, _, _, _⟩) rfl st rfl Try.underlying9 Try.underlying23 Try.underlying5 ?_ ?_; (simp only [maxLen]; omega); (clear st; intro A64 c64 w hc64 st))); (try simp only [Value.cells, List.cons_append, List.nil_append, List.set, spl, putIt, pick, List.map_cons, List.map_nil, List.getElem?_cons_zero, List.getElem?_cons_succ, Option.getD_some, List.drop_succ_cons, List.drop_zero, List.drop_nil, List.append_nil, unB] at st); (try clear hc); have hc := st.facts; (try simp only [factsOf, blkI, blkFacts, rowI, byI, datI, nullI, oldI, penI, rdI, rdAnyI, rdOverI, Nat.zero_add, Nat.reduceAdd, and_true, true_and, and_self] at hc))
        refine (refText_any o _ (by omega)).mono ?_
        rintro en w ⟨rfl, hx⟩
        replace st := st.ext hx
        clear hx
        (try clear hc); have hc := st.facts; (try simp only [factsOf, blkI, blkFacts, rowI, byI, datI, nullI, oldI, penI, rdI, rdAnyI, rdOverI, Nat.zero_add, Nat.reduceAdd, and_true, true_and, and_self] at hc)
        (try unfold S)
        generalize hq1 : numB o.length ++ o = q1 at *
        go_wp2_with ((first
              | ((with_reducible refine wl_alloc ?_ (fun K hK => ?_)); rfl; refine owp_alloc (o := ⟨some 8, _, _, _, _, _⟩) rfl st ?_; apply Exists.intro; apply Exists.intro; refine ⟨?_, ?_⟩; (focus (first | (go_simp; done) | (go_simp; rfl))); (clear st; intro b8 w hb st; clear hb))
              | ((with_reducible refine wl_store ?_ (fun K hK => ?_)); rfl; refine owp_store rfl st ?_; apply Exists.intro; apply Exists.intro; refine ⟨?_, ?_, ?_⟩; (focus (go_simp; try rfl)); (focus (go_simp; try rfl)); (first | (with_reducible refine ⟨0, _, _, _, _, get0, rfl, rfl, ?_, ?_, ?_, ?_⟩) | (with_reducible refine ⟨1, _, _, _, _, get1, rfl, rfl, ?_, ?_, ?_, ?_⟩) | (with_reducible refine ⟨2, _, _, _, _, get2, rfl, rfl, ?_, ?_, ?_, ?_⟩) | (with_reducible refine ⟨3, _, _, _, _, get3, rfl, rfl, ?_, ?_, ?_, ?_⟩) | (with_reducible refine ⟨4, _, _, _, _, get4, rfl, rfl, ?_, ?_, ?_, ?_⟩)); (kernel_rfl); (simp [Value.cells]); (rfl); (clear st; intro w st))
              | ((with_reducible refine wl_alloc ?_ (fun K hK => ?_)); rfl; refine owp_alloc (o := ⟨some 12, _, _, _, _, _⟩) rfl st ?_; apply Exists.intro; apply Exists.intro; refine ⟨?_, ?_⟩; (focus (first | (go_simp; done) | (go_simp; rfl))); (clear st; intro b12 w hb st; clear hb))
              | ((with_reducible refine wl_convert ?_ (fun K hK => ?_)); rfl; (first | (refine owp_bs (o := ⟨some 61, _, _, _, _, _⟩) rfl st 0 get0 rfl Try.underlying23 Try.underlying5 Try.underlying9 ?_) | (refine owp_bs (o := ⟨some 61, _, _, _, _, _⟩) rfl st 1 get1 rfl Try.underlying23 Try.underlying5 Try.underlying9 ?_) | (refine owp_bs (o := ⟨some 61, _, _, _, _, _⟩) rfl st 2 get2 rfl Try.underlying23 Try.underlying5 Try.underlying9 ?_) | (refine owp_bs (o := ⟨some 61, _, _, _, _, _⟩) rfl st 3 get3 rfl Try.underlying23 Try.underlying5 Try.underlying9 ?_) | (refine owp_bs (o := ⟨some 61, _, _, _, _, _⟩) rfl st 4 get4 rfl Try.underlying23 Try.underlying5 Try.underlying9 ?_)))
              | ((with_reducible refine wl_convert ?_ (fun K hK => ?_)); rfl; refine owp_sb (o := ⟨some 64, _, _, _, _, _⟩) rfl st rfl Try.underlying9 Try.underlying23 Try.underlying5 ?_ ?_; (simp only [maxLen]; omega); (clear st; intro A64 c64 w hc64 st))); (try simp only [Value.cells, List.cons_append, List.nil_append, List.set, spl, putIt, pick, List.map_cons, List.map_nil, List.getElem?_cons_zero, List.getElem?_cons_succ, Option.getD_some, List.drop_succ_cons, List.drop_zero, List.drop_nil, List.append_nil, unB] at st); (try clear hc); have hc := st.facts; (try simp only [factsOf, blkI, blkFacts, rowI, byI, datI, nullI, oldI, penI, rdI, rdAnyI, rdOverI, Nat.zero_add, Nat.reduceAdd, and_true, true_and, and_self] at hc))
        refine (refText_any cl _ (by omega)).mono ?_
        rintro en w ⟨rfl, hx⟩
        replace st := st.ext hx
        clear hx
        (try clear hc); have hc := st.facts; (try simp only [factsOf, blkI, blkFacts, rowI, byI, datI, nullI, oldI, penI, rdI, rdAnyI, rdOverI, Nat.zero_add, Nat.reduceAdd, and_true, true_and, and_self] at hc)
        (try unfold S)
        generalize hq2 : numB cl.length ++ cl = q2 at *
        go_wp2_with ((first
              | ((with_reducible refine wl_alloc ?_ (fun K hK => ?_)); rfl; refine owp_alloc (o := ⟨some 8, _, _, _, _, _⟩) rfl st ?_; apply Exists.intro; apply Exists.intro; refine ⟨?_, ?_⟩; (focus (first | (go_simp; done) | (go_simp; rfl))); (clear st; intro b8 w hb st; clear hb))
              | ((with_reducible refine wl_store ?_ (fun K hK => ?_)); rfl; refine owp_store rfl st ?_; apply Exists.intro; apply Exists.intro; refine ⟨?_, ?_, ?_⟩; (focus (go_simp; try rfl)); (focus (go_simp; try rfl)); (first | (with_reducible refine ⟨0, _, _, _, _, get0, rfl, rfl, ?_, ?_, ?_, ?_⟩) | (with_reducible refine ⟨1, _, _, _, _, get1, rfl, rfl, ?_, ?_, ?_, ?_⟩) | (with_reducible refine ⟨2, _, _, _, _, get2, rfl, rfl, ?_, ?_, ?_, ?_⟩) | (with_reducible refine ⟨3, _, _, _, _, get3, rfl, rfl, ?_, ?_, ?_, ?_⟩) | (with_reducible refine ⟨4, _, _, _, _, get4, rfl, rfl, ?_, ?_, ?_, ?_⟩)); (kernel_rfl); (simp [Value.cells]); (rfl); (clear st; intro w st))
              | ((with_reducible refine wl_alloc ?_ (fun K hK => ?_)); rfl; refine owp_alloc (o := ⟨some 12, _, _, _, _, _⟩) rfl st ?_; apply Exists.intro; apply Exists.intro; refine ⟨?_, ?_⟩; (focus (first | (go_simp; done) | (go_simp; rfl))); (clear st; intro b12 w hb st; clear hb))
              | ((with_reducible refine wl_convert ?_ (fun K hK => ?_)); rfl; (first | (refine owp_bs (o := ⟨some 61, _, _, _, _, _⟩) rfl st 0 get0 rfl Try.underlying23 Try.underlying5 Try.underlying9 ?_) | (refine owp_bs (o := ⟨some 61, _, _, _, _, _⟩) rfl st 1 get1 rfl Try.underlying23 Try.underlying5 Try.underlying9 ?_) | (refine owp_bs (o := ⟨some 61, _, _, _, _, _⟩) rfl st 2 get2 rfl Try.underlying23 Try.underlying5 Try.underlying9 ?_) | (refine owp_bs (o := ⟨some 61, _, _, _, _, _⟩) rfl st 3 get3 rfl Try.underlying23 Try.underlying5 Try.underlying9 ?_) | (refine owp_bs (o := ⟨some 61, _, _, _, _, _⟩) rfl st 4 get4 rfl Try.underlying23 Try.underlying5 Try.underlying9 ?_)))
              | ((with_reducible refine wl_convert ?_ (fun K hK => ?_)); rfl; refine owp_sb (o := ⟨some 64, _, _, _, _, _⟩) rfl st rfl Try.underlying9 Try.underlying23 Try.underlying5 ?_ ?_; (simp only [maxLen]; omega); (clear st; intro A64 c64 w hc64 st))); (try simp only [Value.cells, List.cons_append, List.nil_append, List.set, spl, putIt, pick, List.map_cons, List.map_nil, List.getElem?_cons_zero, List.getElem?_cons_succ, Option.getD_some, List.drop_succ_cons, List.drop_zero, List.drop_nil, List.append_nil, unB] at st); (try clear hc); have hc := st.facts; (try simp only [factsOf, blkI, blkFacts, rowI, byI, datI, nullI, oldI, penI, rdI, rdAnyI, rdOverI, Nat.zero_add, Nat.reduceAdd, and_true, true_and, and_self] at hc))
        refine (refNumber_any tn _ (by omega)).mono ?_
        rintro en w ⟨rfl, hx⟩
        replace st := st.ext hx
        clear hx
        (try clear hc); have hc := st.facts; (try simp only [factsOf, blkI, blkFacts, rowI, byI, datI, nullI, oldI, penI, rdI, rdAnyI, rdOverI, Nat.zero_add, Nat.reduceAdd, and_true, true_and, and_self] at hc)
        (try unfold S)
        go_wp2_with ((first
              | ((with_reducible refine wl_alloc ?_ (fun K hK => ?_)); rfl; refine owp_alloc (o := ⟨some 8, _, _, _, _, _⟩) rfl st ?_; apply Exists.intro; apply Exists.intro; refine ⟨?_, ?_⟩; (focus (first | (go_simp; done) | (go_simp; rfl))); (clear st; intro b8 w hb st; clear hb))
              | ((with_reducible refine wl_store ?_ (fun K hK => ?_)); rfl; refine owp_store rfl st ?_; apply Exists.intro; apply Exists.intro; refine ⟨?_, ?_, ?_⟩; (focus (go_simp; try rfl)); (focus (go_simp; try rfl)); (first | (with_reducible refine ⟨0, _, _, _, _, get0, rfl, rfl, ?_, ?_, ?_, ?_⟩) | (with_reducible refine ⟨1, _, _, _, _, get1, rfl, rfl, ?_, ?_, ?_, ?_⟩) | (with_reducible refine ⟨2, _, _, _, _, get2, rfl, rfl, ?_, ?_, ?_, ?_⟩) | (with_reducible refine ⟨3, _, _, _, _, get3, rfl, rfl, ?_, ?_, ?_, ?_⟩) | (with_reducible refine ⟨4, _, _, _, _, get4, rfl, rfl, ?_, ?_, ?_, ?_⟩)); (kernel_rfl); (simp [Value.cells]); (rfl); (clear st; intro w st))
              | ((with_reducible refine wl_alloc ?_ (fun K hK => ?_)); rfl; refine owp_alloc (o := ⟨some 12, _, _, _, _, _⟩) rfl st ?_; apply Exists.intro; apply Exists.intro; refine ⟨?_, ?_⟩; (focus (first | (go_simp; done) | (go_simp; rfl))); (clear st; intro b12 w hb st; clear hb))
              | ((with_reducible refine wl_convert ?_ (fun K hK => ?_)); rfl; (first | (refine owp_bs (o := ⟨some 61, _, _, _, _, _⟩) rfl st 0 get0 rfl Try.underlying23 Try.underlying5 Try.underlying9 ?_) | (refine owp_bs (o := ⟨some 61, _, _, _, _, _⟩) rfl st 1 get1 rfl Try.underlying23 Try.underlying5 Try.underlying9 ?_) | (refine owp_bs (o := ⟨some 61, _, _, _, _, _⟩) rfl st 2 get2 rfl Try.underlying23 Try.underlying5 Try.underlying9 ?_) | (refine owp_bs (o := ⟨some 61, _, _, _, _, _⟩) rfl st 3 get3 rfl Try.underlying23 Try.underlying5 Try.underlying9 ?_) | (refine owp_bs (o := ⟨some 61, _, _, _, _, _⟩) rfl st 4 get4 rfl Try.underlying23 Try.underlying5 Try.underlying9 ?_)))
              | ((with_reducible refine wl_convert ?_ (fun K hK => ?_)); rfl; refine owp_sb (o := ⟨some 64, _, _, _, _, _⟩) rfl st rfl Try.underlying9 Try.underlying23 Try.underlying5 ?_ ?_; (simp only [maxLen]; omega); (clear st; intro A64 c64 w hc64 st))); (try simp only [Value.cells, List.cons_append, List.nil_append, List.set, spl, putIt, pick, List.map_cons, List.map_nil, List.getElem?_cons_zero, List.getElem?_cons_succ, Option.getD_some, List.drop_succ_cons, List.drop_zero, List.drop_nil, List.append_nil, unB] at st); (try clear hc); have hc := st.facts; (try simp only [factsOf, blkI, blkFacts, rowI, byI, datI, nullI, oldI, penI, rdI, rdAnyI, rdOverI, Nat.zero_add, Nat.reduceAdd, and_true, true_and, and_self] at hc))
        rw [show numB 229 ++ (q1 ++ (q2 ++ numB tn)) = u from by rw [← HU.out]; simp]
        have HRM := Lib.hid (fun W => refMake_any k.xs u W (by omega) (by omega))
        have htl : (tagOf k.xs u).length = 8 := by simp [tagOf, be8]
        obtain ⟨tg, htg⟩ : ∃ tg, tagOf k.xs u = tg := ⟨_, rfl⟩
        rw [htg] at HRM htl
        have HTG := Lib.hid htg
        clear htg
        unfold S at HRM
        refine (HRM.out _).mono ?_
        rintro en w ⟨rfl, hx⟩
        replace st := st.ext hx
        clear hx
        (try clear hc); have hc := st.facts; (try simp only [factsOf, blkI, blkFacts, rowI, byI, datI, nullI, oldI, penI, rdI, rdAnyI, rdOverI, Nat.zero_add, Nat.reduceAdd, and_true, true_and, and_self] at hc)
        go_wp2_with (first
            | ((with_reducible refine wl_convert ?_ (fun K hK => ?_)); rfl; refine owp_sbF (o := ⟨some 64, _, _, _, _, _⟩) rfl st rfl Try.underlying9 Try.underlying23 Try.underlying5 ?_ ?_; (simp only [maxLen]; omega); (clear st; intro A64 c64 w hc64 hf64 st; replace hf64 := Lib.hid hf64); (try simp only [List.cons_append, List.nil_append] at st))
            | ((first
              | ((with_reducible refine wl_alloc ?_ (fun K hK => ?_)); rfl; refine owp_alloc (o := ⟨some 8, _, _, _, _, _⟩) rfl st ?_; apply Exists.intro; apply Exists.intro; refine ⟨?_, ?_⟩; (focus (first | (go_simp; done) | (go_simp; rfl))); (clear st; intro b8 w hb st; clear hb))
              | ((with_reducible refine wl_store ?_ (fun K hK => ?_)); rfl; refine owp_store rfl st ?_; apply Exists.intro; apply Exists.intro; refine ⟨?_, ?_, ?_⟩; (focus (go_simp; try rfl)); (focus (go_simp; try rfl)); (first | (with_reducible refine ⟨0, _, _, _, _, get0, rfl, rfl, ?_, ?_, ?_, ?_⟩) | (with_reducible refine ⟨1, _, _, _, _, get1, rfl, rfl, ?_, ?_, ?_, ?_⟩) | (with_reducible refine ⟨2, _, _, _, _, get2, rfl, rfl, ?_, ?_, ?_, ?_⟩) | (with_reducible refine ⟨3, _, _, _, _, get3, rfl, rfl, ?_, ?_, ?_, ?_⟩) | (with_reducible refine ⟨4, _, _, _, _, get4, rfl, rfl, ?_, ?_, ?_, ?_⟩)); (kernel_rfl); (simp [Value.cells]); (rfl); (clear st; intro w st))
              | ((with_reducible refine wl_alloc ?_ (fun K hK => ?_)); rfl; refine owp_alloc (o := ⟨some 12, _, _, _, _, _⟩) rfl st ?_; apply Exists.intro; apply Exists.intro; refine ⟨?_, ?_⟩; (focus (first | (go_simp; done) | (go_simp; rfl))); (clear st; intro b12 w hb st; clear hb))
              | ((with_reducible refine wl_convert ?_ (fun K hK => ?_)); rfl; (first | (refine owp_bs (o := ⟨some 61, _, _, _, _, _⟩) rfl st 0 get0 rfl Try.underlying23 Try.underlying5 Try.underlying9 ?_) | (refine owp_bs (o := ⟨some 61, _, _, _, _, _⟩) rfl st 1 get1 rfl Try.underlying23 Try.underlying5 Try.underlying9 ?_) | (refine owp_bs (o := ⟨some 61, _, _, _, _, _⟩) rfl st 2 get2 rfl Try.underlying23 Try.underlying5 Try.underlying9 ?_) | (refine owp_bs (o := ⟨some 61, _, _, _, _, _⟩) rfl st 3 get3 rfl Try.underlying23 Try.underlying5 Try.underlying9 ?_) | (refine owp_bs (o := ⟨some 61, _, _, _, _, _⟩) rfl st 4 get4 rfl Try.underlying23 Try.underlying5 Try.underlying9 ?_)))
              | ((with_reducible refine wl_convert ?_ (fun K hK => ?_)); rfl; refine owp_sb (o := ⟨some 64, _, _, _, _, _⟩) rfl st rfl Try.underlying9 Try.underlying23 Try.underlying5 ?_ ?_; (simp only [maxLen]; omega); (clear st; intro A64 c64 w hc64 st))); (try simp only [Value.cells, List.cons_append, List.nil_append, List.set, spl, putIt, pick, List.map_cons, List.map_nil, List.getElem?_cons_zero, List.getElem?_cons_succ, Option.getD_some, List.drop_succ_cons, List.drop_zero, List.drop_nil, List.append_nil, unB] at st); (try clear hc); have hc := st.facts; (try simp only [factsOf, blkI, blkFacts, rowI, byI, datI, nullI, oldI, penI, rdI, rdAnyI, rdOverI, Nat.zero_add, Nat.reduceAdd, and_true, true_and, and_self] at hc)))
        (try simp only [Exit.inBlock, Exit.then])
        refine bodyPost_cell2 rfl rfl (st.blk (i := 1) get1) Try.underlying25 rfl (by kernel_rfl) rfl ?_
        have hcc : 8 ≤ c64 ∧ c64 ≤ maxLen := by rw [htl] at hc64; exact hc64
        have hbb : By w A64 8 tg := by first | exact st.by (i := 4) get4 | (have := st.by (i := 4) get4; rwa [htl] at this) | (have := st.by (i := 3) get3; rwa [htl] at this)
        exact ⟨⟨o, cl, tn, A64, 8, c64, tg⟩, rfl, ⟨rfl, rfl, rfl, by rw [← HTG.out, HU2.out]⟩, hf64.out, ⟨hcc, hbb⟩, st.ext0⟩
      | false =>
        have H1 : Hid (keyOf (l.take (j + 1)) o = none) := Lib.hid (by rw [HS.out.1, if_neg (by rw [heq]; decide)])
        go_wp2_with ((first
              | ((with_reducible refine wl_alloc ?_ (fun K hK => ?_)); rfl; refine owp_alloc (o := ⟨some 8, _, _, _, _, _⟩) rfl st ?_; apply Exists.intro; apply Exists.intro; refine ⟨?_, ?_⟩; (focus (first | (go_simp; done) | (go_simp; rfl))); (clear st; intro b8 w hb st; clear hb))
              | ((with_reducible refine wl_store ?_ (fun K hK => ?_)); rfl; refine owp_store rfl st ?_; apply Exists.intro; apply Exists.intro; refine ⟨?_, ?_, ?_⟩; (focus (go_simp; try rfl)); (focus (go_simp; try rfl)); (first | (with_reducible refine ⟨0, _, _, _, _, get0, rfl, rfl, ?_, ?_, ?_, ?_⟩) | (with_reducible refine ⟨1, _, _, _, _, get1, rfl, rfl, ?_, ?_, ?_, ?_⟩) | (with_reducible refine ⟨2, _, _, _, _, get2, rfl, rfl, ?_, ?_, ?_, ?_⟩) | (with_reducible refine ⟨3, _, _, _, _, get3, rfl, rfl, ?_, ?_, ?_, ?_⟩) | (with_reducible refine ⟨4, _, _, _, _, get4, rfl, rfl, ?_, ?_, ?_, ?_⟩)); (kernel_rfl); (simp [Value.cells]); (rfl); (clear st; intro w st))
              | ((with_reducible refine wl_alloc ?_ (fun K hK => ?_)); rfl; refine owp_alloc (o := ⟨some 12, _, _, _, _, _⟩) rfl st ?_; apply Exists.intro; apply Exists.intro; refine ⟨?_, ?_⟩; (focus (first | (go_simp; done) | (go_simp; rfl))); (clear st; intro b12 w hb st; clear hb))
              | ((with_reducible refine wl_convert ?_ (fun K hK => ?_)); rfl; (first | (refine owp_bs (o := ⟨some 61, _, _, _, _, _⟩) rfl st 0 get0 rfl Try.underlying23 Try.underlying5 Try.underlying9 ?_) | (refine owp_bs (o := ⟨some 61, _, _, _, _, _⟩) rfl st 1 get1 rfl Try.underlying23 Try.underlying5 Try.underlying9 ?_) | (refine owp_bs (o := ⟨some 61, _, _, _, _, _⟩) rfl st 2 get2 rfl Try.underlying23 Try.underlying5 Try.underlying9 ?_) | (refine owp_bs (o := ⟨some 61, _, _, _, _, _⟩) rfl st 3 get3 rfl Try.underlying23 Try.underlying5 Try.underlying9 ?_) | (refine owp_bs (o := ⟨some 61, _, _, _, _, _⟩) rfl st 4 get4 rfl Try.underlying23 Try.underlying5 Try.underlying9 ?_)))
              | ((with_reducible refine wl_convert ?_ (fun K hK => ?_)); rfl; refine owp_sb (o := ⟨some 64, _, _, _, _, _⟩) rfl st rfl Try.underlying9 Try.underlying23 Try.underlying5 ?_ ?_; (simp only [maxLen]; omega); (clear st; intro A64 c64 w hc64 st))); (try simp only [Value.cells, List.cons_append, List.nil_append, List.set, spl, putIt, pick, List.map_cons, List.map_nil, List.getElem?_cons_zero, List.getElem?_cons_succ, Option.getD_some, List.drop_succ_cons, List.drop_zero, List.drop_nil, List.append_nil, unB] at st); (try clear hc); have hc := st.facts; (try simp only [factsOf, blkI, blkFacts, rowI, byI, datI, nullI, oldI, penI, rdI, rdAnyI, rdOverI, Nat.zero_add, Nat.reduceAdd, and_true, true_and, and_self] at hc))
        have st' := st.keep [0, 1] (by decide) (by simp)
        go_roundg (n - (j + 1))
        case measure => omega
        case rel => exact ⟨j + 1, by omega, by omega, by go_num, H1, by simpa [pick] using st'⟩
    · obtain rfl : j = n := by omega
      exfalso
      have := HT.out
      rw [List.take_of_length_le (by have := HNL.out; omega), HKO.out] at this
      cases this
/-- What Check answers. -/
def chkErr (ks : List KeyT) (x : TickT) (o cl : List UInt8) (now : Int) : Int := if mkErr ks o cl x.t ≠ 0 then mkErr ks o cl x.t else if x.o ≠ o ∨ x.cl ≠ cl then 42 else if mkTag ks o cl x.t ≠ x.xs then 20 else if now < 0 ∨ x.t < now then 60 else 0
theorem tkEqual_any (a : Option Addr) (n c : Nat) (xs : List UInt8) (a2 : Option Addr) (n2 c2 : Nat) (ys : List UInt8) (w : World) (h : By w a n xs) (h2 : By w a2 n2 ys) :
    Calls Try.prog 91 #[.slice a n c, .slice a2 n2 c2] w fun e w' => e = .returned (.bool (xs == ys)) ∧ w = w' := by
  have h3 := conv_bs (P := Try.prog) (src := 23) (dst := 9) (c := c) Try.underlying23 Try.underlying5 Try.underlying9 h
  have h4 := conv_bs (P := Try.prog) (src := 23) (dst := 9) (c := c2) Try.underlying23 Try.underlying5 Try.underlying9 h2
  unfold S at h3 h4
  have H := Lib.hid h; clear h
  have H2 := Lib.hid h2; clear h2
  go_enter Try.func91, Try.ntmps91
  go_wp2_with fail
  go_ret
  exact ⟨rfl, rfl⟩
theorem mkTag_len (ks : List KeyT) (o cl : List UInt8) (t : Int) (h : mkErr ks o cl t = 0) : (mkTag ks o cl t).length = 8 := by
  obtain ⟨_, _, _, _, _, k, hk, _⟩ := mkErr_0 h
  unfold mkTag; rw [hk]; simp [tagOf, be8]
end Go.Proofs.Ytpenjnccdachaaa
