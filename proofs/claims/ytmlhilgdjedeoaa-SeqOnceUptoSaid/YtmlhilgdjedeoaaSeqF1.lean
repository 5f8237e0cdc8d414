/- Seq: what must be answered ahead of its law. -/
import Derived.Test.YtmlhilgdjedeoaaSeqB
import Derived.Test.YtmlhilgdjedeoaaRegion6
import Derived.Test.YtmlhilgdjedeoaaSetsC
import Derived.LoopN
namespace Go.Proofs.Ytmlhilgdjedeoaa
set_option linter.unusedSimpArgs false
set_option linter.unusedVariables false
open Go Go.RowKit
set_option maxRecDepth 100000 in
set_option maxHeartbeats 8000000 in
theorem first19_any (W : World) : Calls Try.prog 4 #[] W fun e w' => e = .returned (.bool true) ∧ Ext W w' := by
  have HN1 := Lib.hid (fun W => show Calls Try.prog 5 #[.bool true, .int .i64 2, .int .i64 1] W fun e w' => ∃ p, e = .returned (.tuple #[.pointer (some ⟨p, 0, none⟩), .int .i64 0]) ∧ Own (fun _ => False) (fun _ => False) W [blkI p [.bool true, .bool false, .int .i64 1, .int .i64 2, .int .i64 1, .int .i64 0, .int .i64 0, .slice none 0 0, .int .i64 0]] w' from seqNew_f true 2 1 W (by decide) (by decide) (by decide))
  have HN2 := Lib.hid (fun W => show Calls Try.prog 5 #[.bool false, .int .i64 2, .int .i64 1] W fun e w' => ∃ p, e = .returned (.tuple #[.pointer (some ⟨p, 0, none⟩), .int .i64 0]) ∧ Own (fun _ => False) (fun _ => False) W [blkI p [.bool false, .bool false, .int .i64 1, .int .i64 2, .int .i64 1, .int .i64 0, .int .i64 0, .slice none 0 0, .int .i64 0]] w' from seqNew_f false 2 1 W (by decide) (by decide) (by decide))
  have hlen := frM_len (v := 1) mg3_R
  obtain ⟨F, hF⟩ : ∃ F, frM 1 3 0 = F := ⟨_, rfl⟩
  have HS := Lib.hid (fun (fr al : Nat → Prop) (W : World) (p : Nat) (st : Own fr al W [blkI p [.bool true, .bool false, .int .i64 1, .int .i64 2, .int .i64 1, .int .i64 0, .int .i64 0, .slice none 0 0, .int .i64 0]] W) => show Calls Try.prog 7 #[.pointer (some ⟨p, 0, none⟩), .agg #[.int .i64 3, .int .i64 0, .int .i64 0, .string ⟨#[]⟩, .slice none 0 0, .slice none 0 0]] W fun en w' => ∃ a' c' a2 c2, en = .returned (.tuple #[.slice a' (frM 1 3 0).length c', .int .i64 0]) ∧ (((frM 1 3 0).length ≤ c' ∧ c' ≤ maxLen) ∧ (frM 1 3 0).length ≤ c2 ∧ c2 ≤ maxLen) ∧
      Own fr al W [blkI p [.bool false, .bool false, .int .i64 2, .int .i64 2, .int .i64 1, .int .i64 1, .int .i64 0, .slice a2 (frM 1 3 0).length c2, .int .i64 0], byI a2 (frM 1 3 0).length (frM 1 3 0), byI a' (frM 1 3 0).length (frM 1 3 0)] w' from seqSend_c (v := 1) st mg3_R (by decide) (by decide))
  have HG1 := Lib.hid (fun (fr al : Nat → Prop) (W : World) (p m cap : Nat) (a : Option Addr) (hcap : m ≤ cap ∧ cap ≤ maxLen) (st : Own fr al W [blkI p [.bool false, .bool false, .int .i64 1, .int .i64 2, .int .i64 1, .int .i64 0, .int .i64 0, .slice none 0 0, .int .i64 0], byI a m (frM 1 3 0)] W) => show Calls Try.prog 8 #[.pointer (some ⟨p, 0, none⟩), .slice a m cap] W fun en w' => ∃ wa wc sa sc, en = .returned (.tuple #[.agg #[.int .i64 3, .int .i64 0, .int .i64 0, .string ⟨#[]⟩, .slice wa 0 wc, .slice sa 0 sc], .int .i64 1]) ∧
      Own fr al W [blkI p [.bool true, .bool false, .int .i64 2, .int .i64 2, .int .i64 1, .int .i64 0, .int .i64 0, .slice none 0 0, .int .i64 1], byI a m (frM 1 3 0)] w' from seqGot_new (v := 1) st mg3_R (by decide) (by decide) hcap)
  have HG2 := Lib.hid (fun (fr al : Nat → Prop) (W : World) (p m cap : Nat) (a : Option Addr) (hcap : m ≤ cap ∧ cap ≤ maxLen) (st : Own fr al W [blkI p [.bool true, .bool false, .int .i64 2, .int .i64 2, .int .i64 1, .int .i64 0, .int .i64 0, .slice none 0 0, .int .i64 1], byI a m (frM 1 3 0)] W) => show Calls Try.prog 8 #[.pointer (some ⟨p, 0, none⟩), .slice a m cap] W fun en w' => en = .returned (.tuple #[.agg #[.int .i64 0, .int .i64 0, .int .i64 0, .string ⟨#[]⟩, .slice none 0 0, .slice none 0 0], .int .i64 2]) ∧
      Own fr al W [blkI p [.bool true, .bool false, .int .i64 2, .int .i64 2, .int .i64 1, .int .i64 0, .int .i64 0, .slice none 0 0, .int .i64 1], byI a m (frM 1 3 0)] w' from seqGot_old (v := 1) (nx := 2) (gt := 1) st mg3_R (by decide) (by decide) hcap (.inl (by decide)) (.inl ⟨rfl, rfl⟩))
  rw [hF] at HS HG1 HG2 hlen
  obtain ⟨m, hm⟩ : ∃ m, F.length = m := ⟨_, rfl⟩
  have HFM := Lib.hid hm
  rw [hm] at HS hlen
  clear hF
  have hm0 : 0 < m := hlen.1
  have hm1 : m ≤ 5000 := by omega
  have HT1 := Lib.hid (fun (fr al : Nat → Prop) (W : World) (p : Nat) (la : Option Addr) (lc : Nat) (lf : Int) (st : Own fr al W [blkI p [.bool false, .bool false, .int .i64 2, .int .i64 2, .int .i64 1, .int .i64 lf, .int .i64 0, .slice la m lc, .int .i64 0], byI la m F] W) => show Calls Try.prog 10 #[.pointer (some ⟨p, 0, none⟩)] W fun e w' => e = .returned (.tuple #[.slice none 0 0, .int .i64 0]) ∧ Own fr al W [blkI p [.bool false, .bool false, .int .i64 2, .int .i64 2, .int .i64 1, .int .i64 lf, .int .i64 1, .slice la m lc, .int .i64 0], byI la m F] w' from seqTick_wait (to := 2) (tk := 0) st hm0 (by decide) (by decide))
  have HT2 := Lib.hid (fun (fr al : Nat → Prop) (W : World) (p : Nat) (la : Option Addr) (lc : Nat) (hc : m ≤ lc ∧ lc ≤ maxLen) (st : Own fr al W [blkI p [.bool false, .bool false, .int .i64 2, .int .i64 2, .int .i64 1, .int .i64 1, .int .i64 1, .slice la m lc, .int .i64 0], byI la m F] W) => show Calls Try.prog 10 #[.pointer (some ⟨p, 0, none⟩)] W fun e w' => ∃ a' c', e = .returned (.tuple #[.slice a' F.length c', .int .i64 0]) ∧ (F.length ≤ c' ∧ c' ≤ maxLen) ∧ Own fr al W [blkI p [.bool false, .bool false, .int .i64 2, .int .i64 2, .int .i64 1, .int .i64 0, .int .i64 0, .slice la m lc, .int .i64 0], byI la m F, byI a' F.length F] w' from seqTick_again (to := 2) (tk := 1) (lf := 1) st hc hm1 hm0 (by decide) (by decide) (by decide) (by decide) (by decide))
  have HT3 := Lib.hid (fun (fr al : Nat → Prop) (W : World) (p : Nat) (la : Option Addr) (lc : Nat) (st : Own fr al W [blkI p [.bool false, .bool false, .int .i64 2, .int .i64 2, .int .i64 1, .int .i64 0, .int .i64 1, .slice la m lc, .int .i64 0], byI la m F] W) => show Calls Try.prog 10 #[.pointer (some ⟨p, 0, none⟩)] W fun e w' => e = .returned (.tuple #[.slice none 0 0, .int .i64 60]) ∧ Own fr al W [blkI p [.bool false, .bool false, .int .i64 2, .int .i64 2, .int .i64 1, .int .i64 0, .int .i64 2, .slice la m lc, .int .i64 0], byI la m F] w' from seqTick_fail (to := 2) (tk := 1) st hm0 (by decide) (by decide) (by decide))
  rw [hm] at HT2
  clear hm hlen
  have hFF : (F == F) = true := by simp
  have st := Own.startOld W
  (try simp only [nsl, Value.cells, unB] at st)
  (try clear hc); have hc := st.facts; (try simp only [nfl, nft, Nat.reduceAdd] at hc)
  go_enter Try.func4, Try.ntmps4
  go_wp2_with ((first
        | ((with_reducible refine wl_alloc ?_ (fun K hK => ?_)); rfl; refine owp_alloc (o := ⟨some 7, _, _, _, _, _⟩) rfl st ?_; apply Exists.intro; apply Exists.intro; refine ⟨?_, ?_⟩; (focus (first | (go_simp; done) | (go_simp; rfl))); (clear st; intro b7 w hb st; clear hb))
        | ((with_reducible refine wl_store ?_ (fun K hK => ?_)); rfl; refine owp_store rfl st ?_; apply Exists.intro; apply Exists.intro; refine ⟨?_, ?_, ?_⟩; (focus (go_simp; try rfl)); (focus (go_simp; try rfl)); (first | (with_reducible refine ⟨0, _, _, _, _, get0, rfl, rfl, ?_, ?_, ?_, ?_⟩) | (with_reducible refine ⟨1, _, _, _, _, get1, rfl, rfl, ?_, ?_, ?_, ?_⟩) | (with_reducible refine ⟨2, _, _, _, _, get2, rfl, rfl, ?_, ?_, ?_, ?_⟩) | (with_reducible refine ⟨3, _, _, _, _, get3, rfl, rfl, ?_, ?_, ?_, ?_⟩) | (with_reducible refine ⟨4, _, _, _, _, get4, rfl, rfl, ?_, ?_, ?_, ?_⟩) | (with_reducible refine ⟨5, _, _, _, _, get5, rfl, rfl, ?_, ?_, ?_, ?_⟩) | (with_reducible refine ⟨6, _, _, _, _, get6, rfl, rfl, ?_, ?_, ?_, ?_⟩) | (with_reducible refine ⟨7, _, _, _, _, get7, rfl, rfl, ?_, ?_, ?_, ?_⟩) | (with_reducible refine ⟨8, _, _, _, _, get8, rfl, rfl, ?_, ?_, ?_, ?_⟩) | (with_reducible refine ⟨9, _, _, _, _, get9, rfl, rfl, ?_, ?_, ?_, ?_⟩)); (kernel_rfl); (simp [Value.cells]); (rfl); (clear st; intro w st))
        | ((with_reducible refine wl_alloc ?_ (fun K hK => ?_)); rfl; refine owp_alloc (o := ⟨some 9, _, _, _, _, _⟩) rfl st ?_; apply Exists.intro; apply Exists.intro; refine ⟨?_, ?_⟩; (focus (first | (go_simp; done) | (go_simp; rfl))); (clear st; intro b9 w hb st; clear hb))
        | ((with_reducible refine wl_convert ?_ (fun K hK => ?_)); rfl; (first | (refine owp_bs (o := ⟨some 100, _, _, _, _, _⟩) rfl st 0 get0 rfl Try.underlying35 Try.underlying5 Try.underlying9 ?_) | (refine owp_bs (o := ⟨some 100, _, _, _, _, _⟩) rfl st 1 get1 rfl Try.underlying35 Try.underlying5 Try.underlying9 ?_) | (refine owp_bs (o := ⟨some 100, _, _, _, _, _⟩) rfl st 2 get2 rfl Try.underlying35 Try.underlying5 Try.underlying9 ?_) | (refine owp_bs (o := ⟨some 100, _, _, _, _, _⟩) rfl st 3 get3 rfl Try.underlying35 Try.underlying5 Try.underlying9 ?_) | (refine owp_bs (o := ⟨some 100, _, _, _, _, _⟩) rfl st 4 get4 rfl Try.underlying35 Try.underlying5 Try.underlying9 ?_) | (refine owp_bs (o := ⟨some 100, _, _, _, _, _⟩) rfl st 5 get5 rfl Try.underlying35 Try.underlying5 Try.underlying9 ?_) | (refine owp_bs (o := ⟨some 100, _, _, _, _, _⟩) rfl st 6 get6 rfl Try.underlying35 Try.underlying5 Try.underlying9 ?_) | (refine owp_bs (o := ⟨some 100, _, _, _, _, _⟩) rfl st 7 get7 rfl Try.underlying35 Try.underlying5 Try.underlying9 ?_) | (refine owp_bs (o := ⟨some 100, _, _, _, _, _⟩) rfl st 8 get8 rfl Try.underlying35 Try.underlying5 Try.underlying9 ?_) | (refine owp_bs (o := ⟨some 100, _, _, _, _, _⟩) rfl st 9 get9 rfl Try.underlying35 Try.underlying5 Try.underlying9 ?_)))
        | ((with_reducible refine wl_convert ?_ (fun K hK => ?_)); rfl; (first | (refine owp_bs (o := ⟨some 102, _, _, _, _, _⟩) rfl st 0 get0 rfl Try.underlying35 Try.underlying5 Try.underlying9 ?_) | (refine owp_bs (o := ⟨some 102, _, _, _, _, _⟩) rfl st 1 get1 rfl Try.underlying35 Try.underlying5 Try.underlying9 ?_) | (refine owp_bs (o := ⟨some 102, _, _, _, _, _⟩) rfl st 2 get2 rfl Try.underlying35 Try.underlying5 Try.underlying9 ?_) | (refine owp_bs (o := ⟨some 102, _, _, _, _, _⟩) rfl st 3 get3 rfl Try.underlying35 Try.underlying5 Try.underlying9 ?_) | (refine owp_bs (o := ⟨some 102, _, _, _, _, _⟩) rfl st 4 get4 rfl Try.underlying35 Try.underlying5 Try.underlying9 ?_) | (refine owp_bs (o := ⟨some 102, _, _, _, _, _⟩) rfl st 5 get5 rfl Try.underlying35 Try.underlying5 Try.underlying9 ?_) | (refine owp_bs (o := ⟨some 102, _, _, _, _, _⟩) rfl st 6 get6 rfl Try.underlying35 Try.underlying5 Try.underlying9 ?_) | (refine owp_bs (o := ⟨some 102, _, _, _, _, _⟩) rfl st 7 get7 rfl Try.underlying35 Try.underlying5 Try.underlying9 ?_) | (refine owp_bs (o := ⟨some 102, _, _, _, _, _⟩) rfl st 8 get8 rfl Try.underlying35 Try.underlying5 Try.underlying9 ?_) | (refine owp_bs (o := ⟨some 102, _, _, _, _, _⟩) rfl st 9 get9 rfl Try.underlying35 Try.underlying5 Try.underlying9 ?_)))); (try simp only [nsl, Value.cells, unB] at st); (try clear hc); have hc := st.facts; (try simp only [nfl, nft, Nat.reduceAdd] at hc))
  refine (HN1.out _).mono ?_
  rintro en w ⟨p1, rfl, h2⟩
  replace st := st.join h2
  clear h2
  simp only [List.cons_append, List.nil_append] at st
  (try simp only [nsl, Value.cells, unB] at st)
  (try clear hc); have hc := st.facts; (try simp only [nfl, nft, Nat.reduceAdd] at hc)
  go_wp2_with ((first
        | ((with_reducible refine wl_alloc ?_ (fun K hK => ?_)); rfl; refine owp_alloc (o := ⟨some 7, _, _, _, _, _⟩) rfl st ?_; apply Exists.intro; apply Exists.intro; refine ⟨?_, ?_⟩; (focus (first | (go_simp; done) | (go_simp; rfl))); (clear st; intro b7 w hb st; clear hb))
        | ((with_reducible refine wl_store ?_ (fun K hK => ?_)); rfl; refine owp_store rfl st ?_; apply Exists.intro; apply Exists.intro; refine ⟨?_, ?_, ?_⟩; (focus (go_simp; try rfl)); (focus (go_simp; try rfl)); (first | (with_reducible refine ⟨0, _, _, _, _, get0, rfl, rfl, ?_, ?_, ?_, ?_⟩) | (with_reducible refine ⟨1, _, _, _, _, get1, rfl, rfl, ?_, ?_, ?_, ?_⟩) | (with_reducible refine ⟨2, _, _, _, _, get2, rfl, rfl, ?_, ?_, ?_, ?_⟩) | (with_reducible refine ⟨3, _, _, _, _, get3, rfl, rfl, ?_, ?_, ?_, ?_⟩) | (with_reducible refine ⟨4, _, _, _, _, get4, rfl, rfl, ?_, ?_, ?_, ?_⟩) | (with_reducible refine ⟨5, _, _, _, _, get5, rfl, rfl, ?_, ?_, ?_, ?_⟩) | (with_reducible refine ⟨6, _, _, _, _, get6, rfl, rfl, ?_, ?_, ?_, ?_⟩) | (with_reducible refine ⟨7, _, _, _, _, get7, rfl, rfl, ?_, ?_, ?_, ?_⟩) | (with_reducible refine ⟨8, _, _, _, _, get8, rfl, rfl, ?_, ?_, ?_, ?_⟩) | (with_reducible refine ⟨9, _, _, _, _, get9, rfl, rfl, ?_, ?_, ?_, ?_⟩)); (kernel_rfl); (simp [Value.cells]); (rfl); (clear st; intro w st))
        | ((with_reducible refine wl_alloc ?_ (fun K hK => ?_)); rfl; refine owp_alloc (o := ⟨some 9, _, _, _, _, _⟩) rfl st ?_; apply Exists.intro; apply Exists.intro; refine ⟨?_, ?_⟩; (focus (first | (go_simp; done) | (go_simp; rfl))); (clear st; intro b9 w hb st; clear hb))
        | ((with_reducible refine wl_convert ?_ (fun K hK => ?_)); rfl; (first | (refine owp_bs (o := ⟨some 100, _, _, _, _, _⟩) rfl st 0 get0 rfl Try.underlying35 Try.underlying5 Try.underlying9 ?_) | (refine owp_bs (o := ⟨some 100, _, _, _, _, _⟩) rfl st 1 get1 rfl Try.underlying35 Try.underlying5 Try.underlying9 ?_) | (refine owp_bs (o := ⟨some 100, _, _, _, _, _⟩) rfl st 2 get2 rfl Try.underlying35 Try.underlying5 Try.underlying9 ?_) | (refine owp_bs (o := ⟨some 100, _, _, _, _, _⟩) rfl st 3 get3 rfl Try.underlying35 Try.underlying5 Try.underlying9 ?_) | (refine owp_bs (o := ⟨some 100, _, _, _, _, _⟩) rfl st 4 get4 rfl Try.underlying35 Try.underlying5 Try.underlying9 ?_) | (refine owp_bs (o := ⟨some 100, _, _, _, _, _⟩) rfl st 5 get5 rfl Try.underlying35 Try.underlying5 Try.underlying9 ?_) | (refine owp_bs (o := ⟨some 100, _, _, _, _, _⟩) rfl st 6 get6 rfl Try.underlying35 Try.underlying5 Try.underlying9 ?_) | (refine owp_bs (o := ⟨some 100, _, _, _, _, _⟩) rfl st 7 get7 rfl Try.underlying35 Try.underlying5 Try.underlying9 ?_) | (refine owp_bs (o := ⟨some 100, _, _, _, _, _⟩) rfl st 8 get8 rfl Try.underlying35 Try.underlying5 Try.underlying9 ?_) | (refine owp_bs (o := ⟨some 100, _, _, _, _, _⟩) rfl st 9 get9 rfl Try.underlying35 Try.underlying5 Try.underlying9 ?_)))
        | ((with_reducible refine wl_convert ?_ (fun K hK => ?_)); rfl; (first | (refine owp_bs (o := ⟨some 102, _, _, _, _, _⟩) rfl st 0 get0 rfl Try.underlying35 Try.underlying5 Try.underlying9 ?_) | (refine owp_bs (o := ⟨some 102, _, _, _, _, _⟩) rfl st 1 get1 rfl Try.underlying35 Try.underlying5 Try.underlying9 ?_) | (refine owp_bs (o := ⟨some 102, _, _, _, _, _⟩) rfl st 2 get2 rfl Try.underlying35 Try.underlying5 Try.underlying9 ?_) | (refine owp_bs (o := ⟨some 102, _, _, _, _, _⟩) rfl st 3 get3 rfl Try.underlying35 Try.underlying5 Try.underlying9 ?_) | (refine owp_bs (o := ⟨some 102, _, _, _, _, _⟩) rfl st 4 get4 rfl Try.underlying35 Try.underlying5 Try.underlying9 ?_) | (refine owp_bs (o := ⟨some 102, _, _, _, _, _⟩) rfl st 5 get5 rfl Try.underlying35 Try.underlying5 Try.underlying9 ?_) | (refine owp_bs (o := ⟨some 102, _, _, _, _, _⟩) rfl st 6 get6 rfl Try.underlying35 Try.underlying5 Try.underlying9 ?_) | (refine owp_bs (o := ⟨some 102, _, _, _, _, _⟩) rfl st 7 get7 rfl Try.underlying35 Try.underlying5 Try.underlying9 ?_) | (refine owp_bs (o := ⟨some 102, _, _, _, _, _⟩) rfl st 8 get8 rfl Try.underlying35 Try.underlying5 Try.underlying9 ?_) | (refine owp_bs (o := ⟨some 102, _, _, _, _, _⟩) rfl st 9 get9 rfl Try.underlying35 Try.underlying5 Try.underlying9 ?_)))); (try simp only [nsl, Value.cells, unB] at st); (try clear hc); have hc := st.facts; (try simp only [nfl, nft, Nat.reduceAdd] at hc))
  refine (HN2.out _).mono ?_
  rintro en w ⟨p2, rfl, h2⟩
  replace st := st.join h2
  clear h2
  simp only [List.cons_append, List.nil_append] at st
  (try simp only [nsl, Value.cells, unB] at st)
  (try clear hc); have hc := st.facts; (try simp only [nfl, nft, Nat.reduceAdd] at hc)
  go_wp2_with ((first
        | ((with_reducible refine wl_alloc ?_ (fun K hK => ?_)); rfl; refine owp_alloc (o := ⟨some 7, _, _, _, _, _⟩) rfl st ?_; apply Exists.intro; apply Exists.intro; refine ⟨?_, ?_⟩; (focus (first | (go_simp; done) | (go_simp; rfl))); (clear st; intro b7 w hb st; clear hb))
        | ((with_reducible refine wl_store ?_ (fun K hK => ?_)); rfl; refine owp_store rfl st ?_; apply Exists.intro; apply Exists.intro; refine ⟨?_, ?_, ?_⟩; (focus (go_simp; try rfl)); (focus (go_simp; try rfl)); (first | (with_reducible refine ⟨0, _, _, _, _, get0, rfl, rfl, ?_, ?_, ?_, ?_⟩) | (with_reducible refine ⟨1, _, _, _, _, get1, rfl, rfl, ?_, ?_, ?_, ?_⟩) | (with_reducible refine ⟨2, _, _, _, _, get2, rfl, rfl, ?_, ?_, ?_, ?_⟩) | (with_reducible refine ⟨3, _, _, _, _, get3, rfl, rfl, ?_, ?_, ?_, ?_⟩) | (with_reducible refine ⟨4, _, _, _, _, get4, rfl, rfl, ?_, ?_, ?_, ?_⟩) | (with_reducible refine ⟨5, _, _, _, _, get5, rfl, rfl, ?_, ?_, ?_, ?_⟩) | (with_reducible refine ⟨6, _, _, _, _, get6, rfl, rfl, ?_, ?_, ?_, ?_⟩) | (with_reducible refine ⟨7, _, _, _, _, get7, rfl, rfl, ?_, ?_, ?_, ?_⟩) | (with_reducible refine ⟨8, _, _, _, _, get8, rfl, rfl, ?_, ?_, ?_, ?_⟩) | (with_reducible refine ⟨9, _, _, _, _, get9, rfl, rfl, ?_, ?_, ?_, ?_⟩)); (kernel_rfl); (simp [Value.cells]); (rfl); (clear st; intro w st))
        | ((with_reducible refine wl_alloc ?_ (fun K hK => ?_)); rfl; refine owp_alloc (o := ⟨some 9, _, _, _, _, _⟩) rfl st ?_; apply Exists.intro; apply Exists.intro; refine ⟨?_, ?_⟩; (focus (first | (go_simp; done) | (go_simp; rfl))); (clear st; intro b9 w hb st; clear hb))
        | ((with_reducible refine wl_convert ?_ (fun K hK => ?_)); rfl; (first | (refine owp_bs (o := ⟨some 100, _, _, _, _, _⟩) rfl st 0 get0 rfl Try.underlying35 Try.underlying5 Try.underlying9 ?_) | (refine owp_bs (o := ⟨some 100, _, _, _, _, _⟩) rfl st 1 get1 rfl Try.underlying35 Try.underlying5 Try.underlying9 ?_) | (refine owp_bs (o := ⟨some 100, _, _, _, _, _⟩) rfl st 2 get2 rfl Try.underlying35 Try.underlying5 Try.underlying9 ?_) | (refine owp_bs (o := ⟨some 100, _, _, _, _, _⟩) rfl st 3 get3 rfl Try.underlying35 Try.underlying5 Try.underlying9 ?_) | (refine owp_bs (o := ⟨some 100, _, _, _, _, _⟩) rfl st 4 get4 rfl Try.underlying35 Try.underlying5 Try.underlying9 ?_) | (refine owp_bs (o := ⟨some 100, _, _, _, _, _⟩) rfl st 5 get5 rfl Try.underlying35 Try.underlying5 Try.underlying9 ?_) | (refine owp_bs (o := ⟨some 100, _, _, _, _, _⟩) rfl st 6 get6 rfl Try.underlying35 Try.underlying5 Try.underlying9 ?_) | (refine owp_bs (o := ⟨some 100, _, _, _, _, _⟩) rfl st 7 get7 rfl Try.underlying35 Try.underlying5 Try.underlying9 ?_) | (refine owp_bs (o := ⟨some 100, _, _, _, _, _⟩) rfl st 8 get8 rfl Try.underlying35 Try.underlying5 Try.underlying9 ?_) | (refine owp_bs (o := ⟨some 100, _, _, _, _, _⟩) rfl st 9 get9 rfl Try.underlying35 Try.underlying5 Try.underlying9 ?_)))
        | ((with_reducible refine wl_convert ?_ (fun K hK => ?_)); rfl; (first | (refine owp_bs (o := ⟨some 102, _, _, _, _, _⟩) rfl st 0 get0 rfl Try.underlying35 Try.underlying5 Try.underlying9 ?_) | (refine owp_bs (o := ⟨some 102, _, _, _, _, _⟩) rfl st 1 get1 rfl Try.underlying35 Try.underlying5 Try.underlying9 ?_) | (refine owp_bs (o := ⟨some 102, _, _, _, _, _⟩) rfl st 2 get2 rfl Try.underlying35 Try.underlying5 Try.underlying9 ?_) | (refine owp_bs (o := ⟨some 102, _, _, _, _, _⟩) rfl st 3 get3 rfl Try.underlying35 Try.underlying5 Try.underlying9 ?_) | (refine owp_bs (o := ⟨some 102, _, _, _, _, _⟩) rfl st 4 get4 rfl Try.underlying35 Try.underlying5 Try.underlying9 ?_) | (refine owp_bs (o := ⟨some 102, _, _, _, _, _⟩) rfl st 5 get5 rfl Try.underlying35 Try.underlying5 Try.underlying9 ?_) | (refine owp_bs (o := ⟨some 102, _, _, _, _, _⟩) rfl st 6 get6 rfl Try.underlying35 Try.underlying5 Try.underlying9 ?_) | (refine owp_bs (o := ⟨some 102, _, _, _, _, _⟩) rfl st 7 get7 rfl Try.underlying35 Try.underlying5 Try.underlying9 ?_) | (refine owp_bs (o := ⟨some 102, _, _, _, _, _⟩) rfl st 8 get8 rfl Try.underlying35 Try.underlying5 Try.underlying9 ?_) | (refine owp_bs (o := ⟨some 102, _, _, _, _, _⟩) rfl st 9 get9 rfl Try.underlying35 Try.underlying5 Try.underlying9 ?_)))); (try simp only [nsl, Value.cells, unB] at st); (try clear hc); have hc := st.facts; (try simp only [nfl, nft, Nat.reduceAdd] at hc))
  obtain ⟨fr', al', st', back⟩ := st.sub [1] (by decide) (by simp)
  (try simp only [nsl, Value.cells, unB] at st')
  refine (HS.out _ _ _ _ st').mono ?_
  clear st'
  rintro en w ⟨xa, xc, la, lc, rfl, hq, st'⟩
  replace st := back _ _ (by simp) st'
  clear back st'
  (try simp only [nsl, Value.cells, unB] at st)
  (try clear hc); have hc := st.facts; (try simp only [nfl, nft, Nat.reduceAdd] at hc)
  have HXC := Lib.hid hq.1
  have HLC := Lib.hid hq.2
  clear hq
  go_wp2_with ((first
        | ((with_reducible refine wl_alloc ?_ (fun K hK => ?_)); rfl; refine owp_alloc (o := ⟨some 7, _, _, _, _, _⟩) rfl st ?_; apply Exists.intro; apply Exists.intro; refine ⟨?_, ?_⟩; (focus (first | (go_simp; done) | (go_simp; rfl))); (clear st; intro b7 w hb st; clear hb))
        | ((with_reducible refine wl_store ?_ (fun K hK => ?_)); rfl; refine owp_store rfl st ?_; apply Exists.intro; apply Exists.intro; refine ⟨?_, ?_, ?_⟩; (focus (go_simp; try rfl)); (focus (go_simp; try rfl)); (first | (with_reducible refine ⟨0, _, _, _, _, get0, rfl, rfl, ?_, ?_, ?_, ?_⟩) | (with_reducible refine ⟨1, _, _, _, _, get1, rfl, rfl, ?_, ?_, ?_, ?_⟩) | (with_reducible refine ⟨2, _, _, _, _, get2, rfl, rfl, ?_, ?_, ?_, ?_⟩) | (with_reducible refine ⟨3, _, _, _, _, get3, rfl, rfl, ?_, ?_, ?_, ?_⟩) | (with_reducible refine ⟨4, _, _, _, _, get4, rfl, rfl, ?_, ?_, ?_, ?_⟩) | (with_reducible refine ⟨5, _, _, _, _, get5, rfl, rfl, ?_, ?_, ?_, ?_⟩) | (with_reducible refine ⟨6, _, _, _, _, get6, rfl, rfl, ?_, ?_, ?_, ?_⟩) | (with_reducible refine ⟨7, _, _, _, _, get7, rfl, rfl, ?_, ?_, ?_, ?_⟩) | (with_reducible refine ⟨8, _, _, _, _, get8, rfl, rfl, ?_, ?_, ?_, ?_⟩) | (with_reducible refine ⟨9, _, _, _, _, get9, rfl, rfl, ?_, ?_, ?_, ?_⟩)); (kernel_rfl); (simp [Value.cells]); (rfl); (clear st; intro w st))
        | ((with_reducible refine wl_alloc ?_ (fun K hK => ?_)); rfl; refine owp_alloc (o := ⟨some 9, _, _, _, _, _⟩) rfl st ?_; apply Exists.intro; apply Exists.intro; refine ⟨?_, ?_⟩; (focus (first | (go_simp; done) | (go_simp; rfl))); (clear st; intro b9 w hb st; clear hb))
        | ((with_reducible refine wl_convert ?_ (fun K hK => ?_)); rfl; (first | (refine owp_bs (o := ⟨some 100, _, _, _, _, _⟩) rfl st 0 get0 rfl Try.underlying35 Try.underlying5 Try.underlying9 ?_) | (refine owp_bs (o := ⟨some 100, _, _, _, _, _⟩) rfl st 1 get1 rfl Try.underlying35 Try.underlying5 Try.underlying9 ?_) | (refine owp_bs (o := ⟨some 100, _, _, _, _, _⟩) rfl st 2 get2 rfl Try.underlying35 Try.underlying5 Try.underlying9 ?_) | (refine owp_bs (o := ⟨some 100, _, _, _, _, _⟩) rfl st 3 get3 rfl Try.underlying35 Try.underlying5 Try.underlying9 ?_) | (refine owp_bs (o := ⟨some 100, _, _, _, _, _⟩) rfl st 4 get4 rfl Try.underlying35 Try.underlying5 Try.underlying9 ?_) | (refine owp_bs (o := ⟨some 100, _, _, _, _, _⟩) rfl st 5 get5 rfl Try.underlying35 Try.underlying5 Try.underlying9 ?_) | (refine owp_bs (o := ⟨some 100, _, _, _, _, _⟩) rfl st 6 get6 rfl Try.underlying35 Try.underlying5 Try.underlying9 ?_) | (refine owp_bs (o := ⟨some 100, _, _, _, _, _⟩) rfl st 7 get7 rfl Try.underlying35 Try.underlying5 Try.underlying9 ?_) | (refine owp_bs (o := ⟨some 100, _, _, _, _, _⟩) rfl st 8 get8 rfl Try.underlying35 Try.underlying5 Try.underlying9 ?_) | (refine owp_bs (o := ⟨some 100, _, _, _, _, _⟩) rfl st 9 get9 rfl Try.underlying35 Try.underlying5 Try.underlying9 ?_)))
        | ((with_reducible refine wl_convert ?_ (fun K hK => ?_)); rfl; (first | (refine owp_bs (o := ⟨some 102, _, _, _, _, _⟩) rfl st 0 get0 rfl Try.underlying35 Try.underlying5 Try.underlying9 ?_) | (refine owp_bs (o := ⟨some 102, _, _, _, _, _⟩) rfl st 1 get1 rfl Try.underlying35 Try.underlying5 Try.underlying9 ?_) | (refine owp_bs (o := ⟨some 102, _, _, _, _, _⟩) rfl st 2 get2 rfl Try.underlying35 Try.underlying5 Try.underlying9 ?_) | (refine owp_bs (o := ⟨some 102, _, _, _, _, _⟩) rfl st 3 get3 rfl Try.underlying35 Try.underlying5 Try.underlying9 ?_) | (refine owp_bs (o := ⟨some 102, _, _, _, _, _⟩) rfl st 4 get4 rfl Try.underlying35 Try.underlying5 Try.underlying9 ?_) | (refine owp_bs (o := ⟨some 102, _, _, _, _, _⟩) rfl st 5 get5 rfl Try.underlying35 Try.underlying5 Try.underlying9 ?_) | (refine owp_bs (o := ⟨some 102, _, _, _, _, _⟩) rfl st 6 get6 rfl Try.underlying35 Try.underlying5 Try.underlying9 ?_) | (refine owp_bs (o := ⟨some 102, _, _, _, _, _⟩) rfl st 7 get7 rfl Try.underlying35 Try.underlying5 Try.underlying9 ?_) | (refine owp_bs (o := ⟨some 102, _, _, _, _, _⟩) rfl st 8 get8 rfl Try.underlying35 Try.underlying5 Try.underlying9 ?_) | (refine owp_bs (o := ⟨some 102, _, _, _, _, _⟩) rfl st 9 get9 rfl Try.underlying35 Try.underlying5 Try.underlying9 ?_)))); (try simp only [nsl, Value.cells, unB] at st); (try clear hc); have hc := st.facts; (try simp only [nfl, nft, Nat.reduceAdd] at hc))
  obtain ⟨fr', al', st', back⟩ := st.sub [2, 4] (by decide) (by simp)
  (try simp only [nsl, Value.cells, unB] at st')
  refine (HG1.out _ _ _ _ _ _ _ HXC.out st').mono ?_
  clear st'
  rintro en w ⟨wa, wc, sa, sc, rfl, st'⟩
  replace st := back _ _ (by simp) st'
  clear back st'
  (try simp only [nsl, Value.cells, unB] at st)
  (try clear hc); have hc := st.facts; (try simp only [nfl, nft, Nat.reduceAdd] at hc)
  go_wp2_with ((first
        | ((with_reducible refine wl_alloc ?_ (fun K hK => ?_)); rfl; refine owp_alloc (o := ⟨some 7, _, _, _, _, _⟩) rfl st ?_; apply Exists.intro; apply Exists.intro; refine ⟨?_, ?_⟩; (focus (first | (go_simp; done) | (go_simp; rfl))); (clear st; intro b7 w hb st; clear hb))
        | ((with_reducible refine wl_store ?_ (fun K hK => ?_)); rfl; refine owp_store rfl st ?_; apply Exists.intro; apply Exists.intro; refine ⟨?_, ?_, ?_⟩; (focus (go_simp; try rfl)); (focus (go_simp; try rfl)); (first | (with_reducible refine ⟨0, _, _, _, _, get0, rfl, rfl, ?_, ?_, ?_, ?_⟩) | (with_reducible refine ⟨1, _, _, _, _, get1, rfl, rfl, ?_, ?_, ?_, ?_⟩) | (with_reducible refine ⟨2, _, _, _, _, get2, rfl, rfl, ?_, ?_, ?_, ?_⟩) | (with_reducible refine ⟨3, _, _, _, _, get3, rfl, rfl, ?_, ?_, ?_, ?_⟩) | (with_reducible refine ⟨4, _, _, _, _, get4, rfl, rfl, ?_, ?_, ?_, ?_⟩) | (with_reducible refine ⟨5, _, _, _, _, get5, rfl, rfl, ?_, ?_, ?_, ?_⟩) | (with_reducible refine ⟨6, _, _, _, _, get6, rfl, rfl, ?_, ?_, ?_, ?_⟩) | (with_reducible refine ⟨7, _, _, _, _, get7, rfl, rfl, ?_, ?_, ?_, ?_⟩) | (with_reducible refine ⟨8, _, _, _, _, get8, rfl, rfl, ?_, ?_, ?_, ?_⟩) | (with_reducible refine ⟨9, _, _, _, _, get9, rfl, rfl, ?_, ?_, ?_, ?_⟩)); (kernel_rfl); (simp [Value.cells]); (rfl); (clear st; intro w st))
        | ((with_reducible refine wl_alloc ?_ (fun K hK => ?_)); rfl; refine owp_alloc (o := ⟨some 9, _, _, _, _, _⟩) rfl st ?_; apply Exists.intro; apply Exists.intro; refine ⟨?_, ?_⟩; (focus (first | (go_simp; done) | (go_simp; rfl))); (clear st; intro b9 w hb st; clear hb))
        | ((with_reducible refine wl_convert ?_ (fun K hK => ?_)); rfl; (first | (refine owp_bs (o := ⟨some 100, _, _, _, _, _⟩) rfl st 0 get0 rfl Try.underlying35 Try.underlying5 Try.underlying9 ?_) | (refine owp_bs (o := ⟨some 100, _, _, _, _, _⟩) rfl st 1 get1 rfl Try.underlying35 Try.underlying5 Try.underlying9 ?_) | (refine owp_bs (o := ⟨some 100, _, _, _, _, _⟩) rfl st 2 get2 rfl Try.underlying35 Try.underlying5 Try.underlying9 ?_) | (refine owp_bs (o := ⟨some 100, _, _, _, _, _⟩) rfl st 3 get3 rfl Try.underlying35 Try.underlying5 Try.underlying9 ?_) | (refine owp_bs (o := ⟨some 100, _, _, _, _, _⟩) rfl st 4 get4 rfl Try.underlying35 Try.underlying5 Try.underlying9 ?_) | (refine owp_bs (o := ⟨some 100, _, _, _, _, _⟩) rfl st 5 get5 rfl Try.underlying35 Try.underlying5 Try.underlying9 ?_) | (refine owp_bs (o := ⟨some 100, _, _, _, _, _⟩) rfl st 6 get6 rfl Try.underlying35 Try.underlying5 Try.underlying9 ?_) | (refine owp_bs (o := ⟨some 100, _, _, _, _, _⟩) rfl st 7 get7 rfl Try.underlying35 Try.underlying5 Try.underlying9 ?_) | (refine owp_bs (o := ⟨some 100, _, _, _, _, _⟩) rfl st 8 get8 rfl Try.underlying35 Try.underlying5 Try.underlying9 ?_) | (refine owp_bs (o := ⟨some 100, _, _, _, _, _⟩) rfl st 9 get9 rfl Try.underlying35 Try.underlying5 Try.underlying9 ?_)))
        | ((with_reducible refine wl_convert ?_ (fun K hK => ?_)); rfl; (first | (refine owp_bs (o := ⟨some 102, _, _, _, _, _⟩) rfl st 0 get0 rfl Try.underlying35 Try.underlying5 Try.underlying9 ?_) | (refine owp_bs (o := ⟨some 102, _, _, _, _, _⟩) rfl st 1 get1 rfl Try.underlying35 Try.underlying5 Try.underlying9 ?_) | (refine owp_bs (o := ⟨some 102, _, _, _, _, _⟩) rfl st 2 get2 rfl Try.underlying35 Try.underlying5 Try.underlying9 ?_) | (refine owp_bs (o := ⟨some 102, _, _, _, _, _⟩) rfl st 3 get3 rfl Try.underlying35 Try.underlying5 Try.underlying9 ?_) | (refine owp_bs (o := ⟨some 102, _, _, _, _, _⟩) rfl st 4 get4 rfl Try.underlying35 Try.underlying5 Try.underlying9 ?_) | (refine owp_bs (o := ⟨some 102, _, _, _, _, _⟩) rfl st 5 get5 rfl Try.underlying35 Try.underlying5 Try.underlying9 ?_) | (refine owp_bs (o := ⟨some 102, _, _, _, _, _⟩) rfl st 6 get6 rfl Try.underlying35 Try.underlying5 Try.underlying9 ?_) | (refine owp_bs (o := ⟨some 102, _, _, _, _, _⟩) rfl st 7 get7 rfl Try.underlying35 Try.underlying5 Try.underlying9 ?_) | (refine owp_bs (o := ⟨some 102, _, _, _, _, _⟩) rfl st 8 get8 rfl Try.underlying35 Try.underlying5 Try.underlying9 ?_) | (refine owp_bs (o := ⟨some 102, _, _, _, _, _⟩) rfl st 9 get9 rfl Try.underlying35 Try.underlying5 Try.underlying9 ?_)))); (try simp only [nsl, Value.cells, unB] at st); (try clear hc); have hc := st.facts; (try simp only [nfl, nft, Nat.reduceAdd] at hc))
  obtain ⟨fr', al', st', back⟩ := st.sub [2, 4] (by decide) (by simp)
  (try simp only [nsl, Value.cells, unB] at st')
  refine (HG2.out _ _ _ _ _ _ _ HXC.out st').mono ?_
  clear st'
  rintro en w ⟨rfl, st'⟩
  replace st := back _ _ (by simp) st'
  clear back st'
  (try simp only [nsl, Value.cells, unB] at st)
  (try clear hc); have hc := st.facts; (try simp only [nfl, nft, Nat.reduceAdd] at hc)
  go_wp2_with ((first
        | ((with_reducible refine wl_alloc ?_ (fun K hK => ?_)); rfl; refine owp_alloc (o := ⟨some 7, _, _, _, _, _⟩) rfl st ?_; apply Exists.intro; apply Exists.intro; refine ⟨?_, ?_⟩; (focus (first | (go_simp; done) | (go_simp; rfl))); (clear st; intro b7 w hb st; clear hb))
        | ((with_reducible refine wl_store ?_ (fun K hK => ?_)); rfl; refine owp_store rfl st ?_; apply Exists.intro; apply Exists.intro; refine ⟨?_, ?_, ?_⟩; (focus (go_simp; try rfl)); (focus (go_simp; try rfl)); (first | (with_reducible refine ⟨0, _, _, _, _, get0, rfl, rfl, ?_, ?_, ?_, ?_⟩) | (with_reducible refine ⟨1, _, _, _, _, get1, rfl, rfl, ?_, ?_, ?_, ?_⟩) | (with_reducible refine ⟨2, _, _, _, _, get2, rfl, rfl, ?_, ?_, ?_, ?_⟩) | (with_reducible refine ⟨3, _, _, _, _, get3, rfl, rfl, ?_, ?_, ?_, ?_⟩) | (with_reducible refine ⟨4, _, _, _, _, get4, rfl, rfl, ?_, ?_, ?_, ?_⟩) | (with_reducible refine ⟨5, _, _, _, _, get5, rfl, rfl, ?_, ?_, ?_, ?_⟩) | (with_reducible refine ⟨6, _, _, _, _, get6, rfl, rfl, ?_, ?_, ?_, ?_⟩) | (with_reducible refine ⟨7, _, _, _, _, get7, rfl, rfl, ?_, ?_, ?_, ?_⟩) | (with_reducible refine ⟨8, _, _, _, _, get8, rfl, rfl, ?_, ?_, ?_, ?_⟩) | (with_reducible refine ⟨9, _, _, _, _, get9, rfl, rfl, ?_, ?_, ?_, ?_⟩)); (kernel_rfl); (simp [Value.cells]); (rfl); (clear st; intro w st))
        | ((with_reducible refine wl_alloc ?_ (fun K hK => ?_)); rfl; refine owp_alloc (o := ⟨some 9, _, _, _, _, _⟩) rfl st ?_; apply Exists.intro; apply Exists.intro; refine ⟨?_, ?_⟩; (focus (first | (go_simp; done) | (go_simp; rfl))); (clear st; intro b9 w hb st; clear hb))
        | ((with_reducible refine wl_convert ?_ (fun K hK => ?_)); rfl; (first | (refine owp_bs (o := ⟨some 100, _, _, _, _, _⟩) rfl st 0 get0 rfl Try.underlying35 Try.underlying5 Try.underlying9 ?_) | (refine owp_bs (o := ⟨some 100, _, _, _, _, _⟩) rfl st 1 get1 rfl Try.underlying35 Try.underlying5 Try.underlying9 ?_) | (refine owp_bs (o := ⟨some 100, _, _, _, _, _⟩) rfl st 2 get2 rfl Try.underlying35 Try.underlying5 Try.underlying9 ?_) | (refine owp_bs (o := ⟨some 100, _, _, _, _, _⟩) rfl st 3 get3 rfl Try.underlying35 Try.underlying5 Try.underlying9 ?_) | (refine owp_bs (o := ⟨some 100, _, _, _, _, _⟩) rfl st 4 get4 rfl Try.underlying35 Try.underlying5 Try.underlying9 ?_) | (refine owp_bs (o := ⟨some 100, _, _, _, _, _⟩) rfl st 5 get5 rfl Try.underlying35 Try.underlying5 Try.underlying9 ?_) | (refine owp_bs (o := ⟨some 100, _, _, _, _, _⟩) rfl st 6 get6 rfl Try.underlying35 Try.underlying5 Try.underlying9 ?_) | (refine owp_bs (o := ⟨some 100, _, _, _, _, _⟩) rfl st 7 get7 rfl Try.underlying35 Try.underlying5 Try.underlying9 ?_) | (refine owp_bs (o := ⟨some 100, _, _, _, _, _⟩) rfl st 8 get8 rfl Try.underlying35 Try.underlying5 Try.underlying9 ?_) | (refine owp_bs (o := ⟨some 100, _, _, _, _, _⟩) rfl st 9 get9 rfl Try.underlying35 Try.underlying5 Try.underlying9 ?_)))
        | ((with_reducible refine wl_convert ?_ (fun K hK => ?_)); rfl; (first | (refine owp_bs (o := ⟨some 102, _, _, _, _, _⟩) rfl st 0 get0 rfl Try.underlying35 Try.underlying5 Try.underlying9 ?_) | (refine owp_bs (o := ⟨some 102, _, _, _, _, _⟩) rfl st 1 get1 rfl Try.underlying35 Try.underlying5 Try.underlying9 ?_) | (refine owp_bs (o := ⟨some 102, _, _, _, _, _⟩) rfl st 2 get2 rfl Try.underlying35 Try.underlying5 Try.underlying9 ?_) | (refine owp_bs (o := ⟨some 102, _, _, _, _, _⟩) rfl st 3 get3 rfl Try.underlying35 Try.underlying5 Try.underlying9 ?_) | (refine owp_bs (o := ⟨some 102, _, _, _, _, _⟩) rfl st 4 get4 rfl Try.underlying35 Try.underlying5 Try.underlying9 ?_) | (refine owp_bs (o := ⟨some 102, _, _, _, _, _⟩) rfl st 5 get5 rfl Try.underlying35 Try.underlying5 Try.underlying9 ?_) | (refine owp_bs (o := ⟨some 102, _, _, _, _, _⟩) rfl st 6 get6 rfl Try.underlying35 Try.underlying5 Try.underlying9 ?_) | (refine owp_bs (o := ⟨some 102, _, _, _, _, _⟩) rfl st 7 get7 rfl Try.underlying35 Try.underlying5 Try.underlying9 ?_) | (refine owp_bs (o := ⟨some 102, _, _, _, _, _⟩) rfl st 8 get8 rfl Try.underlying35 Try.underlying5 Try.underlying9 ?_) | (refine owp_bs (o := ⟨some 102, _, _, _, _, _⟩) rfl st 9 get9 rfl Try.underlying35 Try.underlying5 Try.underlying9 ?_)))); (try simp only [nsl, Value.cells, unB] at st); (try clear hc); have hc := st.facts; (try simp only [nfl, nft, Nat.reduceAdd] at hc))
  obtain ⟨fr', al', st', back⟩ := st.sub [1, 3] (by decide) (by simp)
  (try simp only [nsl, Value.cells, unB] at st')
  refine (HT1.out _ _ _ _ _ _ _ st').mono ?_
  clear st'
  rintro en w ⟨rfl, st'⟩
  replace st := back _ _ (by simp) st'
  clear back st'
  (try simp only [nsl, Value.cells, unB] at st)
  (try clear hc); have hc := st.facts; (try simp only [nfl, nft, Nat.reduceAdd] at hc)
  go_wp2_with ((first
        | ((with_reducible refine wl_alloc ?_ (fun K hK => ?_)); rfl; refine owp_alloc (o := ⟨some 7, _, _, _, _, _⟩) rfl st ?_; apply Exists.intro; apply Exists.intro; refine ⟨?_, ?_⟩; (focus (first | (go_simp; done) | (go_simp; rfl))); (clear st; intro b7 w hb st; clear hb))
        | ((with_reducible refine wl_store ?_ (fun K hK => ?_)); rfl; refine owp_store rfl st ?_; apply Exists.intro; apply Exists.intro; refine ⟨?_, ?_, ?_⟩; (focus (go_simp; try rfl)); (focus (go_simp; try rfl)); (first | (with_reducible refine ⟨0, _, _, _, _, get0, rfl, rfl, ?_, ?_, ?_, ?_⟩) | (with_reducible refine ⟨1, _, _, _, _, get1, rfl, rfl, ?_, ?_, ?_, ?_⟩) | (with_reducible refine ⟨2, _, _, _, _, get2, rfl, rfl, ?_, ?_, ?_, ?_⟩) | (with_reducible refine ⟨3, _, _, _, _, get3, rfl, rfl, ?_, ?_, ?_, ?_⟩) | (with_reducible refine ⟨4, _, _, _, _, get4, rfl, rfl, ?_, ?_, ?_, ?_⟩) | (with_reducible refine ⟨5, _, _, _, _, get5, rfl, rfl, ?_, ?_, ?_, ?_⟩) | (with_reducible refine ⟨6, _, _, _, _, get6, rfl, rfl, ?_, ?_, ?_, ?_⟩) | (with_reducible refine ⟨7, _, _, _, _, get7, rfl, rfl, ?_, ?_, ?_, ?_⟩) | (with_reducible refine ⟨8, _, _, _, _, get8, rfl, rfl, ?_, ?_, ?_, ?_⟩) | (with_reducible refine ⟨9, _, _, _, _, get9, rfl, rfl, ?_, ?_, ?_, ?_⟩)); (kernel_rfl); (simp [Value.cells]); (rfl); (clear st; intro w st))
        | ((with_reducible refine wl_alloc ?_ (fun K hK => ?_)); rfl; refine owp_alloc (o := ⟨some 9, _, _, _, _, _⟩) rfl st ?_; apply Exists.intro; apply Exists.intro; refine ⟨?_, ?_⟩; (focus (first | (go_simp; done) | (go_simp; rfl))); (clear st; intro b9 w hb st; clear hb))
        | ((with_reducible refine wl_convert ?_ (fun K hK => ?_)); rfl; (first | (refine owp_bs (o := ⟨some 100, _, _, _, _, _⟩) rfl st 0 get0 rfl Try.underlying35 Try.underlying5 Try.underlying9 ?_) | (refine owp_bs (o := ⟨some 100, _, _, _, _, _⟩) rfl st 1 get1 rfl Try.underlying35 Try.underlying5 Try.underlying9 ?_) | (refine owp_bs (o := ⟨some 100, _, _, _, _, _⟩) rfl st 2 get2 rfl Try.underlying35 Try.underlying5 Try.underlying9 ?_) | (refine owp_bs (o := ⟨some 100, _, _, _, _, _⟩) rfl st 3 get3 rfl Try.underlying35 Try.underlying5 Try.underlying9 ?_) | (refine owp_bs (o := ⟨some 100, _, _, _, _, _⟩) rfl st 4 get4 rfl Try.underlying35 Try.underlying5 Try.underlying9 ?_) | (refine owp_bs (o := ⟨some 100, _, _, _, _, _⟩) rfl st 5 get5 rfl Try.underlying35 Try.underlying5 Try.underlying9 ?_) | (refine owp_bs (o := ⟨some 100, _, _, _, _, _⟩) rfl st 6 get6 rfl Try.underlying35 Try.underlying5 Try.underlying9 ?_) | (refine owp_bs (o := ⟨some 100, _, _, _, _, _⟩) rfl st 7 get7 rfl Try.underlying35 Try.underlying5 Try.underlying9 ?_) | (refine owp_bs (o := ⟨some 100, _, _, _, _, _⟩) rfl st 8 get8 rfl Try.underlying35 Try.underlying5 Try.underlying9 ?_) | (refine owp_bs (o := ⟨some 100, _, _, _, _, _⟩) rfl st 9 get9 rfl Try.underlying35 Try.underlying5 Try.underlying9 ?_)))
        | ((with_reducible refine wl_convert ?_ (fun K hK => ?_)); rfl; (first | (refine owp_bs (o := ⟨some 102, _, _, _, _, _⟩) rfl st 0 get0 rfl Try.underlying35 Try.underlying5 Try.underlying9 ?_) | (refine owp_bs (o := ⟨some 102, _, _, _, _, _⟩) rfl st 1 get1 rfl Try.underlying35 Try.underlying5 Try.underlying9 ?_) | (refine owp_bs (o := ⟨some 102, _, _, _, _, _⟩) rfl st 2 get2 rfl Try.underlying35 Try.underlying5 Try.underlying9 ?_) | (refine owp_bs (o := ⟨some 102, _, _, _, _, _⟩) rfl st 3 get3 rfl Try.underlying35 Try.underlying5 Try.underlying9 ?_) | (refine owp_bs (o := ⟨some 102, _, _, _, _, _⟩) rfl st 4 get4 rfl Try.underlying35 Try.underlying5 Try.underlying9 ?_) | (refine owp_bs (o := ⟨some 102, _, _, _, _, _⟩) rfl st 5 get5 rfl Try.underlying35 Try.underlying5 Try.underlying9 ?_) | (refine owp_bs (o := ⟨some 102, _, _, _, _, _⟩) rfl st 6 get6 rfl Try.underlying35 Try.underlying5 Try.underlying9 ?_) | (refine owp_bs (o := ⟨some 102, _, _, _, _, _⟩) rfl st 7 get7 rfl Try.underlying35 Try.underlying5 Try.underlying9 ?_) | (refine owp_bs (o := ⟨some 102, _, _, _, _, _⟩) rfl st 8 get8 rfl Try.underlying35 Try.underlying5 Try.underlying9 ?_) | (refine owp_bs (o := ⟨some 102, _, _, _, _, _⟩) rfl st 9 get9 rfl Try.underlying35 Try.underlying5 Try.underlying9 ?_)))); (try simp only [nsl, Value.cells, unB] at st); (try clear hc); have hc := st.facts; (try simp only [nfl, nft, Nat.reduceAdd] at hc))
  obtain ⟨fr', al', st', back⟩ := st.sub [1, 3] (by decide) (by simp)
  (try simp only [nsl, Value.cells, unB] at st')
  refine (HT2.out _ _ _ _ _ _ HLC.out st').mono ?_
  clear st'
  rintro en w ⟨ya, yc, rfl, hq, st'⟩
  replace st := back _ _ (by simp) st'
  clear back st'
  (try simp only [nsl, Value.cells, unB] at st)
  (try clear hc); have hc := st.facts; (try simp only [nfl, nft, Nat.reduceAdd] at hc)
  have HYC := Lib.hid hq
  clear hq
  go_wp2_with ((first
        | ((with_reducible refine wl_alloc ?_ (fun K hK => ?_)); rfl; refine owp_alloc (o := ⟨some 7, _, _, _, _, _⟩) rfl st ?_; apply Exists.intro; apply Exists.intro; refine ⟨?_, ?_⟩; (focus (first | (go_simp; done) | (go_simp; rfl))); (clear st; intro b7 w hb st; clear hb))
        | ((with_reducible refine wl_store ?_ (fun K hK => ?_)); rfl; refine owp_store rfl st ?_; apply Exists.intro; apply Exists.intro; refine ⟨?_, ?_, ?_⟩; (focus (go_simp; try rfl)); (focus (go_simp; try rfl)); (first | (with_reducible refine ⟨0, _, _, _, _, get0, rfl, rfl, ?_, ?_, ?_, ?_⟩) | (with_reducible refine ⟨1, _, _, _, _, get1, rfl, rfl, ?_, ?_, ?_, ?_⟩) | (with_reducible refine ⟨2, _, _, _, _, get2, rfl, rfl, ?_, ?_, ?_, ?_⟩) | (with_reducible refine ⟨3, _, _, _, _, get3, rfl, rfl, ?_, ?_, ?_, ?_⟩) | (with_reducible refine ⟨4, _, _, _, _, get4, rfl, rfl, ?_, ?_, ?_, ?_⟩) | (with_reducible refine ⟨5, _, _, _, _, get5, rfl, rfl, ?_, ?_, ?_, ?_⟩) | (with_reducible refine ⟨6, _, _, _, _, get6, rfl, rfl, ?_, ?_, ?_, ?_⟩) | (with_reducible refine ⟨7, _, _, _, _, get7, rfl, rfl, ?_, ?_, ?_, ?_⟩) | (with_reducible refine ⟨8, _, _, _, _, get8, rfl, rfl, ?_, ?_, ?_, ?_⟩) | (with_reducible refine ⟨9, _, _, _, _, get9, rfl, rfl, ?_, ?_, ?_, ?_⟩)); (kernel_rfl); (simp [Value.cells]); (rfl); (clear st; intro w st))
        | ((with_reducible refine wl_alloc ?_ (fun K hK => ?_)); rfl; refine owp_alloc (o := ⟨some 9, _, _, _, _, _⟩) rfl st ?_; apply Exists.intro; apply Exists.intro; refine ⟨?_, ?_⟩; (focus (first | (go_simp; done) | (go_simp; rfl))); (clear st; intro b9 w hb st; clear hb))
        | ((with_reducible refine wl_convert ?_ (fun K hK => ?_)); rfl; (first | (refine owp_bs (o := ⟨some 100, _, _, _, _, _⟩) rfl st 0 get0 rfl Try.underlying35 Try.underlying5 Try.underlying9 ?_) | (refine owp_bs (o := ⟨some 100, _, _, _, _, _⟩) rfl st 1 get1 rfl Try.underlying35 Try.underlying5 Try.underlying9 ?_) | (refine owp_bs (o := ⟨some 100, _, _, _, _, _⟩) rfl st 2 get2 rfl Try.underlying35 Try.underlying5 Try.underlying9 ?_) | (refine owp_bs (o := ⟨some 100, _, _, _, _, _⟩) rfl st 3 get3 rfl Try.underlying35 Try.underlying5 Try.underlying9 ?_) | (refine owp_bs (o := ⟨some 100, _, _, _, _, _⟩) rfl st 4 get4 rfl Try.underlying35 Try.underlying5 Try.underlying9 ?_) | (refine owp_bs (o := ⟨some 100, _, _, _, _, _⟩) rfl st 5 get5 rfl Try.underlying35 Try.underlying5 Try.underlying9 ?_) | (refine owp_bs (o := ⟨some 100, _, _, _, _, _⟩) rfl st 6 get6 rfl Try.underlying35 Try.underlying5 Try.underlying9 ?_) | (refine owp_bs (o := ⟨some 100, _, _, _, _, _⟩) rfl st 7 get7 rfl Try.underlying35 Try.underlying5 Try.underlying9 ?_) | (refine owp_bs (o := ⟨some 100, _, _, _, _, _⟩) rfl st 8 get8 rfl Try.underlying35 Try.underlying5 Try.underlying9 ?_) | (refine owp_bs (o := ⟨some 100, _, _, _, _, _⟩) rfl st 9 get9 rfl Try.underlying35 Try.underlying5 Try.underlying9 ?_)))
        | ((with_reducible refine wl_convert ?_ (fun K hK => ?_)); rfl; (first | (refine owp_bs (o := ⟨some 102, _, _, _, _, _⟩) rfl st 0 get0 rfl Try.underlying35 Try.underlying5 Try.underlying9 ?_) | (refine owp_bs (o := ⟨some 102, _, _, _, _, _⟩) rfl st 1 get1 rfl Try.underlying35 Try.underlying5 Try.underlying9 ?_) | (refine owp_bs (o := ⟨some 102, _, _, _, _, _⟩) rfl st 2 get2 rfl Try.underlying35 Try.underlying5 Try.underlying9 ?_) | (refine owp_bs (o := ⟨some 102, _, _, _, _, _⟩) rfl st 3 get3 rfl Try.underlying35 Try.underlying5 Try.underlying9 ?_) | (refine owp_bs (o := ⟨some 102, _, _, _, _, _⟩) rfl st 4 get4 rfl Try.underlying35 Try.underlying5 Try.underlying9 ?_) | (refine owp_bs (o := ⟨some 102, _, _, _, _, _⟩) rfl st 5 get5 rfl Try.underlying35 Try.underlying5 Try.underlying9 ?_) | (refine owp_bs (o := ⟨some 102, _, _, _, _, _⟩) rfl st 6 get6 rfl Try.underlying35 Try.underlying5 Try.underlying9 ?_) | (refine owp_bs (o := ⟨some 102, _, _, _, _, _⟩) rfl st 7 get7 rfl Try.underlying35 Try.underlying5 Try.underlying9 ?_) | (refine owp_bs (o := ⟨some 102, _, _, _, _, _⟩) rfl st 8 get8 rfl Try.underlying35 Try.underlying5 Try.underlying9 ?_) | (refine owp_bs (o := ⟨some 102, _, _, _, _, _⟩) rfl st 9 get9 rfl Try.underlying35 Try.underlying5 Try.underlying9 ?_)))); (try simp only [nsl, Value.cells, unB] at st); (try clear hc); have hc := st.facts; (try simp only [nfl, nft, Nat.reduceAdd] at hc))
  obtain ⟨fr', al', st', back⟩ := st.sub [1, 3] (by decide) (by simp)
  (try simp only [nsl, Value.cells, unB] at st')
  refine (HT1.out _ _ _ _ _ _ _ st').mono ?_
  clear st'
  rintro en w ⟨rfl, st'⟩
  replace st := back _ _ (by simp) st'
  clear back st'
  (try simp only [nsl, Value.cells, unB] at st)
  (try clear hc); have hc := st.facts; (try simp only [nfl, nft, Nat.reduceAdd] at hc)
  go_wp2_with ((first
        | ((with_reducible refine wl_alloc ?_ (fun K hK => ?_)); rfl; refine owp_alloc (o := ⟨some 7, _, _, _, _, _⟩) rfl st ?_; apply Exists.intro; apply Exists.intro; refine ⟨?_, ?_⟩; (focus (first | (go_simp; done) | (go_simp; rfl))); (clear st; intro b7 w hb st; clear hb))
        | ((with_reducible refine wl_store ?_ (fun K hK => ?_)); rfl; refine owp_store rfl st ?_; apply Exists.intro; apply Exists.intro; refine ⟨?_, ?_, ?_⟩; (focus (go_simp; try rfl)); (focus (go_simp; try rfl)); (first | (with_reducible refine ⟨0, _, _, _, _, get0, rfl, rfl, ?_, ?_, ?_, ?_⟩) | (with_reducible refine ⟨1, _, _, _, _, get1, rfl, rfl, ?_, ?_, ?_, ?_⟩) | (with_reducible refine ⟨2, _, _, _, _, get2, rfl, rfl, ?_, ?_, ?_, ?_⟩) | (with_reducible refine ⟨3, _, _, _, _, get3, rfl, rfl, ?_, ?_, ?_, ?_⟩) | (with_reducible refine ⟨4, _, _, _, _, get4, rfl, rfl, ?_, ?_, ?_, ?_⟩) | (with_reducible refine ⟨5, _, _, _, _, get5, rfl, rfl, ?_, ?_, ?_, ?_⟩) | (with_reducible refine ⟨6, _, _, _, _, get6, rfl, rfl, ?_, ?_, ?_, ?_⟩) | (with_reducible refine ⟨7, _, _, _, _, get7, rfl, rfl, ?_, ?_, ?_, ?_⟩) | (with_reducible refine ⟨8, _, _, _, _, get8, rfl, rfl, ?_, ?_, ?_, ?_⟩) | (with_reducible refine ⟨9, _, _, _, _, get9, rfl, rfl, ?_, ?_, ?_, ?_⟩)); (kernel_rfl); (simp [Value.cells]); (rfl); (clear st; intro w st))
        | ((with_reducible refine wl_alloc ?_ (fun K hK => ?_)); rfl; refine owp_alloc (o := ⟨some 9, _, _, _, _, _⟩) rfl st ?_; apply Exists.intro; apply Exists.intro; refine ⟨?_, ?_⟩; (focus (first | (go_simp; done) | (go_simp; rfl))); (clear st; intro b9 w hb st; clear hb))
        | ((with_reducible refine wl_convert ?_ (fun K hK => ?_)); rfl; (first | (refine owp_bs (o := ⟨some 100, _, _, _, _, _⟩) rfl st 0 get0 rfl Try.underlying35 Try.underlying5 Try.underlying9 ?_) | (refine owp_bs (o := ⟨some 100, _, _, _, _, _⟩) rfl st 1 get1 rfl Try.underlying35 Try.underlying5 Try.underlying9 ?_) | (refine owp_bs (o := ⟨some 100, _, _, _, _, _⟩) rfl st 2 get2 rfl Try.underlying35 Try.underlying5 Try.underlying9 ?_) | (refine owp_bs (o := ⟨some 100, _, _, _, _, _⟩) rfl st 3 get3 rfl Try.underlying35 Try.underlying5 Try.underlying9 ?_) | (refine owp_bs (o := ⟨some 100, _, _, _, _, _⟩) rfl st 4 get4 rfl Try.underlying35 Try.underlying5 Try.underlying9 ?_) | (refine owp_bs (o := ⟨some 100, _, _, _, _, _⟩) rfl st 5 get5 rfl Try.underlying35 Try.underlying5 Try.underlying9 ?_) | (refine owp_bs (o := ⟨some 100, _, _, _, _, _⟩) rfl st 6 get6 rfl Try.underlying35 Try.underlying5 Try.underlying9 ?_) | (refine owp_bs (o := ⟨some 100, _, _, _, _, _⟩) rfl st 7 get7 rfl Try.underlying35 Try.underlying5 Try.underlying9 ?_) | (refine owp_bs (o := ⟨some 100, _, _, _, _, _⟩) rfl st 8 get8 rfl Try.underlying35 Try.underlying5 Try.underlying9 ?_) | (refine owp_bs (o := ⟨some 100, _, _, _, _, _⟩) rfl st 9 get9 rfl Try.underlying35 Try.underlying5 Try.underlying9 ?_)))
        | ((with_reducible refine wl_convert ?_ (fun K hK => ?_)); rfl; (first | (refine owp_bs (o := ⟨some 102, _, _, _, _, _⟩) rfl st 0 get0 rfl Try.underlying35 Try.underlying5 Try.underlying9 ?_) | (refine owp_bs (o := ⟨some 102, _, _, _, _, _⟩) rfl st 1 get1 rfl Try.underlying35 Try.underlying5 Try.underlying9 ?_) | (refine owp_bs (o := ⟨some 102, _, _, _, _, _⟩) rfl st 2 get2 rfl Try.underlying35 Try.underlying5 Try.underlying9 ?_) | (refine owp_bs (o := ⟨some 102, _, _, _, _, _⟩) rfl st 3 get3 rfl Try.underlying35 Try.underlying5 Try.underlying9 ?_) | (refine owp_bs (o := ⟨some 102, _, _, _, _, _⟩) rfl st 4 get4 rfl Try.underlying35 Try.underlying5 Try.underlying9 ?_) | (refine owp_bs (o := ⟨some 102, _, _, _, _, _⟩) rfl st 5 get5 rfl Try.underlying35 Try.underlying5 Try.underlying9 ?_) | (refine owp_bs (o := ⟨some 102, _, _, _, _, _⟩) rfl st 6 get6 rfl Try.underlying35 Try.underlying5 Try.underlying9 ?_) | (refine owp_bs (o := ⟨some 102, _, _, _, _, _⟩) rfl st 7 get7 rfl Try.underlying35 Try.underlying5 Try.underlying9 ?_) | (refine owp_bs (o := ⟨some 102, _, _, _, _, _⟩) rfl st 8 get8 rfl Try.underlying35 Try.underlying5 Try.underlying9 ?_) | (refine owp_bs (o := ⟨some 102, _, _, _, _, _⟩) rfl st 9 get9 rfl Try.underlying35 Try.underlying5 Try.underlying9 ?_)))); (try simp only [nsl, Value.cells, unB] at st); (try clear hc); have hc := st.facts; (try simp only [nfl, nft, Nat.reduceAdd] at hc))
  obtain ⟨fr', al', st', back⟩ := st.sub [1, 3] (by decide) (by simp)
  (try simp only [nsl, Value.cells, unB] at st')
  refine (HT3.out _ _ _ _ _ _ st').mono ?_
  clear st'
  rintro en w ⟨rfl, st'⟩
  replace st := back _ _ (by simp) st'
  clear back st'
  (try simp only [nsl, Value.cells, unB] at st)
  (try clear hc); have hc := st.facts; (try simp only [nfl, nft, Nat.reduceAdd] at hc)
  go_wp2_with ((first
        | ((with_reducible refine wl_alloc ?_ (fun K hK => ?_)); rfl; refine owp_alloc (o := ⟨some 7, _, _, _, _, _⟩) rfl st ?_; apply Exists.intro; apply Exists.intro; refine ⟨?_, ?_⟩; (focus (first | (go_simp; done) | (go_simp; rfl))); (clear st; intro b7 w hb st; clear hb))
        | ((with_reducible refine wl_store ?_ (fun K hK => ?_)); rfl; refine owp_store rfl st ?_; apply Exists.intro; apply Exists.intro; refine ⟨?_, ?_, ?_⟩; (focus (go_simp; try rfl)); (focus (go_simp; try rfl)); (first | (with_reducible refine ⟨0, _, _, _, _, get0, rfl, rfl, ?_, ?_, ?_, ?_⟩) | (with_reducible refine ⟨1, _, _, _, _, get1, rfl, rfl, ?_, ?_, ?_, ?_⟩) | (with_reducible refine ⟨2, _, _, _, _, get2, rfl, rfl, ?_, ?_, ?_, ?_⟩) | (with_reducible refine ⟨3, _, _, _, _, get3, rfl, rfl, ?_, ?_, ?_, ?_⟩) | (with_reducible refine ⟨4, _, _, _, _, get4, rfl, rfl, ?_, ?_, ?_, ?_⟩) | (with_reducible refine ⟨5, _, _, _, _, get5, rfl, rfl, ?_, ?_, ?_, ?_⟩) | (with_reducible refine ⟨6, _, _, _, _, get6, rfl, rfl, ?_, ?_, ?_, ?_⟩) | (with_reducible refine ⟨7, _, _, _, _, get7, rfl, rfl, ?_, ?_, ?_, ?_⟩) | (with_reducible refine ⟨8, _, _, _, _, get8, rfl, rfl, ?_, ?_, ?_, ?_⟩) | (with_reducible refine ⟨9, _, _, _, _, get9, rfl, rfl, ?_, ?_, ?_, ?_⟩)); (kernel_rfl); (simp [Value.cells]); (rfl); (clear st; intro w st))
        | ((with_reducible refine wl_alloc ?_ (fun K hK => ?_)); rfl; refine owp_alloc (o := ⟨some 9, _, _, _, _, _⟩) rfl st ?_; apply Exists.intro; apply Exists.intro; refine ⟨?_, ?_⟩; (focus (first | (go_simp; done) | (go_simp; rfl))); (clear st; intro b9 w hb st; clear hb))
        | ((with_reducible refine wl_convert ?_ (fun K hK => ?_)); rfl; (first | (refine owp_bs (o := ⟨some 100, _, _, _, _, _⟩) rfl st 0 get0 rfl Try.underlying35 Try.underlying5 Try.underlying9 ?_) | (refine owp_bs (o := ⟨some 100, _, _, _, _, _⟩) rfl st 1 get1 rfl Try.underlying35 Try.underlying5 Try.underlying9 ?_) | (refine owp_bs (o := ⟨some 100, _, _, _, _, _⟩) rfl st 2 get2 rfl Try.underlying35 Try.underlying5 Try.underlying9 ?_) | (refine owp_bs (o := ⟨some 100, _, _, _, _, _⟩) rfl st 3 get3 rfl Try.underlying35 Try.underlying5 Try.underlying9 ?_) | (refine owp_bs (o := ⟨some 100, _, _, _, _, _⟩) rfl st 4 get4 rfl Try.underlying35 Try.underlying5 Try.underlying9 ?_) | (refine owp_bs (o := ⟨some 100, _, _, _, _, _⟩) rfl st 5 get5 rfl Try.underlying35 Try.underlying5 Try.underlying9 ?_) | (refine owp_bs (o := ⟨some 100, _, _, _, _, _⟩) rfl st 6 get6 rfl Try.underlying35 Try.underlying5 Try.underlying9 ?_) | (refine owp_bs (o := ⟨some 100, _, _, _, _, _⟩) rfl st 7 get7 rfl Try.underlying35 Try.underlying5 Try.underlying9 ?_) | (refine owp_bs (o := ⟨some 100, _, _, _, _, _⟩) rfl st 8 get8 rfl Try.underlying35 Try.underlying5 Try.underlying9 ?_) | (refine owp_bs (o := ⟨some 100, _, _, _, _, _⟩) rfl st 9 get9 rfl Try.underlying35 Try.underlying5 Try.underlying9 ?_)))
        | ((with_reducible refine wl_convert ?_ (fun K hK => ?_)); rfl; (first | (refine owp_bs (o := ⟨some 102, _, _, _, _, _⟩) rfl st 0 get0 rfl Try.underlying35 Try.underlying5 Try.underlying9 ?_) | (refine owp_bs (o := ⟨some 102, _, _, _, _, _⟩) rfl st 1 get1 rfl Try.underlying35 Try.underlying5 Try.underlying9 ?_) | (refine owp_bs (o := ⟨some 102, _, _, _, _, _⟩) rfl st 2 get2 rfl Try.underlying35 Try.underlying5 Try.underlying9 ?_) | (refine owp_bs (o := ⟨some 102, _, _, _, _, _⟩) rfl st 3 get3 rfl Try.underlying35 Try.underlying5 Try.underlying9 ?_) | (refine owp_bs (o := ⟨some 102, _, _, _, _, _⟩) rfl st 4 get4 rfl Try.underlying35 Try.underlying5 Try.underlying9 ?_) | (refine owp_bs (o := ⟨some 102, _, _, _, _, _⟩) rfl st 5 get5 rfl Try.underlying35 Try.underlying5 Try.underlying9 ?_) | (refine owp_bs (o := ⟨some 102, _, _, _, _, _⟩) rfl st 6 get6 rfl Try.underlying35 Try.underlying5 Try.underlying9 ?_) | (refine owp_bs (o := ⟨some 102, _, _, _, _, _⟩) rfl st 7 get7 rfl Try.underlying35 Try.underlying5 Try.underlying9 ?_) | (refine owp_bs (o := ⟨some 102, _, _, _, _, _⟩) rfl st 8 get8 rfl Try.underlying35 Try.underlying5 Try.underlying9 ?_) | (refine owp_bs (o := ⟨some 102, _, _, _, _, _⟩) rfl st 9 get9 rfl Try.underlying35 Try.underlying5 Try.underlying9 ?_)))); (try simp only [nsl, Value.cells, unB] at st); (try clear hc); have hc := st.facts; (try simp only [nfl, nft, Nat.reduceAdd] at hc))
  refine (seqWord_any _ _ _ _ _ _ _ _ _ _ _ _ _ (st.blk (i := 2) get2)).mono ?_
  rintro en w ⟨rfl, hx⟩
  replace st := st.ext hx
  clear hx
  (try clear hc); have hc := st.facts; (try simp only [nfl, nft, Nat.reduceAdd] at hc)
  go_wp2_with ((first
        | ((with_reducible refine wl_alloc ?_ (fun K hK => ?_)); rfl; refine owp_alloc (o := ⟨some 7, _, _, _, _, _⟩) rfl st ?_; apply Exists.intro; apply Exists.intro; refine ⟨?_, ?_⟩; (focus (first | (go_simp; done) | (go_simp; rfl))); (clear st; intro b7 w hb st; clear hb))
        | ((with_reducible refine wl_store ?_ (fun K hK => ?_)); rfl; refine owp_store rfl st ?_; apply Exists.intro; apply Exists.intro; refine ⟨?_, ?_, ?_⟩; (focus (go_simp; try rfl)); (focus (go_simp; try rfl)); (first | (with_reducible refine ⟨0, _, _, _, _, get0, rfl, rfl, ?_, ?_, ?_, ?_⟩) | (with_reducible refine ⟨1, _, _, _, _, get1, rfl, rfl, ?_, ?_, ?_, ?_⟩) | (with_reducible refine ⟨2, _, _, _, _, get2, rfl, rfl, ?_, ?_, ?_, ?_⟩) | (with_reducible refine ⟨3, _, _, _, _, get3, rfl, rfl, ?_, ?_, ?_, ?_⟩) | (with_reducible refine ⟨4, _, _, _, _, get4, rfl, rfl, ?_, ?_, ?_, ?_⟩) | (with_reducible refine ⟨5, _, _, _, _, get5, rfl, rfl, ?_, ?_, ?_, ?_⟩) | (with_reducible refine ⟨6, _, _, _, _, get6, rfl, rfl, ?_, ?_, ?_, ?_⟩) | (with_reducible refine ⟨7, _, _, _, _, get7, rfl, rfl, ?_, ?_, ?_, ?_⟩) | (with_reducible refine ⟨8, _, _, _, _, get8, rfl, rfl, ?_, ?_, ?_, ?_⟩) | (with_reducible refine ⟨9, _, _, _, _, get9, rfl, rfl, ?_, ?_, ?_, ?_⟩)); (kernel_rfl); (simp [Value.cells]); (rfl); (clear st; intro w st))
        | ((with_reducible refine wl_alloc ?_ (fun K hK => ?_)); rfl; refine owp_alloc (o := ⟨some 9, _, _, _, _, _⟩) rfl st ?_; apply Exists.intro; apply Exists.intro; refine ⟨?_, ?_⟩; (focus (first | (go_simp; done) | (go_simp; rfl))); (clear st; intro b9 w hb st; clear hb))
        | ((with_reducible refine wl_convert ?_ (fun K hK => ?_)); rfl; (first | (refine owp_bs (o := ⟨some 100, _, _, _, _, _⟩) rfl st 0 get0 rfl Try.underlying35 Try.underlying5 Try.underlying9 ?_) | (refine owp_bs (o := ⟨some 100, _, _, _, _, _⟩) rfl st 1 get1 rfl Try.underlying35 Try.underlying5 Try.underlying9 ?_) | (refine owp_bs (o := ⟨some 100, _, _, _, _, _⟩) rfl st 2 get2 rfl Try.underlying35 Try.underlying5 Try.underlying9 ?_) | (refine owp_bs (o := ⟨some 100, _, _, _, _, _⟩) rfl st 3 get3 rfl Try.underlying35 Try.underlying5 Try.underlying9 ?_) | (refine owp_bs (o := ⟨some 100, _, _, _, _, _⟩) rfl st 4 get4 rfl Try.underlying35 Try.underlying5 Try.underlying9 ?_) | (refine owp_bs (o := ⟨some 100, _, _, _, _, _⟩) rfl st 5 get5 rfl Try.underlying35 Try.underlying5 Try.underlying9 ?_) | (refine owp_bs (o := ⟨some 100, _, _, _, _, _⟩) rfl st 6 get6 rfl Try.underlying35 Try.underlying5 Try.underlying9 ?_) | (refine owp_bs (o := ⟨some 100, _, _, _, _, _⟩) rfl st 7 get7 rfl Try.underlying35 Try.underlying5 Try.underlying9 ?_) | (refine owp_bs (o := ⟨some 100, _, _, _, _, _⟩) rfl st 8 get8 rfl Try.underlying35 Try.underlying5 Try.underlying9 ?_) | (refine owp_bs (o := ⟨some 100, _, _, _, _, _⟩) rfl st 9 get9 rfl Try.underlying35 Try.underlying5 Try.underlying9 ?_)))
        | ((with_reducible refine wl_convert ?_ (fun K hK => ?_)); rfl; (first | (refine owp_bs (o := ⟨some 102, _, _, _, _, _⟩) rfl st 0 get0 rfl Try.underlying35 Try.underlying5 Try.underlying9 ?_) | (refine owp_bs (o := ⟨some 102, _, _, _, _, _⟩) rfl st 1 get1 rfl Try.underlying35 Try.underlying5 Try.underlying9 ?_) | (refine owp_bs (o := ⟨some 102, _, _, _, _, _⟩) rfl st 2 get2 rfl Try.underlying35 Try.underlying5 Try.underlying9 ?_) | (refine owp_bs (o := ⟨some 102, _, _, _, _, _⟩) rfl st 3 get3 rfl Try.underlying35 Try.underlying5 Try.underlying9 ?_) | (refine owp_bs (o := ⟨some 102, _, _, _, _, _⟩) rfl st 4 get4 rfl Try.underlying35 Try.underlying5 Try.underlying9 ?_) | (refine owp_bs (o := ⟨some 102, _, _, _, _, _⟩) rfl st 5 get5 rfl Try.underlying35 Try.underlying5 Try.underlying9 ?_) | (refine owp_bs (o := ⟨some 102, _, _, _, _, _⟩) rfl st 6 get6 rfl Try.underlying35 Try.underlying5 Try.underlying9 ?_) | (refine owp_bs (o := ⟨some 102, _, _, _, _, _⟩) rfl st 7 get7 rfl Try.underlying35 Try.underlying5 Try.underlying9 ?_) | (refine owp_bs (o := ⟨some 102, _, _, _, _, _⟩) rfl st 8 get8 rfl Try.underlying35 Try.underlying5 Try.underlying9 ?_) | (refine owp_bs (o := ⟨some 102, _, _, _, _, _⟩) rfl st 9 get9 rfl Try.underlying35 Try.underlying5 Try.underlying9 ?_)))); (try simp only [nsl, Value.cells, unB] at st); (try clear hc); have hc := st.facts; (try simp only [nfl, nft, Nat.reduceAdd] at hc))
  refine (seqWord_any _ _ _ _ _ _ _ _ _ _ _ _ _ (st.blk (i := 1) get1)).mono ?_
  rintro en w ⟨rfl, hx⟩
  replace st := st.ext hx
  clear hx
  (try clear hc); have hc := st.facts; (try simp only [nfl, nft, Nat.reduceAdd] at hc)
  go_wp2_with ((first
        | ((with_reducible refine wl_alloc ?_ (fun K hK => ?_)); rfl; refine owp_alloc (o := ⟨some 7, _, _, _, _, _⟩) rfl st ?_; apply Exists.intro; apply Exists.intro; refine ⟨?_, ?_⟩; (focus (first | (go_simp; done) | (go_simp; rfl))); (clear st; intro b7 w hb st; clear hb))
        | ((with_reducible refine wl_store ?_ (fun K hK => ?_)); rfl; refine owp_store rfl st ?_; apply Exists.intro; apply Exists.intro; refine ⟨?_, ?_, ?_⟩; (focus (go_simp; try rfl)); (focus (go_simp; try rfl)); (first | (with_reducible refine ⟨0, _, _, _, _, get0, rfl, rfl, ?_, ?_, ?_, ?_⟩) | (with_reducible refine ⟨1, _, _, _, _, get1, rfl, rfl, ?_, ?_, ?_, ?_⟩) | (with_reducible refine ⟨2, _, _, _, _, get2, rfl, rfl, ?_, ?_, ?_, ?_⟩) | (with_reducible refine ⟨3, _, _, _, _, get3, rfl, rfl, ?_, ?_, ?_, ?_⟩) | (with_reducible refine ⟨4, _, _, _, _, get4, rfl, rfl, ?_, ?_, ?_, ?_⟩) | (with_reducible refine ⟨5, _, _, _, _, get5, rfl, rfl, ?_, ?_, ?_, ?_⟩) | (with_reducible refine ⟨6, _, _, _, _, get6, rfl, rfl, ?_, ?_, ?_, ?_⟩) | (with_reducible refine ⟨7, _, _, _, _, get7, rfl, rfl, ?_, ?_, ?_, ?_⟩) | (with_reducible refine ⟨8, _, _, _, _, get8, rfl, rfl, ?_, ?_, ?_, ?_⟩) | (with_reducible refine ⟨9, _, _, _, _, get9, rfl, rfl, ?_, ?_, ?_, ?_⟩)); (kernel_rfl); (simp [Value.cells]); (rfl); (clear st; intro w st))
        | ((with_reducible refine wl_alloc ?_ (fun K hK => ?_)); rfl; refine owp_alloc (o := ⟨some 9, _, _, _, _, _⟩) rfl st ?_; apply Exists.intro; apply Exists.intro; refine ⟨?_, ?_⟩; (focus (first | (go_simp; done) | (go_simp; rfl))); (clear st; intro b9 w hb st; clear hb))
        | ((with_reducible refine wl_convert ?_ (fun K hK => ?_)); rfl; (first | (refine owp_bs (o := ⟨some 100, _, _, _, _, _⟩) rfl st 0 get0 rfl Try.underlying35 Try.underlying5 Try.underlying9 ?_) | (refine owp_bs (o := ⟨some 100, _, _, _, _, _⟩) rfl st 1 get1 rfl Try.underlying35 Try.underlying5 Try.underlying9 ?_) | (refine owp_bs (o := ⟨some 100, _, _, _, _, _⟩) rfl st 2 get2 rfl Try.underlying35 Try.underlying5 Try.underlying9 ?_) | (refine owp_bs (o := ⟨some 100, _, _, _, _, _⟩) rfl st 3 get3 rfl Try.underlying35 Try.underlying5 Try.underlying9 ?_) | (refine owp_bs (o := ⟨some 100, _, _, _, _, _⟩) rfl st 4 get4 rfl Try.underlying35 Try.underlying5 Try.underlying9 ?_) | (refine owp_bs (o := ⟨some 100, _, _, _, _, _⟩) rfl st 5 get5 rfl Try.underlying35 Try.underlying5 Try.underlying9 ?_) | (refine owp_bs (o := ⟨some 100, _, _, _, _, _⟩) rfl st 6 get6 rfl Try.underlying35 Try.underlying5 Try.underlying9 ?_) | (refine owp_bs (o := ⟨some 100, _, _, _, _, _⟩) rfl st 7 get7 rfl Try.underlying35 Try.underlying5 Try.underlying9 ?_) | (refine owp_bs (o := ⟨some 100, _, _, _, _, _⟩) rfl st 8 get8 rfl Try.underlying35 Try.underlying5 Try.underlying9 ?_) | (refine owp_bs (o := ⟨some 100, _, _, _, _, _⟩) rfl st 9 get9 rfl Try.underlying35 Try.underlying5 Try.underlying9 ?_)))
        | ((with_reducible refine wl_convert ?_ (fun K hK => ?_)); rfl; (first | (refine owp_bs (o := ⟨some 102, _, _, _, _, _⟩) rfl st 0 get0 rfl Try.underlying35 Try.underlying5 Try.underlying9 ?_) | (refine owp_bs (o := ⟨some 102, _, _, _, _, _⟩) rfl st 1 get1 rfl Try.underlying35 Try.underlying5 Try.underlying9 ?_) | (refine owp_bs (o := ⟨some 102, _, _, _, _, _⟩) rfl st 2 get2 rfl Try.underlying35 Try.underlying5 Try.underlying9 ?_) | (refine owp_bs (o := ⟨some 102, _, _, _, _, _⟩) rfl st 3 get3 rfl Try.underlying35 Try.underlying5 Try.underlying9 ?_) | (refine owp_bs (o := ⟨some 102, _, _, _, _, _⟩) rfl st 4 get4 rfl Try.underlying35 Try.underlying5 Try.underlying9 ?_) | (refine owp_bs (o := ⟨some 102, _, _, _, _, _⟩) rfl st 5 get5 rfl Try.underlying35 Try.underlying5 Try.underlying9 ?_) | (refine owp_bs (o := ⟨some 102, _, _, _, _, _⟩) rfl st 6 get6 rfl Try.underlying35 Try.underlying5 Try.underlying9 ?_) | (refine owp_bs (o := ⟨some 102, _, _, _, _, _⟩) rfl st 7 get7 rfl Try.underlying35 Try.underlying5 Try.underlying9 ?_) | (refine owp_bs (o := ⟨some 102, _, _, _, _, _⟩) rfl st 8 get8 rfl Try.underlying35 Try.underlying5 Try.underlying9 ?_) | (refine owp_bs (o := ⟨some 102, _, _, _, _, _⟩) rfl st 9 get9 rfl Try.underlying35 Try.underlying5 Try.underlying9 ?_)))); (try simp only [nsl, Value.cells, unB] at st); (try clear hc); have hc := st.facts; (try simp only [nfl, nft, Nat.reduceAdd] at hc))
  refine (seqNext_any _ _ _ _ _ _ _ _ _ _ _ _ _ (st.blk (i := 2) get2)).mono ?_
  rintro en w ⟨rfl, hx⟩
  replace st := st.ext hx
  clear hx
  (try clear hc); have hc := st.facts; (try simp only [nfl, nft, Nat.reduceAdd] at hc)
  go_wp2_with ((first
        | ((with_reducible refine wl_alloc ?_ (fun K hK => ?_)); rfl; refine owp_alloc (o := ⟨some 7, _, _, _, _, _⟩) rfl st ?_; apply Exists.intro; apply Exists.intro; refine ⟨?_, ?_⟩; (focus (first | (go_simp; done) | (go_simp; rfl))); (clear st; intro b7 w hb st; clear hb))
        | ((with_reducible refine wl_store ?_ (fun K hK => ?_)); rfl; refine owp_store rfl st ?_; apply Exists.intro; apply Exists.intro; refine ⟨?_, ?_, ?_⟩; (focus (go_simp; try rfl)); (focus (go_simp; try rfl)); (first | (with_reducible refine ⟨0, _, _, _, _, get0, rfl, rfl, ?_, ?_, ?_, ?_⟩) | (with_reducible refine ⟨1, _, _, _, _, get1, rfl, rfl, ?_, ?_, ?_, ?_⟩) | (with_reducible refine ⟨2, _, _, _, _, get2, rfl, rfl, ?_, ?_, ?_, ?_⟩) | (with_reducible refine ⟨3, _, _, _, _, get3, rfl, rfl, ?_, ?_, ?_, ?_⟩) | (with_reducible refine ⟨4, _, _, _, _, get4, rfl, rfl, ?_, ?_, ?_, ?_⟩) | (with_reducible refine ⟨5, _, _, _, _, get5, rfl, rfl, ?_, ?_, ?_, ?_⟩) | (with_reducible refine ⟨6, _, _, _, _, get6, rfl, rfl, ?_, ?_, ?_, ?_⟩) | (with_reducible refine ⟨7, _, _, _, _, get7, rfl, rfl, ?_, ?_, ?_, ?_⟩) | (with_reducible refine ⟨8, _, _, _, _, get8, rfl, rfl, ?_, ?_, ?_, ?_⟩) | (with_reducible refine ⟨9, _, _, _, _, get9, rfl, rfl, ?_, ?_, ?_, ?_⟩)); (kernel_rfl); (simp [Value.cells]); (rfl); (clear st; intro w st))
        | ((with_reducible refine wl_alloc ?_ (fun K hK => ?_)); rfl; refine owp_alloc (o := ⟨some 9, _, _, _, _, _⟩) rfl st ?_; apply Exists.intro; apply Exists.intro; refine ⟨?_, ?_⟩; (focus (first | (go_simp; done) | (go_simp; rfl))); (clear st; intro b9 w hb st; clear hb))
        | ((with_reducible refine wl_convert ?_ (fun K hK => ?_)); rfl; (first | (refine owp_bs (o := ⟨some 100, _, _, _, _, _⟩) rfl st 0 get0 rfl Try.underlying35 Try.underlying5 Try.underlying9 ?_) | (refine owp_bs (o := ⟨some 100, _, _, _, _, _⟩) rfl st 1 get1 rfl Try.underlying35 Try.underlying5 Try.underlying9 ?_) | (refine owp_bs (o := ⟨some 100, _, _, _, _, _⟩) rfl st 2 get2 rfl Try.underlying35 Try.underlying5 Try.underlying9 ?_) | (refine owp_bs (o := ⟨some 100, _, _, _, _, _⟩) rfl st 3 get3 rfl Try.underlying35 Try.underlying5 Try.underlying9 ?_) | (refine owp_bs (o := ⟨some 100, _, _, _, _, _⟩) rfl st 4 get4 rfl Try.underlying35 Try.underlying5 Try.underlying9 ?_) | (refine owp_bs (o := ⟨some 100, _, _, _, _, _⟩) rfl st 5 get5 rfl Try.underlying35 Try.underlying5 Try.underlying9 ?_) | (refine owp_bs (o := ⟨some 100, _, _, _, _, _⟩) rfl st 6 get6 rfl Try.underlying35 Try.underlying5 Try.underlying9 ?_) | (refine owp_bs (o := ⟨some 100, _, _, _, _, _⟩) rfl st 7 get7 rfl Try.underlying35 Try.underlying5 Try.underlying9 ?_) | (refine owp_bs (o := ⟨some 100, _, _, _, _, _⟩) rfl st 8 get8 rfl Try.underlying35 Try.underlying5 Try.underlying9 ?_) | (refine owp_bs (o := ⟨some 100, _, _, _, _, _⟩) rfl st 9 get9 rfl Try.underlying35 Try.underlying5 Try.underlying9 ?_)))
        | ((with_reducible refine wl_convert ?_ (fun K hK => ?_)); rfl; (first | (refine owp_bs (o := ⟨some 102, _, _, _, _, _⟩) rfl st 0 get0 rfl Try.underlying35 Try.underlying5 Try.underlying9 ?_) | (refine owp_bs (o := ⟨some 102, _, _, _, _, _⟩) rfl st 1 get1 rfl Try.underlying35 Try.underlying5 Try.underlying9 ?_) | (refine owp_bs (o := ⟨some 102, _, _, _, _, _⟩) rfl st 2 get2 rfl Try.underlying35 Try.underlying5 Try.underlying9 ?_) | (refine owp_bs (o := ⟨some 102, _, _, _, _, _⟩) rfl st 3 get3 rfl Try.underlying35 Try.underlying5 Try.underlying9 ?_) | (refine owp_bs (o := ⟨some 102, _, _, _, _, _⟩) rfl st 4 get4 rfl Try.underlying35 Try.underlying5 Try.underlying9 ?_) | (refine owp_bs (o := ⟨some 102, _, _, _, _, _⟩) rfl st 5 get5 rfl Try.underlying35 Try.underlying5 Try.underlying9 ?_) | (refine owp_bs (o := ⟨some 102, _, _, _, _, _⟩) rfl st 6 get6 rfl Try.underlying35 Try.underlying5 Try.underlying9 ?_) | (refine owp_bs (o := ⟨some 102, _, _, _, _, _⟩) rfl st 7 get7 rfl Try.underlying35 Try.underlying5 Try.underlying9 ?_) | (refine owp_bs (o := ⟨some 102, _, _, _, _, _⟩) rfl st 8 get8 rfl Try.underlying35 Try.underlying5 Try.underlying9 ?_) | (refine owp_bs (o := ⟨some 102, _, _, _, _, _⟩) rfl st 9 get9 rfl Try.underlying35 Try.underlying5 Try.underlying9 ?_)))); (try simp only [nsl, Value.cells, unB] at st); (try clear hc); have hc := st.facts; (try simp only [nfl, nft, Nat.reduceAdd] at hc))
  refine (seqLeft_any _ _ _ _ _ _ _ _ _ _ _ _ _ (st.blk (i := 1) get1)).mono ?_
  rintro en w ⟨rfl, hx⟩
  replace st := st.ext hx
  clear hx
  (try clear hc); have hc := st.facts; (try simp only [nfl, nft, Nat.reduceAdd] at hc)
  go_wp2_with ((first
        | ((with_reducible refine wl_alloc ?_ (fun K hK => ?_)); rfl; refine owp_alloc (o := ⟨some 7, _, _, _, _, _⟩) rfl st ?_; apply Exists.intro; apply Exists.intro; refine ⟨?_, ?_⟩; (focus (first | (go_simp; done) | (go_simp; rfl))); (clear st; intro b7 w hb st; clear hb))
        | ((with_reducible refine wl_store ?_ (fun K hK => ?_)); rfl; refine owp_store rfl st ?_; apply Exists.intro; apply Exists.intro; refine ⟨?_, ?_, ?_⟩; (focus (go_simp; try rfl)); (focus (go_simp; try rfl)); (first | (with_reducible refine ⟨0, _, _, _, _, get0, rfl, rfl, ?_, ?_, ?_, ?_⟩) | (with_reducible refine ⟨1, _, _, _, _, get1, rfl, rfl, ?_, ?_, ?_, ?_⟩) | (with_reducible refine ⟨2, _, _, _, _, get2, rfl, rfl, ?_, ?_, ?_, ?_⟩) | (with_reducible refine ⟨3, _, _, _, _, get3, rfl, rfl, ?_, ?_, ?_, ?_⟩) | (with_reducible refine ⟨4, _, _, _, _, get4, rfl, rfl, ?_, ?_, ?_, ?_⟩) | (with_reducible refine ⟨5, _, _, _, _, get5, rfl, rfl, ?_, ?_, ?_, ?_⟩) | (with_reducible refine ⟨6, _, _, _, _, get6, rfl, rfl, ?_, ?_, ?_, ?_⟩) | (with_reducible refine ⟨7, _, _, _, _, get7, rfl, rfl, ?_, ?_, ?_, ?_⟩) | (with_reducible refine ⟨8, _, _, _, _, get8, rfl, rfl, ?_, ?_, ?_, ?_⟩) | (with_reducible refine ⟨9, _, _, _, _, get9, rfl, rfl, ?_, ?_, ?_, ?_⟩)); (kernel_rfl); (simp [Value.cells]); (rfl); (clear st; intro w st))
        | ((with_reducible refine wl_alloc ?_ (fun K hK => ?_)); rfl; refine owp_alloc (o := ⟨some 9, _, _, _, _, _⟩) rfl st ?_; apply Exists.intro; apply Exists.intro; refine ⟨?_, ?_⟩; (focus (first | (go_simp; done) | (go_simp; rfl))); (clear st; intro b9 w hb st; clear hb))
        | ((with_reducible refine wl_convert ?_ (fun K hK => ?_)); rfl; (first | (refine owp_bs (o := ⟨some 100, _, _, _, _, _⟩) rfl st 0 get0 rfl Try.underlying35 Try.underlying5 Try.underlying9 ?_) | (refine owp_bs (o := ⟨some 100, _, _, _, _, _⟩) rfl st 1 get1 rfl Try.underlying35 Try.underlying5 Try.underlying9 ?_) | (refine owp_bs (o := ⟨some 100, _, _, _, _, _⟩) rfl st 2 get2 rfl Try.underlying35 Try.underlying5 Try.underlying9 ?_) | (refine owp_bs (o := ⟨some 100, _, _, _, _, _⟩) rfl st 3 get3 rfl Try.underlying35 Try.underlying5 Try.underlying9 ?_) | (refine owp_bs (o := ⟨some 100, _, _, _, _, _⟩) rfl st 4 get4 rfl Try.underlying35 Try.underlying5 Try.underlying9 ?_) | (refine owp_bs (o := ⟨some 100, _, _, _, _, _⟩) rfl st 5 get5 rfl Try.underlying35 Try.underlying5 Try.underlying9 ?_) | (refine owp_bs (o := ⟨some 100, _, _, _, _, _⟩) rfl st 6 get6 rfl Try.underlying35 Try.underlying5 Try.underlying9 ?_) | (refine owp_bs (o := ⟨some 100, _, _, _, _, _⟩) rfl st 7 get7 rfl Try.underlying35 Try.underlying5 Try.underlying9 ?_) | (refine owp_bs (o := ⟨some 100, _, _, _, _, _⟩) rfl st 8 get8 rfl Try.underlying35 Try.underlying5 Try.underlying9 ?_) | (refine owp_bs (o := ⟨some 100, _, _, _, _, _⟩) rfl st 9 get9 rfl Try.underlying35 Try.underlying5 Try.underlying9 ?_)))
        | ((with_reducible refine wl_convert ?_ (fun K hK => ?_)); rfl; (first | (refine owp_bs (o := ⟨some 102, _, _, _, _, _⟩) rfl st 0 get0 rfl Try.underlying35 Try.underlying5 Try.underlying9 ?_) | (refine owp_bs (o := ⟨some 102, _, _, _, _, _⟩) rfl st 1 get1 rfl Try.underlying35 Try.underlying5 Try.underlying9 ?_) | (refine owp_bs (o := ⟨some 102, _, _, _, _, _⟩) rfl st 2 get2 rfl Try.underlying35 Try.underlying5 Try.underlying9 ?_) | (refine owp_bs (o := ⟨some 102, _, _, _, _, _⟩) rfl st 3 get3 rfl Try.underlying35 Try.underlying5 Try.underlying9 ?_) | (refine owp_bs (o := ⟨some 102, _, _, _, _, _⟩) rfl st 4 get4 rfl Try.underlying35 Try.underlying5 Try.underlying9 ?_) | (refine owp_bs (o := ⟨some 102, _, _, _, _, _⟩) rfl st 5 get5 rfl Try.underlying35 Try.underlying5 Try.underlying9 ?_) | (refine owp_bs (o := ⟨some 102, _, _, _, _, _⟩) rfl st 6 get6 rfl Try.underlying35 Try.underlying5 Try.underlying9 ?_) | (refine owp_bs (o := ⟨some 102, _, _, _, _, _⟩) rfl st 7 get7 rfl Try.underlying35 Try.underlying5 Try.underlying9 ?_) | (refine owp_bs (o := ⟨some 102, _, _, _, _, _⟩) rfl st 8 get8 rfl Try.underlying35 Try.underlying5 Try.underlying9 ?_) | (refine owp_bs (o := ⟨some 102, _, _, _, _, _⟩) rfl st 9 get9 rfl Try.underlying35 Try.underlying5 Try.underlying9 ?_)))); (try simp only [nsl, Value.cells, unB] at st); (try clear hc); have hc := st.facts; (try simp only [nfl, nft, Nat.reduceAdd] at hc))
  go_ret
  exact ⟨rfl, st.ext0⟩
end Go.Proofs.Ytmlhilgdjedeoaa

namespace Go.Proofs.Ytmlhilgdjedeoaa.Rg4
set_option linter.unusedSimpArgs false
set_option linter.unusedVariables false
open Go Go.Proofs.Ytmlhilgdjedeoaa.Rg
section
variable (P : Program) (ops : Array Oper) (T : Array Nat) (Rel : World → World → Prop) (ld : Nat → Bool) (Cl : World → Prop) (kd : Nat → Kd) (Q : Exit → Act → World → Prop)
/-- Two barriers, i with l1 behind it or j with l2. -/
def fork8 (i j : Nat) (oi oj : Oper) (l1 l2 : List (Nat × Oper)) (w0 : World) (F : Facts) (a : Act) : Prop :=
  wp4 P ops T Rel ld Cl kd Q ((i, oi) :: l1) w0 F a ∧ wp4 P ops T Rel ld Cl kd Q ((j, oj) :: l2) w0 F a
end
def forkE8 (ops : Array Oper) (C : List Nat) (i j : Nat) (l1 l2 : List Nat) (listed : Array Bool) : Bool :=
  decide (Region.ready .any ops listed = [i, j]) && (C.contains i && (C.contains j && (lex4 ops C l1 (listed.setIfInBounds i true) && lex4 ops C l2 (listed.setIfInBounds j true))))
section
variable {P : Program} {ops : Array Oper} {T : Array Nat} {Rel : World → World → Prop} {ld : Nat → Bool} {Cl : World → Prop} {kd : Nat → Kd} {Q : Exit → Act → World → Prop}
theorem fork8_any (htr : ∀ a b c, Rel a b → Rel b c → Rel a c) (hsp : ∀ k S, kd k = .some (.some S) → ∀ v w w', Rel w w' → S v w → S v w') (hB : befOk ops T = true)
    (hbar : ∀ i j, (isB kd i = true ∨ ld i = true) → isC kd j = true → bef ops T j i = true ∨ bef ops T i j = true) (hQ : ∀ c (a : Act) x v w, Q (.panic c) (a.put x v) w → Q (.panic c) a w)
    (C : List Nat) (hC : ∀ k, isC kd k = C.contains k) (hs : Region.noSelect ops = true) {i j : Nat} {oi oj : Oper} {l1 l2 : List (Nat × Oper)} (hi : ops[i]? = .some oi) (hj : ops[j]? = .some oj) (hr1 : ∀ p ∈ l1, ops[p.1]? = .some p.2) (hr2 : ∀ p ∈ l2, ops[p.1]? = .some p.2) (hll : l1.length = l2.length)
    (listed : Array Bool) (w0 : World) (F : Facts) (a : Act) (he : forkE8 ops C i j (l1.map (·.1)) (l2.map (·.1)) listed = true) (hc : Closed ops T listed) (hst : StableF Rel F) (h : fork8 P ops T Rel ld Cl kd Q i j oi oj l1 l2 w0 F a) :
    wpAny4 P ops T Rel ld Cl kd Q (l1.length + 1) listed w0 F a := by
  unfold forkE8 at he
  simp only [Bool.and_eq_true, decide_eq_true_eq] at he
  obtain ⟨e1, e2, e3, e4, e5⟩ := he
  obtain ⟨h1, h2⟩ := h
  have ri : i ∈ Region.ready .any ops listed := by rw [e1]; simp
  have rj : j ∈ Region.ready .any ops listed := by rw [e1]; simp
  have side : ∀ {x : Nat} {ox : Oper} {l : List (Nat × Oper)}, (∀ p ∈ l, ops[p.1]? = .some p.2) → ops[x]? = .some ox → C.contains x = true → x ∈ Region.ready .any ops listed → lex4 ops C (l.map (·.1)) (listed.setIfInBounds x true) = true →
      wp4 P ops T Rel ld Cl kd Q ((x, ox) :: l) w0 F a → op4 P ops T Rel ld Cl kd Q x (wpAny4 P ops T Rel ld Cl kd Q l.length (listed.setIfInBounds x true)) w0 F a := by
    intro x ox l hl hx hxc hxr hlex hw
    have IH := fun w0 F a hst h => wpAny4_lex (Rel := Rel) (ld := ld) (Cl := Cl) (kd := kd) (Q := Q) (P := P) htr hsp hB hbar hQ C hC hs l (listed.setIfInBounds x true) w0 F a hl hlex (closed_set hB hc hxr) hst h
    have hkk : kd x = .some .none := kd_bar hC hxc
    unfold op4
    unfold wp4 at hw
    simp only [hx]
    by_cases hwant : Region.wanted ox (yielded ops a.tmps) = true
    · simp only [hwant, if_true, hkk] at hw ⊢
      intro w hw1 hcl hF
      exact (hw w hw1 hcl hF).imp (Oper.wp_mono fun a' w' ⟨h1, h2⟩ => ⟨h1, IH w' none a' (fun _ _ _ _ _ => trivial) h2⟩) id
    · simp only [hwant] at hw ⊢
      exact IH _ _ _ hst hw
  intro _
  refine ⟨fun q => (by rw [e1] at q; cases q), fun x hx => ?_⟩
  rw [e1] at hx
  rcases List.mem_cons.1 hx with rfl | hx
  · exact side hr1 hi e2 ri e4 h1
  · obtain rfl : x = j := by simpa using hx
    have := side hr2 hj e3 rj e5 h2
    rw [← hll] at this
    exact this
end
theorem wp_region8_eq {P : Program} (T : Array Nat) (Cs Ls : List Nat) (Cl : World → Prop) (p : List Nat) (i j : Nat) (r1 r2 : List Nat) {id : Nat} {Q : Exit → Act → World → Prop} {a : Act} {w : World} {l : List Oper} {oi oj : Oper} (hm : P.follows .mixedOrders = true)
    (hi : l[i]? = some oi) (hj : l[j]? = some oj)
    (hL : (Region.noSelect l.toArray && (lex5 l.toArray Cs (forkE8 l.toArray Cs i j ((inOrd l r1).map (·.1)) ((inOrd l r2).map (·.1))) ((inOrd l p).map (·.1)) (Array.replicate l.length false) && ((inOrd l r1).length + 1 + (inOrd l p).length == l.length && (inOrd l r1).length == (inOrd l r2).length))) = true) (hB : befOk l.toArray T = true) (hb : barB l.toArray T Ls Cs = true)
    (hQ : ∀ c (a : Act) x v w, Q (.panic c) (a.put x v) w → Q (.panic c) a w) (hcl : Cl { w with drawn := w.drawn + 1 })
    (h : wp5 P l.toArray T (· = ·) (fun k => Ls.contains k) Cl (kdOf (Rel := (· = ·)) [] Cs) Q (fork8 P l.toArray T (· = ·) (fun k => Ls.contains k) Cl (kdOf (Rel := (· = ·)) [] Cs) Q i j oi oj (inOrd l r1) (inOrd l r2)) (inOrd l p) { w with drawn := w.drawn + 1 } none a) : (Code.region id l.toArray true).wp P Q a w := by
  rw [Bool.and_eq_true, Bool.and_eq_true, Bool.and_eq_true] at hL
  have hlen : (inOrd l r1).length + 1 + (inOrd l p).length = l.length := by simpa using hL.2.2.1
  have hll : (inOrd l r1).length = (inOrd l r2).length := by simpa using hL.2.2.2
  have htr : ∀ a b c : World, a = b → b = c → a = c := fun _ _ _ h k => h.trans k
  have hbar : ∀ i j, (isB (kdOf (Rel := (· = ·)) [] Cs) i = true ∨ Ls.contains i = true) → isC (kdOf (Rel := (· = ·)) [] Cs) j = true → bef l.toArray T j i = true ∨ bef l.toArray T i j = true := fun i j hi hj => by
    rw [kdOf_C] at hj
    have h1 := List.all_eq_true.1 hb j (by simpa using hj)
    have h2 := List.all_eq_true.1 h1 i (by
      rcases hi with hi | hi
      · have := kdOf_B [] Cs i hi; cases this
      · simpa using hi)
    simpa using h2
  refine wp_region_any hm (wpAny_of_4 (T := T) (ld := fun k => Ls.contains k) (fun _ => rfl) htr (kdOf_sp [] Cs) _ _ { w with drawn := w.drawn + 1 } none _ _ (fun _ _ _ _ _ => trivial) rfl hcl (fun _ => trivial) ?_)
  have := wpAny5_lex (P := P) (Q := Q) (ld := fun k => Ls.contains k) (Cl := Cl) htr (kdOf_sp [] Cs) hB hbar hQ Cs (kdOf_C [] Cs) hL.1 (forkE8 l.toArray Cs i j ((inOrd l r1).map (·.1)) ((inOrd l r2).map (·.1))) (fork8 P l.toArray T (· = ·) (fun k => Ls.contains k) Cl (kdOf (Rel := (· = ·)) [] Cs) Q i j oi oj (inOrd l r1) (inOrd l r2)) ((inOrd l r1).length + 1)
    (fun listed w0 F a he hc hst h => fork8_any htr (kdOf_sp [] Cs) hB hbar hQ Cs (kdOf_C [] Cs) hL.1 (by simpa using hi) (by simpa using hj) inOrd_mem inOrd_mem hll listed w0 F a he hc hst h)
    (inOrd l p) (Array.replicate l.length false) { w with drawn := w.drawn + 1 } none a inOrd_mem hL.2.1 (fun k m hk => by
    exfalso
    by_cases h : k < l.length <;> simp [h] at hk) (fun _ _ _ _ _ => trivial) h
  rw [hlen] at this
  simpa using this
end Go.Proofs.Ytmlhilgdjedeoaa.Rg4

namespace Go.Proofs.Ytmlhilgdjedeoaa
set_option linter.unusedSimpArgs false
set_option linter.unusedVariables false
open Go Go.RowKit
theorem get13 {x0 x1 x2 x3 x4 x5 x6 x7 x8 x9 x10 x11 x12 x13 : It} {l : List It} : (x0 :: x1 :: x2 :: x3 :: x4 :: x5 :: x6 :: x7 :: x8 :: x9 :: x10 :: x11 :: x12 :: x13 :: l)[13]? = some x13 := rfl
end Go.Proofs.Ytmlhilgdjedeoaa

namespace Go.Proofs.Ytmlhilgdjedeoaa
set_option linter.unusedSimpArgs false
set_option linter.unusedVariables false
open Go Go.RowKit
structure NtT where
  k : Int
  x : Int
deriving Inhabited
instance fltNt : Flt NtT := ⟨2, fun x => [.int .i64 x.k, .int .i64 x.x], fun _ => rfl, by decide, fun x u hu => by simp at hu; rcases hu with rfl | rfl <;> rfl⟩
theorem Fl.nt {w : World} {a : Option Addr} {n : Nat} {xs : List NtT} (h : Fl w a n xs) (h0 : 0 < n) : ∃ b off, a = some ⟨b, off, none⟩ ∧ ∀ (j : Nat) (x : NtT), xs[j]? = some x → w.cell? ⟨b, off + j * 2, none⟩ = some (.int .i64 x.k) ∧ w.cell? ⟨b, off + j * 2 + 1, none⟩ = some (.int .i64 x.x) := by
  obtain ⟨b, off, e, hc⟩ := h.2 h0
  refine ⟨b, off, e, fun j x hj => ⟨?_, ?_⟩⟩
  · exact hc j x hj 0 _ rfl
  · exact hc j x hj 1 _ rfl
theorem Fl.by1 {w : World} {a : Option Addr} {n : Nat} {ys : List ByT} (h : Fl w a n ys) (h0 : 0 < n) : ∃ b off, a = some ⟨b, off, none⟩ ∧ ∀ (j : Nat) (x : ByT), ys[j]? = some x → w.cell? ⟨b, off + j, none⟩ = some (.slice x.a x.n x.c) := by
  obtain ⟨b, off, e, hc⟩ := h.2 h0
  refine ⟨b, off, e, fun j x hj => ?_⟩
  have h1 : w.cell? ⟨b, off + j * 1 + 0, none⟩ = some (.slice x.a x.n x.c) := hc j x hj 0 _ rfl
  rwa [Nat.mul_one, Nat.add_zero] at h1
theorem bysInfo : ∃ i, Try.prog.info? 35 = some i ∧ i.zero = some (.slice none 0 0) ∧ i.size = 1 ∧ i.bytes = 24 := info_parts (by kernel_rfl)
/-- The four phases: who has sent and got how many, and who has the word. -/
def PhQ (s0 s1 g0 g1 : Nat) (wd0 wd1 : Bool) : Prop := (s0 = s1 ∧ g0 = s1 ∧ g1 = s0 ∧ wd0 = true ∧ wd1 = false) ∨ (s0 = s1 + 1 ∧ g0 = s1 ∧ g1 = s1 ∧ wd0 = false ∧ wd1 = false) ∨ (s0 = s1 + 1 ∧ g0 = s1 ∧ g1 = s0 ∧ wd0 = false ∧ wd1 = true) ∨ (s0 = s1 ∧ g0 + 1 = s1 ∧ g1 = s0 ∧ wd0 = false ∧ wd1 = false)
theorem PhQ.w0 {s0 s1 g0 g1 : Nat} {wd1 : Bool} (h : PhQ s0 s1 g0 g1 true wd1) : s0 = s1 ∧ g0 = s1 ∧ g1 = s0 ∧ wd1 = false := by
  rcases h with ⟨a, b, c, d, e⟩ | ⟨a, b, c, d, e⟩ | ⟨a, b, c, d, e⟩ | ⟨a, b, c, d, e⟩
  · exact ⟨a, b, c, e⟩
  all_goals cases d
theorem PhQ.w1 {s0 s1 g0 g1 : Nat} {wd0 : Bool} (h : PhQ s0 s1 g0 g1 wd0 true) : s0 = s1 + 1 ∧ g0 = s1 ∧ g1 = s0 ∧ wd0 = false := by
  rcases h with ⟨a, b, c, d, e⟩ | ⟨a, b, c, d, e⟩ | ⟨a, b, c, d, e⟩ | ⟨a, b, c, d, e⟩
  · cases e
  · cases e
  · exact ⟨a, b, c, d⟩
  · cases e
theorem PhQ.le {s0 s1 g0 g1 : Nat} {wd0 wd1 : Bool} (h : PhQ s0 s1 g0 g1 wd0 wd1) : g0 ≤ s1 ∧ s1 ≤ g0 + 1 ∧ g1 ≤ s0 ∧ s0 ≤ g1 + 1 := by
  rcases h with ⟨a, b, c, _⟩ | ⟨a, b, c, _⟩ | ⟨a, b, c, _⟩ | ⟨a, b, c, _⟩ <;> omega
theorem PhQ.send0 {s0 s1 g0 g1 : Nat} {wd1 : Bool} (h : PhQ s0 s1 g0 g1 true wd1) : PhQ (s0 + 1) s1 g0 g1 false wd1 := by
  obtain ⟨a, b, c, e⟩ := h.w0
  exact .inr (.inl ⟨by omega, b, by omega, rfl, e⟩)
theorem PhQ.send1 {s0 s1 g0 g1 : Nat} {wd0 : Bool} (h : PhQ s0 s1 g0 g1 wd0 true) : PhQ s0 (s1 + 1) g0 g1 wd0 false := by
  obtain ⟨a, b, c, d⟩ := h.w1
  exact .inr (.inr (.inr ⟨a, by omega, c, d, rfl⟩))
theorem PhQ.got0 {s0 s1 g0 g1 j : Nat} {wd1 : Bool} (h : PhQ s0 s1 g0 g1 false wd1) (hj : j < s1) (he : 2 * j + 2 = 1 + s0 + g0) : j = g0 ∧ PhQ s0 s1 (g0 + 1) g1 true wd1 := by
  rcases h with ⟨a, b, c, d, e⟩ | ⟨a, b, c, d, e⟩ | ⟨a, b, c, d, e⟩ | ⟨a, b, c, d, e⟩
  · cases d
  · omega
  · omega
  · exact ⟨by omega, .inl ⟨a, by omega, c, rfl, e⟩⟩
theorem PhQ.got1 {s0 s1 g0 g1 j : Nat} {wd0 : Bool} (h : PhQ s0 s1 g0 g1 wd0 false) (hj : j < s0) (he : 2 * j + 1 = 1 + s1 + g1) : j = g1 ∧ PhQ s0 s1 g0 (g1 + 1) wd0 true := by
  rcases h with ⟨a, b, c, d, e⟩ | ⟨a, b, c, d, e⟩ | ⟨a, b, c, d, e⟩ | ⟨a, b, c, d, e⟩
  · omega
  · exact ⟨by omega, .inr (.inr (.inl ⟨a, b, by omega, d, rfl⟩))⟩
  · cases e
  · omega
theorem Own.rowBy1 {fr al : Nat → Prop} {w0 w : World} {L : List It} (st : Own fr al w0 L w) {i m c q : Nat} {a : Option Addr} {E : TypeId} {ys : List ByT} (hi : L[i]? = some (rowI E 1 (.slice a m c) m (cellsL ys))) {y : ByT} (hq : ys[q]? = some y) : ∃ b o, a = some ⟨b, o, none⟩ ∧ w.cell? ⟨b, o + q, none⟩ = some (.slice y.a y.n y.c) := by
  obtain ⟨_, hf⟩ := rowFl' (α := ByT) st hi
  obtain ⟨b, o, e, hc⟩ := hf.by1 (by have := hf.1; have := (List.getElem?_eq_some_iff.1 hq).1; omega)
  exact ⟨b, o, e, hc q y hq⟩
theorem Own.rowBy2 {fr al : Nat → Prop} {w0 w : World} {L : List It} (st : Own fr al w0 L w) {i m c q b o : Nat} {E : TypeId} {ys : List ByT} (hi : L[i]? = some (rowI E 1 (.slice (some ⟨b, o, none⟩) m c) m (cellsL ys))) {y : ByT} (hq : ys[q]? = some y) : w.cell? ⟨b, o + q, none⟩ = some (.slice y.a y.n y.c) := by
  obtain ⟨b', o', e, h⟩ := st.rowBy1 hi hq
  cases e
  exact h
def frE (v : Nat) : Int := 1 + ((v - 1) % 99 : Nat)
/-- The frame of the number v. -/
def frq (v : Nat) : List UInt8 := frM v 5 (frE v)
theorem frE_R (v : Nat) : mgR (mg0 5 0 (frE v) []) = true := mg5_R (by unfold frE; omega) (by unfold frE; omega)
def LastQ (s v ln : Nat) (L : List UInt8) : Prop := (s = 0 ∧ ln = 0) ∨ (0 < s ∧ L = frq v)
def FlewQ (s d : Nat) (ys ps : List ByT) : Prop := ∀ x ∈ ys, x ∈ ps ∧ ∃ j, j < s ∧ x.xs = frq (2 * j + d)
theorem FlewQ.more {s s' d : Nat} {ys ps ps' : List ByT} (h : FlewQ s d ys ps) (hs : s ≤ s') (hp : ∀ x ∈ ps, x ∈ ps') : FlewQ s' d ys ps' := fun x hx => ⟨hp x (h x hx).1, let ⟨j, h1, h2⟩ := (h x hx).2; ⟨j, by omega, h2⟩⟩
theorem FlewQ.put {s d : Nat} {ys ps : List ByT} (h : FlewQ s d ys ps) {x : ByT} (hx : x ∈ ps) {j : Nat} (hj : j < s) (he : x.xs = frq (2 * j + d)) : FlewQ s d (ys ++ [x]) ps := fun y hy => by
  rcases List.mem_append.1 hy with q | q
  · exact h y q
  · rw [List.mem_singleton.1 q]; exact ⟨hx, j, hj, he⟩
def SeqSt (a : Option Addr) (n : Nat) (l : List NtT) (W : World) (b3 b4 b5 b6 p0 p1 B : Nat) (wr : World) : Prop :=
  ∃ (s0 s1 g0 g1 nx0 nx1 gt0 gt1 lf0 lf1 tk0 tk1 ln0 lc0 ln1 lc1 m0 c0 m1 c1 : Nat) (wd0 wd1 : Bool) (la0 la1 f0 f1 : Option Addr) (L0 L1 : List UInt8) (ys0 ys1 ps : List ByT),
    (s0 + s1 + g0 + g1 ≤ B ∧ lf0 ≤ 100 ∧ lf1 ≤ 100 ∧ tk0 ≤ 2 ∧ tk1 ≤ 2 ∧ m0 ≤ B ∧ m1 ≤ B) ∧ Hid (nx0 = 1 + s0 + g0 ∧ nx1 = 1 + s1 + g1 ∧ gt0 = 2 * g0 ∧ gt1 = 2 * g1 - 1) ∧ Hid (PhQ s0 s1 g0 g1 wd0 wd1) ∧ Hid (LastQ s0 (2 * s0 - 1) ln0 L0 ∧ LastQ s1 (2 * s1) ln1 L1) ∧ Hid (FlewQ s1 2 ys0 ps ∧ FlewQ s0 1 ys1 ps) ∧ Hid ((⟨la0, ln0, lc0, L0⟩ : ByT) ∈ ps ∧ (⟨la1, ln1, lc1, L1⟩ : ByT) ∈ ps) ∧
    Own (fun _ => False) (fun _ => True) W [flI a n l, blkI b3 [.pointer (some ⟨p0, 0, none⟩), .pointer (some ⟨p1, 0, none⟩)], blkI b4 [.slice f0 m0 c0, .slice f1 m1 c1], blkI b5 [.int .i64 (s0 : Int), .int .i64 (s1 : Int)], blkI b6 [.int .i64 (g0 : Int), .int .i64 (g1 : Int)],
      blkI p0 [.bool wd0, .bool false, .int .i64 (nx0 : Int), .int .i64 2, .int .i64 100, .int .i64 (lf0 : Int), .int .i64 (tk0 : Int), .slice la0 ln0 lc0, .int .i64 (gt0 : Int)],
      blkI p1 [.bool wd1, .bool false, .int .i64 (nx1 : Int), .int .i64 2, .int .i64 100, .int .i64 (lf1 : Int), .int .i64 (tk1 : Int), .slice la1 ln1 lc1, .int .i64 (gt1 : Int)],
      rowI 35 1 (.slice f0 m0 c0) m0 (cellsL ys0), rowI 35 1 (.slice f1 m1 c1) m1 (cellsL ys1), bysI ps] wr
theorem SeqSt.mono {a : Option Addr} {n : Nat} {l : List NtT} {W : World} {b3 b4 b5 b6 p0 p1 B B' : Nat} {wr : World} (h : SeqSt a n l W b3 b4 b5 b6 p0 p1 B wr) (hB : B ≤ B') : SeqSt a n l W b3 b4 b5 b6 p0 p1 B' wr := by
  obtain ⟨s0, s1, g0, g1, nx0, nx1, gt0, gt1, lf0, lf1, tk0, tk1, ln0, lc0, ln1, lc1, m0, c0, m1, c1, wd0, wd1, la0, la1, f0, f1, L0, L1, ys0, ys1, ps, h1, h2⟩ := h
  exact ⟨s0, s1, g0, g1, nx0, nx1, gt0, gt1, lf0, lf1, tk0, tk1, ln0, lc0, ln1, lc1, m0, c0, m1, c1, wd0, wd1, la0, la1, f0, f1, L0, L1, ys0, ys1, ps, ⟨by omega, h1.2.1, h1.2.2.1, h1.2.2.2.1, h1.2.2.2.2.1, by omega, by omega⟩, h2⟩
end Go.Proofs.Ytmlhilgdjedeoaa

namespace Go.Proofs.Ytmlhilgdjedeoaa
set_option linter.unusedSimpArgs false
set_option linter.unusedVariables false
open Go Go.RowKit
def firstLoop : Code → Option Code
  | .loop c => some c
  | .seq a b => match firstLoop a with
    | some c => some c
    | none => firstLoop b
  | .block _ c => firstLoop c
  | .scope c => firstLoop c
  | .cond _ a b => match firstLoop a with
    | some c => some c
    | none => firstLoop b
  | _ => none
def swOf : Code → Code
  | .seq _ (.seq _ (.seq (.block _ (.seq _ (.seq x _))) _)) => x
  | _ => .skip
def fstOf : Code → Code
  | .seq x _ => x
  | _ => .skip
def sndOf : Code → Code
  | .seq _ x => x
  | _ => .skip
noncomputable def seqSw : Code := swOf ((Try.f3.body.bind firstLoop).getD .skip)
noncomputable def seqSw13 : Code := fstOf seqSw
noncomputable def seqSw14 : Code := sndOf seqSw
@[go_sem high] theorem idxArr0 (a b : Value) (w : World) : (Instr.index 25 (.agg #[a, b]) (.int .i64 0)).run Try.prog w = .ok a w := by kernel_rfl
@[go_sem high] theorem idxArr1 (a b : Value) (w : World) : (Instr.index 25 (.agg #[a, b]) (.int .i64 1)).run Try.prog w = .ok b w := by kernel_rfl
theorem LastQ.len {s v ln : Nat} {L : List UInt8} (h : LastQ s v ln L) : ln = 0 ∨ L.length ≤ 4096 := h.imp (fun q => q.2) (fun q => by rw [q.2]; exact (frM_len (frE_R v)).2)
end Go.Proofs.Ytmlhilgdjedeoaa

namespace Go.Proofs.Ytmlhilgdjedeoaa
set_option linter.unusedSimpArgs false
set_option linter.unusedVariables false
open Go Go.RowKit
set_option maxRecDepth 100000 in
set_option maxHeartbeats 16000000 in
theorem seqOp0 {n c : Nat} {l : List NtT} {W : World} {b3 b4 b5 b6 b8 p0 p1 lb loff j : Nat} {xk xx : Int} {s0 s1 g0 g1 nx0 nx1 gt0 gt1 lf0 lf1 tk0 tk1 ln0 lc0 ln1 lc1 m0 c0 m1 c1 : Nat} {wd0 wd1 : Bool} {la0 la1 f0 f1 : Option Addr} {L0 L1 : List UInt8} {ys0 ys1 ps : List ByT} {w : World} {K14 K43 : Act → World → Prop} {Q : Exit → Act → World → Prop}
    {v23 v24 v25 v26 v27 v28 v29 v30 v31 v32 v33 v34 v35 v36 v37 : Value} {v2 v9 v10 v11 v12 v13 v14 v15 v16 v17 v18 v19 v20 v21 v22 v41 v42 v43 v44 v45 v46 v47 v48 v49 v50 v51 v52 v53 v54 v55 v56 v57 v58 v59 v60 v61 v62 v63 v64 v65 v66 v67 v68 v69 v70 v71 v72 v73 v74 v75 v76 v77 v78 v79 v80 v81 v82 v83 v84 v85 v86 v87 v88 v89 v90 v91 v92 v93 v94 v95 v96 v97 v98 v99 v100 v101 v102 v103 v104 v105 v106 v107 v108 v109 v110 v111 v112 v113 v114 v115 v116 v117 v118 v119 v120 v121 v122 v123 v124 v125 v126 v127 v128 v129 v130 v131 v132 v133 v134 v135 v136 v137 v138 v139 v140 v141 v142 v143 v144 v145 v146 v147 v148 v149 v150 v151 v152 v153 v154 v155 v156 v157 v158 v159 v160 v161 v162 v163 v164 v165 v166 v167 v168 v169 v170 v171 v172 v173 v174 v175 v176 v177 v178 v179 v180 v181 v182 v183 v184 v185 v186 v187 v188 v189 v190 v191 v192 v193 v194 v195 v196 v197 v198 v199 v200 v201 v202 v203 v204 v205 v206 v207 v208 : Value} (hj : j ≤ 200) (hB : s0 + s1 + g0 + g1 ≤ 2 * j) (hl0 : lf0 ≤ 100) (hl1 : lf1 ≤ 100) (ht0 : tk0 ≤ 2) (ht1 : tk1 ≤ 2) (hm0 : m0 ≤ 2 * j) (hm1 : m1 ≤ 2 * j) (HNX : Hid (nx0 = 1 + s0 + g0 ∧ nx1 = 1 + s1 + g1 ∧ gt0 = 2 * g0 ∧ gt1 = 2 * g1 - 1)) (HPH : Hid (PhQ s0 s1 g0 g1 wd0 wd1)) (HLQ : Hid (LastQ s0 (2 * s0 - 1) ln0 L0 ∧ LastQ s1 (2 * s1) ln1 L1)) (HFQ : Hid (FlewQ s1 2 ys0 ps ∧ FlewQ s0 1 ys1 ps)) (HLM : Hid ((⟨la0, ln0, lc0, L0⟩ : ByT) ∈ ps ∧ (⟨la1, ln1, lc1, L1⟩ : ByT) ∈ ps))
    (hk5 : Int.tmod (IntKind.u64.wrap xk) 5 = 0)
    (hQ : Rg4.PB Q)
    (st : Own (fun _ => False) (fun _ => True) W [flI (some ⟨lb, loff, none⟩) n l, blkI b3 [.pointer (some ⟨p0, 0, none⟩), .pointer (some ⟨p1, 0, none⟩)], blkI b4 [.slice f0 m0 c0, .slice f1 m1 c1], blkI b5 [.int .i64 (s0 : Int), .int .i64 (s1 : Int)], blkI b6 [.int .i64 (g0 : Int), .int .i64 (g1 : Int)],
      blkI p0 [.bool wd0, .bool false, .int .i64 (nx0 : Int), .int .i64 2, .int .i64 100, .int .i64 (lf0 : Int), .int .i64 (tk0 : Int), .slice la0 ln0 lc0, .int .i64 (gt0 : Int)],
      blkI p1 [.bool wd1, .bool false, .int .i64 (nx1 : Int), .int .i64 2, .int .i64 100, .int .i64 (lf1 : Int), .int .i64 (tk1 : Int), .slice la1 ln1 lc1, .int .i64 (gt1 : Int)],
      rowI 35 1 (.slice f0 m0 c0) m0 (cellsL ys0), rowI 35 1 (.slice f1 m1 c1) m1 (cellsL ys1), bysI ps, blkI b8 [.int .i64 xk, .int .i64 xx]] w)
    (h14 : ∀ a w, Code.wp Try.prog seqSw14 (Exit.then K43 Q) a w → K14 a w)
    (hT : ∀ {v2 v8 v9 v10 v11 v12 v13 v14 v15 v16 v17 v18 v19 v20 v21 v22 v41 v42 v43 v44 v45 v46 v47 v48 v49 v50 v51 v52 v53 v54 v55 v56 v57 v58 v59 v60 v61 v62 v63 v64 v65 v66 v67 v68 v69 v70 v71 v72 v73 v74 v75 v76 v77 v78 v79 v80 v81 v82 v83 v84 v85 v86 v87 v88 v89 v90 v91 v92 v93 v94 v95 v96 v97 v98 v99 v100 v101 v102 v103 v104 v105 v106 v107 v108 v109 v110 v111 v112 v113 v114 v115 v116 v117 v118 v119 v120 v121 v122 v123 v124 v125 v126 v127 v128 v129 v130 v131 v132 v133 v134 v135 v136 v137 v138 v139 v140 v141 v142 v143 v144 v145 v146 v147 v148 v149 v150 v151 v152 v153 v154 v155 v156 v157 v158 v159 v160 v161 v162 v163 v164 v165 v166 v167 v168 v169 v170 v171 v172 v173 v174 v175 v176 v177 v178 v179 v180 v181 v182 v183 v184 v185 v186 v187 v188 v189 v190 v191 v192 v193 v194 v195 v196 v197 v198 v199 v200 v201 v202 v203 v204 v205 v206 v207 v208 : Value} {w' : World}, SeqSt (some ⟨lb, loff, none⟩) n l W b3 b4 b5 b6 p0 p1 (2 * j + 2) w' → K43 ⟨#[.slice (some ⟨lb, loff, none⟩) n c, undef, v2, .pointer (some ⟨b3, 0, none⟩), .pointer (some ⟨b4, 0, none⟩), .pointer (some ⟨b5, 0, none⟩), .pointer (some ⟨b6, 0, none⟩), undef, v8, v9, v10, v11, v12, v13, v14, v15, v16, v17, v18, v19, v20, v21, v22, v23, v24, v25, v26, v27, v28, v29, v30, v31, v32, v33, v34, v35, v36, v37, .slice (some ⟨lb, loff, none⟩) n c, .int .i64 (n : Int), .int .i64 (j : Int), v41, v42, v43, v44, v45, v46, v47, v48, v49, v50, v51, v52, v53, v54, v55, v56, v57, v58, v59, v60, v61, v62, v63, v64, v65, v66, v67, v68, v69, v70, v71, v72, v73, v74, v75, v76, v77, v78, v79, v80, v81, v82, v83, v84, v85, v86, v87, v88, v89, v90, v91, v92, v93, v94, v95, v96, v97, v98, v99, v100, v101, v102, v103, v104, v105, v106, v107, v108, v109, v110, v111, v112, v113, v114, v115, v116, v117, v118, v119, v120, v121, v122, v123, v124, v125, v126, v127, v128, v129, v130, v131, v132, v133, v134, v135, v136, v137, v138, v139, v140, v141, v142, v143, v144, v145, v146, v147, v148, v149, v150, v151, v152, v153, v154, v155, v156, v157, v158, v159, v160, v161, v162, v163, v164, v165, v166, v167, v168, v169, v170, v171, v172, v173, v174, v175, v176, v177, v178, v179, v180, v181, v182, v183, v184, v185, v186, v187, v188, v189, v190, v191, v192, v193, v194, v195, v196, v197, v198, v199, v200, v201, v202, v203, v204, v205, v206, v207, v208], []⟩ w')
    (hE : ∀ {v2 v8 v9 v10 v11 v12 v13 v14 v15 v16 v17 v18 v19 v20 v21 v22 v41 v42 v43 v44 v45 v46 v47 v48 v49 v50 v51 v52 v53 v54 v55 v56 v57 v58 v59 v60 v61 v62 v63 v64 v65 v66 v67 v68 v69 v70 v71 v72 v73 v74 v75 v76 v77 v78 v79 v80 v81 v82 v83 v84 v85 v86 v87 v88 v89 v90 v91 v92 v93 v94 v95 v96 v97 v98 v99 v100 v101 v102 v103 v104 v105 v106 v107 v108 v109 v110 v111 v112 v113 v114 v115 v116 v117 v118 v119 v120 v121 v122 v123 v124 v125 v126 v127 v128 v129 v130 v131 v132 v133 v134 v135 v136 v137 v138 v139 v140 v141 v142 v143 v144 v145 v146 v147 v148 v149 v150 v151 v152 v153 v154 v155 v156 v157 v158 v159 v160 v161 v162 v163 v164 v165 v166 v167 v168 v169 v170 v171 v172 v173 v174 v175 v176 v177 v178 v179 v180 v181 v182 v183 v184 v185 v186 v187 v188 v189 v190 v191 v192 v193 v194 v195 v196 v197 v198 v199 v200 v201 v202 v203 v204 v205 v206 v207 v208 : Value} {w' : World}, SeqSt (some ⟨lb, loff, none⟩) n l W b3 b4 b5 b6 p0 p1 (2 * j + 2) w' → Q (.exit 1) ⟨#[.slice (some ⟨lb, loff, none⟩) n c, undef, v2, .pointer (some ⟨b3, 0, none⟩), .pointer (some ⟨b4, 0, none⟩), .pointer (some ⟨b5, 0, none⟩), .pointer (some ⟨b6, 0, none⟩), undef, v8, v9, v10, v11, v12, v13, v14, v15, v16, v17, v18, v19, v20, v21, v22, v23, v24, v25, v26, v27, v28, v29, v30, v31, v32, v33, v34, v35, v36, v37, .slice (some ⟨lb, loff, none⟩) n c, .int .i64 (n : Int), .int .i64 (j : Int), v41, v42, v43, v44, v45, v46, v47, v48, v49, v50, v51, v52, v53, v54, v55, v56, v57, v58, v59, v60, v61, v62, v63, v64, v65, v66, v67, v68, v69, v70, v71, v72, v73, v74, v75, v76, v77, v78, v79, v80, v81, v82, v83, v84, v85, v86, v87, v88, v89, v90, v91, v92, v93, v94, v95, v96, v97, v98, v99, v100, v101, v102, v103, v104, v105, v106, v107, v108, v109, v110, v111, v112, v113, v114, v115, v116, v117, v118, v119, v120, v121, v122, v123, v124, v125, v126, v127, v128, v129, v130, v131, v132, v133, v134, v135, v136, v137, v138, v139, v140, v141, v142, v143, v144, v145, v146, v147, v148, v149, v150, v151, v152, v153, v154, v155, v156, v157, v158, v159, v160, v161, v162, v163, v164, v165, v166, v167, v168, v169, v170, v171, v172, v173, v174, v175, v176, v177, v178, v179, v180, v181, v182, v183, v184, v185, v186, v187, v188, v189, v190, v191, v192, v193, v194, v195, v196, v197, v198, v199, v200, v201, v202, v203, v204, v205, v206, v207, v208], []⟩ w') :
    Code.wp Try.prog seqSw13 (Exit.then K14 (Exit.then K43 Q)) ⟨#[.slice (some ⟨lb, loff, none⟩) n c, undef, v2, .pointer (some ⟨b3, 0, none⟩), .pointer (some ⟨b4, 0, none⟩), .pointer (some ⟨b5, 0, none⟩), .pointer (some ⟨b6, 0, none⟩), undef, .pointer (some ⟨b8, 0, none⟩), v9, v10, v11, v12, v13, v14, v15, v16, v17, v18, v19, v20, v21, v22, v23, v24, v25, v26, v27, v28, v29, v30, v31, v32, v33, v34, v35, v36, v37, .slice (some ⟨lb, loff, none⟩) n c, .int .i64 (n : Int), .int .i64 (j : Int), v41, v42, v43, v44, v45, v46, v47, v48, v49, v50, v51, v52, v53, v54, v55, v56, v57, v58, v59, v60, v61, v62, v63, v64, v65, v66, v67, v68, v69, v70, v71, v72, v73, v74, v75, v76, v77, v78, v79, v80, v81, v82, v83, v84, v85, v86, v87, v88, v89, v90, v91, v92, v93, v94, v95, v96, v97, v98, v99, v100, v101, v102, v103, v104, v105, v106, v107, v108, v109, v110, v111, v112, v113, v114, v115, v116, v117, v118, v119, v120, v121, v122, v123, v124, v125, v126, v127, v128, v129, v130, v131, v132, v133, v134, v135, v136, v137, v138, v139, v140, v141, v142, v143, v144, v145, v146, v147, v148, v149, v150, v151, v152, v153, v154, v155, v156, v157, v158, v159, v160, v161, v162, v163, v164, v165, v166, v167, v168, v169, v170, v171, v172, v173, v174, v175, v176, v177, v178, v179, v180, v181, v182, v183, v184, v185, v186, v187, v188, v189, v190, v191, v192, v193, v194, v195, v196, v197, v198, v199, v200, v201, v202, v203, v204, v205, v206, v207, v208], []⟩ w := by
  have kw0 : IntKind.i64.wrap 0 = 0 := by decide
  have kw1 : IntKind.i64.wrap 1 = 1 := by decide
  have kw2 : IntKind.i64.wrap 2 = 2 := by decide
  have kw3 : IntKind.i64.wrap 3 = 3 := by decide
  have kw4 : IntKind.i64.wrap 4 = 4 := by decide
  conv => arg 2; whnf
  (try simp only [nsl, Value.cells, unB] at st)
  (try clear hc); have hc := st.facts; (try simp only [nfl, nft, Nat.reduceAdd] at hc)
  go_wp2_with fail
  conv => arg 2; whnf
  go_wp2_with fail
  have st2 := st.keep [0, 1, 2, 3, 4, 5, 6, 7, 8, 9] (by decide) (by simp)
  simp only [pick, List.map_cons, List.map_nil, List.getElem?_cons_zero, List.getElem?_cons_succ, Option.getD_some] at st2
  clear st
  have st := st2
  clear st2

  refine wp_loop_rounds 3 ?_
  rw [rounds_succ]
  cases wd0 with
  | true =>
    obtain rfl : wd1 = false := HPH.out.w0.2.2.2
    have hnx : nx0 = 2 * s0 + 1 := by have h1 := HPH.out.w0; have h2 := HNX.out; omega
    have h1 : 1 ≤ nx0 ∧ nx0 ≤ 1000000 := by omega
    obtain ⟨r9, hr9, hr99⟩ : ∃ r : Nat, Int.tmod (2 * (s0 : Int)) 99 = (r : Int) ∧ r = (nx0 - 1) % 99 := ⟨(2 * s0) % 99, by rw [Int.tmod_eq_emod_of_nonneg (by omega)]; omega, by rw [hnx]; rfl⟩
    obtain ⟨E, hE9⟩ : ∃ E, frE nx0 = E := ⟨_, rfl⟩
    have hz1 : IntKind.i64.wrap (2 * (s0 : Int)) = 2 * (s0 : Int) := IntWalk.i64_in _ ⟨by omega, by omega⟩
    have hz2 : IntKind.i64.wrap (2 * (s0 : Int) + 1) = 2 * (s0 : Int) + 1 := IntWalk.i64_in _ ⟨by omega, by omega⟩
    have hz3 : IntKind.i64.wrap (1 + (r9 : Int)) = E := by rw [← hE9]; unfold frE; rw [← hr99]; exact IntWalk.i64_in _ ⟨by omega, by omega⟩
    have hz4 : IntKind.i64.wrap ((s0 : Int) + 1) = (s0 : Int) + 1 := IntWalk.i64_in _ ⟨by omega, by omega⟩
    have HRR : Hid (mgR (mg0 5 0 E []) = true) := Lib.hid (by rw [← hE9]; exact frE_R _)
    have HV := Lib.hid hnx
    have HS1 := Lib.hid (frM_len (v := nx0) HRR.out)
    have HFQE : Hid (frM nx0 5 E = frq nx0) := Lib.hid (by unfold frq; rw [hE9])
    clear hnx hr99 hE9
    (try simp only [nsl, Value.cells, unB] at st)
    (try clear hc); have hc := st.facts; (try simp only [nfl, nft, Nat.reduceAdd] at hc)
    go_wp2_with ((first
          | ((with_reducible refine wl_store ?_ (fun K hK => ?_)); rfl; refine owp_store rfl st ?_; apply Exists.intro; apply Exists.intro; refine ⟨?_, ?_, ?_⟩; (focus (go_simp; try rfl)); (focus (go_simp; try rfl)); (first | (with_reducible refine ⟨0, _, _, _, _, get0, rfl, rfl, ?_, ?_, ?_, ?_⟩) | (with_reducible refine ⟨1, _, _, _, _, get1, rfl, rfl, ?_, ?_, ?_, ?_⟩) | (with_reducible refine ⟨2, _, _, _, _, get2, rfl, rfl, ?_, ?_, ?_, ?_⟩) | (with_reducible refine ⟨3, _, _, _, _, get3, rfl, rfl, ?_, ?_, ?_, ?_⟩) | (with_reducible refine ⟨4, _, _, _, _, get4, rfl, rfl, ?_, ?_, ?_, ?_⟩) | (with_reducible refine ⟨5, _, _, _, _, get5, rfl, rfl, ?_, ?_, ?_, ?_⟩) | (with_reducible refine ⟨6, _, _, _, _, get6, rfl, rfl, ?_, ?_, ?_, ?_⟩) | (with_reducible refine ⟨7, _, _, _, _, get7, rfl, rfl, ?_, ?_, ?_, ?_⟩) | (with_reducible refine ⟨8, _, _, _, _, get8, rfl, rfl, ?_, ?_, ?_, ?_⟩) | (with_reducible refine ⟨9, _, _, _, _, get9, rfl, rfl, ?_, ?_, ?_, ?_⟩) | (with_reducible refine ⟨10, _, _, _, _, get10, rfl, rfl, ?_, ?_, ?_, ?_⟩) | (with_reducible refine ⟨11, _, _, _, _, get11, rfl, rfl, ?_, ?_, ?_, ?_⟩) | (with_reducible refine ⟨12, _, _, _, _, get12, rfl, rfl, ?_, ?_, ?_, ?_⟩)); (kernel_rfl); (simp [Value.cells]); (rfl); (clear st; intro w st))
          | ((with_reducible refine wl_buildSlice ?_ (fun K hK => ?_)); rfl; refine owp_buildSlice (o := ⟨some 109, _, _, _, _, _⟩) rfl st ?_; apply Exists.intro; apply Exists.intro; apply Exists.intro; apply Exists.intro; refine ⟨?_, ?_⟩; (focus (go_simp; (first | done | exact ⟨⟨rfl, rfl⟩, rfl⟩ | rfl))); (clear st; intro b109 w hb st; clear hb))); (try simp only [nsl, Value.cells, unB] at st); (try clear hc); have hc := st.facts; (try simp only [nfl, nft, Nat.reduceAdd] at hc))
    refine (seqWord_any _ _ _ _ _ _ _ _ _ _ _ _ _ (st.blk (i := 5) get5)).mono ?_
    rintro en w ⟨rfl, hx⟩
    replace st := st.ext hx
    clear hx
    (try clear hc); have hc := st.facts; (try simp only [nfl, nft, Nat.reduceAdd] at hc)
    go_wp2_with ((first
          | ((with_reducible refine wl_store ?_ (fun K hK => ?_)); rfl; refine owp_store rfl st ?_; apply Exists.intro; apply Exists.intro; refine ⟨?_, ?_, ?_⟩; (focus (go_simp; try rfl)); (focus (go_simp; try rfl)); (first | (with_reducible refine ⟨0, _, _, _, _, get0, rfl, rfl, ?_, ?_, ?_, ?_⟩) | (with_reducible refine ⟨1, _, _, _, _, get1, rfl, rfl, ?_, ?_, ?_, ?_⟩) | (with_reducible refine ⟨2, _, _, _, _, get2, rfl, rfl, ?_, ?_, ?_, ?_⟩) | (with_reducible refine ⟨3, _, _, _, _, get3, rfl, rfl, ?_, ?_, ?_, ?_⟩) | (with_reducible refine ⟨4, _, _, _, _, get4, rfl, rfl, ?_, ?_, ?_, ?_⟩) | (with_reducible refine ⟨5, _, _, _, _, get5, rfl, rfl, ?_, ?_, ?_, ?_⟩) | (with_reducible refine ⟨6, _, _, _, _, get6, rfl, rfl, ?_, ?_, ?_, ?_⟩) | (with_reducible refine ⟨7, _, _, _, _, get7, rfl, rfl, ?_, ?_, ?_, ?_⟩) | (with_reducible refine ⟨8, _, _, _, _, get8, rfl, rfl, ?_, ?_, ?_, ?_⟩) | (with_reducible refine ⟨9, _, _, _, _, get9, rfl, rfl, ?_, ?_, ?_, ?_⟩) | (with_reducible refine ⟨10, _, _, _, _, get10, rfl, rfl, ?_, ?_, ?_, ?_⟩) | (with_reducible refine ⟨11, _, _, _, _, get11, rfl, rfl, ?_, ?_, ?_, ?_⟩) | (with_reducible refine ⟨12, _, _, _, _, get12, rfl, rfl, ?_, ?_, ?_, ?_⟩)); (kernel_rfl); (simp [Value.cells]); (rfl); (clear st; intro w st))
          | ((with_reducible refine wl_buildSlice ?_ (fun K hK => ?_)); rfl; refine owp_buildSlice (o := ⟨some 109, _, _, _, _, _⟩) rfl st ?_; apply Exists.intro; apply Exists.intro; apply Exists.intro; apply Exists.intro; refine ⟨?_, ?_⟩; (focus (go_simp; (first | done | exact ⟨⟨rfl, rfl⟩, rfl⟩ | rfl))); (clear st; intro b109 w hb st; clear hb))); (try simp only [nsl, Value.cells, unB] at st); (try clear hc); have hc := st.facts; (try simp only [nfl, nft, Nat.reduceAdd] at hc))
    obtain ⟨fr', al', st', back⟩ := st.sub [5] (by decide) (by simp)
    (try simp only [nsl, Value.cells, unB] at st')
    refine (seqSend_c (v := nx0) (k := 5) (e := E) st' HRR.out h1.1 h1.2).mono ?_
    clear st'
    rintro en w ⟨xa, xc, za, zc, rfl, ⟨hq1, hq2⟩, st'⟩
    replace st := back _ _ (by simp) st'
    clear back st'
    (try simp only [nsl, Value.cells, unB] at st)
    (try clear hc); have hc := st.facts; (try simp only [nfl, nft, Nat.reduceAdd] at hc)
    have HQ1 := Lib.hid hq1
    have HQ2 := Lib.hid hq2
    have HFR : Hid (∃ F, frM nx0 5 E = F ∧ F = frq nx0) := Lib.hid ⟨_, rfl, HFQE.out⟩
    obtain ⟨xl, hxl⟩ : ∃ x, (frM nx0 5 E).length = x := ⟨_, rfl⟩
    have hx5 : 0 < xl ∧ xl ≤ 4096 := by have := HS1.out; omega
    clear HRR hq1 hq2
    have HF0 := Lib.hid (Eq.refl (frM nx0 5 E))
    generalize frM nx0 5 E = F at *
    rw [hxl] at st HQ1 HQ2 ⊢
    have HXL := Lib.hid hxl
    clear hxl
    (try simp only [nsl, Value.cells, unB] at st)
    (try clear hc); have hc := st.facts; (try simp only [nfl, nft, Nat.reduceAdd] at hc)
    go_wp2_with (first
        | ((with_reducible refine wl_append ?_ (fun K hK => ?_)); (rfl); (obtain ⟨inf, hinf, hz0, hz1, hz2⟩ := bysInfo); (refine owp_append rfl st 8 get8 Try.underlying29 hinf hz0 hz1 hz2 rfl (by decide) rfl rfl ((st.blk (i := 12) get12).flat rfl) (by first | exact cellsL_all _ | simp [Value.oneCell']) (by simp only [maxLen]; omega) (by omega) ?_); (clear hinf hz0 hz1 hz2 inf); (clear st; intro v' w st); (obtain ⟨va', vc', rfl⟩ := own_slice (st.row (i := 8) get8)); (try simp only [nsl, Value.cells, unB] at st); (try simp only [Nat.zero_add] at st); (try clear hc); have hc := st.facts; (try simp only [nfl, nft, Nat.reduceAdd] at hc))
        | ((first
          | ((with_reducible refine wl_store ?_ (fun K hK => ?_)); rfl; refine owp_store rfl st ?_; apply Exists.intro; apply Exists.intro; refine ⟨?_, ?_, ?_⟩; (focus (go_simp; try rfl)); (focus (go_simp; try rfl)); (first | (with_reducible refine ⟨0, _, _, _, _, get0, rfl, rfl, ?_, ?_, ?_, ?_⟩) | (with_reducible refine ⟨1, _, _, _, _, get1, rfl, rfl, ?_, ?_, ?_, ?_⟩) | (with_reducible refine ⟨2, _, _, _, _, get2, rfl, rfl, ?_, ?_, ?_, ?_⟩) | (with_reducible refine ⟨3, _, _, _, _, get3, rfl, rfl, ?_, ?_, ?_, ?_⟩) | (with_reducible refine ⟨4, _, _, _, _, get4, rfl, rfl, ?_, ?_, ?_, ?_⟩) | (with_reducible refine ⟨5, _, _, _, _, get5, rfl, rfl, ?_, ?_, ?_, ?_⟩) | (with_reducible refine ⟨6, _, _, _, _, get6, rfl, rfl, ?_, ?_, ?_, ?_⟩) | (with_reducible refine ⟨7, _, _, _, _, get7, rfl, rfl, ?_, ?_, ?_, ?_⟩) | (with_reducible refine ⟨8, _, _, _, _, get8, rfl, rfl, ?_, ?_, ?_, ?_⟩) | (with_reducible refine ⟨9, _, _, _, _, get9, rfl, rfl, ?_, ?_, ?_, ?_⟩) | (with_reducible refine ⟨10, _, _, _, _, get10, rfl, rfl, ?_, ?_, ?_, ?_⟩) | (with_reducible refine ⟨11, _, _, _, _, get11, rfl, rfl, ?_, ?_, ?_, ?_⟩) | (with_reducible refine ⟨12, _, _, _, _, get12, rfl, rfl, ?_, ?_, ?_, ?_⟩)); (kernel_rfl); (simp [Value.cells]); (rfl); (clear st; intro w st))
          | ((with_reducible refine wl_buildSlice ?_ (fun K hK => ?_)); rfl; refine owp_buildSlice (o := ⟨some 109, _, _, _, _, _⟩) rfl st ?_; apply Exists.intro; apply Exists.intro; apply Exists.intro; apply Exists.intro; refine ⟨?_, ?_⟩; (focus (go_simp; (first | done | exact ⟨⟨rfl, rfl⟩, rfl⟩ | rfl))); (clear st; intro b109 w hb st; clear hb))); (try simp only [nsl, Value.cells, unB] at st); (try clear hc); have hc := st.facts; (try simp only [nfl, nft, Nat.reduceAdd] at hc)))
    replace st := st.bysMore (i := 9) (j := 10) get9 get10 HQ2.out
    simp only [List.cons_append, List.nil_append] at st
    replace st := st.bysMore (i := 13) (j := 11) get13 get11 HQ1.out
    simp only [List.cons_append, List.nil_append] at st
    have st2 := st.keep [0, 1, 2, 3, 4, 5, 6, 7, 8, 14] (by decide) (by simp)
    simp only [pick, List.map_cons, List.map_nil, List.getElem?_cons_zero, List.getElem?_cons_succ, Option.getD_some] at st2
    clear st
    have st := st2
    clear st2
    rw [rounds_succ]
    (try simp only [nsl, Value.cells, unB] at st)
    (try clear hc); have hc := st.facts; (try simp only [nfl, nft, Nat.reduceAdd] at hc)
    go_wp2_with ((first
          | ((with_reducible refine wl_store ?_ (fun K hK => ?_)); rfl; refine owp_store rfl st ?_; apply Exists.intro; apply Exists.intro; refine ⟨?_, ?_, ?_⟩; (focus (go_simp; try rfl)); (focus (go_simp; try rfl)); (first | (with_reducible refine ⟨0, _, _, _, _, get0, rfl, rfl, ?_, ?_, ?_, ?_⟩) | (with_reducible refine ⟨1, _, _, _, _, get1, rfl, rfl, ?_, ?_, ?_, ?_⟩) | (with_reducible refine ⟨2, _, _, _, _, get2, rfl, rfl, ?_, ?_, ?_, ?_⟩) | (with_reducible refine ⟨3, _, _, _, _, get3, rfl, rfl, ?_, ?_, ?_, ?_⟩) | (with_reducible refine ⟨4, _, _, _, _, get4, rfl, rfl, ?_, ?_, ?_, ?_⟩) | (with_reducible refine ⟨5, _, _, _, _, get5, rfl, rfl, ?_, ?_, ?_, ?_⟩) | (with_reducible refine ⟨6, _, _, _, _, get6, rfl, rfl, ?_, ?_, ?_, ?_⟩) | (with_reducible refine ⟨7, _, _, _, _, get7, rfl, rfl, ?_, ?_, ?_, ?_⟩) | (with_reducible refine ⟨8, _, _, _, _, get8, rfl, rfl, ?_, ?_, ?_, ?_⟩) | (with_reducible refine ⟨9, _, _, _, _, get9, rfl, rfl, ?_, ?_, ?_, ?_⟩) | (with_reducible refine ⟨10, _, _, _, _, get10, rfl, rfl, ?_, ?_, ?_, ?_⟩) | (with_reducible refine ⟨11, _, _, _, _, get11, rfl, rfl, ?_, ?_, ?_, ?_⟩) | (with_reducible refine ⟨12, _, _, _, _, get12, rfl, rfl, ?_, ?_, ?_, ?_⟩)); (kernel_rfl); (simp [Value.cells]); (rfl); (clear st; intro w st))
          | ((with_reducible refine wl_buildSlice ?_ (fun K hK => ?_)); rfl; refine owp_buildSlice (o := ⟨some 109, _, _, _, _, _⟩) rfl st ?_; apply Exists.intro; apply Exists.intro; apply Exists.intro; apply Exists.intro; refine ⟨?_, ?_⟩; (focus (go_simp; (first | done | exact ⟨⟨rfl, rfl⟩, rfl⟩ | rfl))); (clear st; intro b109 w hb st; clear hb))); (try simp only [nsl, Value.cells, unB] at st); (try clear hc); have hc := st.facts; (try simp only [nfl, nft, Nat.reduceAdd] at hc))
    refine (seqWord_any _ _ _ _ _ _ _ _ _ _ _ _ _ (st.blk (i := 6) get6)).mono ?_
    rintro en w ⟨rfl, hx⟩
    replace st := st.ext hx
    clear hx
    (try clear hc); have hc := st.facts; (try simp only [nfl, nft, Nat.reduceAdd] at hc)
    go_wp2_with fail
    rw [rounds_succ]
    go_wp2_with fail
    have hcv : ((nx0 : Int) + 1) = ((nx0 + 1 : Nat) : Int) := by omega
    have hcs : ((s0 : Int) + 1) = ((s0 + 1 : Nat) : Int) := by omega
    have hmem : ∀ x ∈ ps, x ∈ ps ++ [(⟨za, xl, zc, F⟩ : ByT)] ++ [(⟨xa, xl, xc, F⟩ : ByT)] := fun x hx => List.mem_append_left _ (List.mem_append_left _ hx)
    rw [hcv, hcs] at st
    refine ⟨s0 + 1, s1, g0, g1, nx0 + 1, nx1, gt0, gt1, 100, lf1, 0, tk1, xl, zc, ln1, lc1, m0, c0, m1 + 1, vc', false, false, za, la1, f0, va', F, L1, ys0, ys1 ++ [⟨xa, xl, xc, F⟩], ps ++ [(⟨za, xl, zc, F⟩ : ByT)] ++ [(⟨xa, xl, xc, F⟩ : ByT)], by omega, ?_, ?_, ?_, ?_, ?_, ?_⟩
    · exact Lib.hid (by have := HNX.out; omega)
    · exact Lib.hid HPH.out.send0
    · refine Lib.hid ⟨?_, HLQ.out.2⟩
      refine .inr ⟨by omega, ?_⟩
      obtain ⟨_, q1, h2⟩ := HFR.out
      exact (q1.trans h2).trans (congrArg frq (by have := HV.out; omega))
    · refine Lib.hid ⟨HFQ.out.1.more (Nat.le_refl _) hmem, FlewQ.put (HFQ.out.2.more (Nat.le_succ _) hmem) (List.mem_append_right _ (List.mem_singleton.2 rfl)) (Nat.lt_succ_self _) ?_⟩
      obtain ⟨_, q1, h2⟩ := HFR.out
      exact (q1.trans h2).trans (congrArg frq (by have := HV.out; omega))
    · exact Lib.hid ⟨List.mem_append_left _ (List.mem_append_right _ (List.mem_singleton.2 rfl)), hmem _ HLM.out.2⟩
    · rw [cellsL_append, show cellsL [(⟨xa, xl, xc, F⟩ : ByT)] = [.slice xa xl xc] from rfl]
      exact st
  | false =>
    (try simp only [nsl, Value.cells, unB] at st)
    (try clear hc); have hc := st.facts; (try simp only [nfl, nft, Nat.reduceAdd] at hc)
    go_wp2_with ((first
          | ((with_reducible refine wl_store ?_ (fun K hK => ?_)); rfl; refine owp_store rfl st ?_; apply Exists.intro; apply Exists.intro; refine ⟨?_, ?_, ?_⟩; (focus (go_simp; try rfl)); (focus (go_simp; try rfl)); (first | (with_reducible refine ⟨0, _, _, _, _, get0, rfl, rfl, ?_, ?_, ?_, ?_⟩) | (with_reducible refine ⟨1, _, _, _, _, get1, rfl, rfl, ?_, ?_, ?_, ?_⟩) | (with_reducible refine ⟨2, _, _, _, _, get2, rfl, rfl, ?_, ?_, ?_, ?_⟩) | (with_reducible refine ⟨3, _, _, _, _, get3, rfl, rfl, ?_, ?_, ?_, ?_⟩) | (with_reducible refine ⟨4, _, _, _, _, get4, rfl, rfl, ?_, ?_, ?_, ?_⟩) | (with_reducible refine ⟨5, _, _, _, _, get5, rfl, rfl, ?_, ?_, ?_, ?_⟩) | (with_reducible refine ⟨6, _, _, _, _, get6, rfl, rfl, ?_, ?_, ?_, ?_⟩) | (with_reducible refine ⟨7, _, _, _, _, get7, rfl, rfl, ?_, ?_, ?_, ?_⟩) | (with_reducible refine ⟨8, _, _, _, _, get8, rfl, rfl, ?_, ?_, ?_, ?_⟩) | (with_reducible refine ⟨9, _, _, _, _, get9, rfl, rfl, ?_, ?_, ?_, ?_⟩) | (with_reducible refine ⟨10, _, _, _, _, get10, rfl, rfl, ?_, ?_, ?_, ?_⟩) | (with_reducible refine ⟨11, _, _, _, _, get11, rfl, rfl, ?_, ?_, ?_, ?_⟩) | (with_reducible refine ⟨12, _, _, _, _, get12, rfl, rfl, ?_, ?_, ?_, ?_⟩)); (kernel_rfl); (simp [Value.cells]); (rfl); (clear st; intro w st))
          | ((with_reducible refine wl_buildSlice ?_ (fun K hK => ?_)); rfl; refine owp_buildSlice (o := ⟨some 109, _, _, _, _, _⟩) rfl st ?_; apply Exists.intro; apply Exists.intro; apply Exists.intro; apply Exists.intro; refine ⟨?_, ?_⟩; (focus (go_simp; (first | done | exact ⟨⟨rfl, rfl⟩, rfl⟩ | rfl))); (clear st; intro b109 w hb st; clear hb))); (try simp only [nsl, Value.cells, unB] at st); (try clear hc); have hc := st.facts; (try simp only [nfl, nft, Nat.reduceAdd] at hc))
    refine (seqWord_any _ _ _ _ _ _ _ _ _ _ _ _ _ (st.blk (i := 5) get5)).mono ?_
    rintro en w ⟨rfl, hx⟩
    replace st := st.ext hx
    clear hx
    (try clear hc); have hc := st.facts; (try simp only [nfl, nft, Nat.reduceAdd] at hc)
    go_wp2_with fail
    rw [rounds_succ]
    cases wd1 with
    | true =>
      have hnx : nx1 = 2 * s1 + 2 := by have h1 := HPH.out.w1; have h2 := HNX.out; omega
      have h1 : 1 ≤ nx1 ∧ nx1 ≤ 1000000 := by omega
      obtain ⟨r9, hr9, hr99⟩ : ∃ r : Nat, Int.tmod (2 * (s1 : Int) + 1) 99 = (r : Int) ∧ r = (nx1 - 1) % 99 := ⟨(2 * s1 + 1) % 99, by rw [Int.tmod_eq_emod_of_nonneg (by omega)]; omega, by rw [hnx]; rfl⟩
      obtain ⟨E, hE9⟩ : ∃ E, frE nx1 = E := ⟨_, rfl⟩
      have hz1 : IntKind.i64.wrap (2 * (s1 : Int)) = 2 * (s1 : Int) := IntWalk.i64_in _ ⟨by omega, by omega⟩
      have hz2 : IntKind.i64.wrap (2 * (s1 : Int) + 1) = 2 * (s1 : Int) + 1 := IntWalk.i64_in _ ⟨by omega, by omega⟩
      have hz3 : IntKind.i64.wrap (1 + (r9 : Int)) = E := by rw [← hE9]; unfold frE; rw [← hr99]; exact IntWalk.i64_in _ ⟨by omega, by omega⟩
      have hz4 : IntKind.i64.wrap ((s1 : Int) + 1) = (s1 : Int) + 1 := IntWalk.i64_in _ ⟨by omega, by omega⟩
      have HRR : Hid (mgR (mg0 5 0 E []) = true) := Lib.hid (by rw [← hE9]; exact frE_R _)
      have HV := Lib.hid hnx
      have HS1 := Lib.hid (frM_len (v := nx1) HRR.out)
      have HFQE : Hid (frM nx1 5 E = frq nx1) := Lib.hid (by unfold frq; rw [hE9])
      clear hnx hr99 hE9
      (try simp only [nsl, Value.cells, unB] at st)
      (try clear hc); have hc := st.facts; (try simp only [nfl, nft, Nat.reduceAdd] at hc)
      go_wp2_with ((first
            | ((with_reducible refine wl_store ?_ (fun K hK => ?_)); rfl; refine owp_store rfl st ?_; apply Exists.intro; apply Exists.intro; refine ⟨?_, ?_, ?_⟩; (focus (go_simp; try rfl)); (focus (go_simp; try rfl)); (first | (with_reducible refine ⟨0, _, _, _, _, get0, rfl, rfl, ?_, ?_, ?_, ?_⟩) | (with_reducible refine ⟨1, _, _, _, _, get1, rfl, rfl, ?_, ?_, ?_, ?_⟩) | (with_reducible refine ⟨2, _, _, _, _, get2, rfl, rfl, ?_, ?_, ?_, ?_⟩) | (with_reducible refine ⟨3, _, _, _, _, get3, rfl, rfl, ?_, ?_, ?_, ?_⟩) | (with_reducible refine ⟨4, _, _, _, _, get4, rfl, rfl, ?_, ?_, ?_, ?_⟩) | (with_reducible refine ⟨5, _, _, _, _, get5, rfl, rfl, ?_, ?_, ?_, ?_⟩) | (with_reducible refine ⟨6, _, _, _, _, get6, rfl, rfl, ?_, ?_, ?_, ?_⟩) | (with_reducible refine ⟨7, _, _, _, _, get7, rfl, rfl, ?_, ?_, ?_, ?_⟩) | (with_reducible refine ⟨8, _, _, _, _, get8, rfl, rfl, ?_, ?_, ?_, ?_⟩) | (with_reducible refine ⟨9, _, _, _, _, get9, rfl, rfl, ?_, ?_, ?_, ?_⟩) | (with_reducible refine ⟨10, _, _, _, _, get10, rfl, rfl, ?_, ?_, ?_, ?_⟩) | (with_reducible refine ⟨11, _, _, _, _, get11, rfl, rfl, ?_, ?_, ?_, ?_⟩) | (with_reducible refine ⟨12, _, _, _, _, get12, rfl, rfl, ?_, ?_, ?_, ?_⟩)); (kernel_rfl); (simp [Value.cells]); (rfl); (clear st; intro w st))
            | ((with_reducible refine wl_buildSlice ?_ (fun K hK => ?_)); rfl; refine owp_buildSlice (o := ⟨some 109, _, _, _, _, _⟩) rfl st ?_; apply Exists.intro; apply Exists.intro; apply Exists.intro; apply Exists.intro; refine ⟨?_, ?_⟩; (focus (go_simp; (first | done | exact ⟨⟨rfl, rfl⟩, rfl⟩ | rfl))); (clear st; intro b109 w hb st; clear hb))); (try simp only [nsl, Value.cells, unB] at st); (try clear hc); have hc := st.facts; (try simp only [nfl, nft, Nat.reduceAdd] at hc))
      refine (seqWord_any _ _ _ _ _ _ _ _ _ _ _ _ _ (st.blk (i := 6) get6)).mono ?_
      rintro en w ⟨rfl, hx⟩
      replace st := st.ext hx
      clear hx
      (try clear hc); have hc := st.facts; (try simp only [nfl, nft, Nat.reduceAdd] at hc)
      go_wp2_with ((first
            | ((with_reducible refine wl_store ?_ (fun K hK => ?_)); rfl; refine owp_store rfl st ?_; apply Exists.intro; apply Exists.intro; refine ⟨?_, ?_, ?_⟩; (focus (go_simp; try rfl)); (focus (go_simp; try rfl)); (first | (with_reducible refine ⟨0, _, _, _, _, get0, rfl, rfl, ?_, ?_, ?_, ?_⟩) | (with_reducible refine ⟨1, _, _, _, _, get1, rfl, rfl, ?_, ?_, ?_, ?_⟩) | (with_reducible refine ⟨2, _, _, _, _, get2, rfl, rfl, ?_, ?_, ?_, ?_⟩) | (with_reducible refine ⟨3, _, _, _, _, get3, rfl, rfl, ?_, ?_, ?_, ?_⟩) | (with_reducible refine ⟨4, _, _, _, _, get4, rfl, rfl, ?_, ?_, ?_, ?_⟩) | (with_reducible refine ⟨5, _, _, _, _, get5, rfl, rfl, ?_, ?_, ?_, ?_⟩) | (with_reducible refine ⟨6, _, _, _, _, get6, rfl, rfl, ?_, ?_, ?_, ?_⟩) | (with_reducible refine ⟨7, _, _, _, _, get7, rfl, rfl, ?_, ?_, ?_, ?_⟩) | (with_reducible refine ⟨8, _, _, _, _, get8, rfl, rfl, ?_, ?_, ?_, ?_⟩) | (with_reducible refine ⟨9, _, _, _, _, get9, rfl, rfl, ?_, ?_, ?_, ?_⟩) | (with_reducible refine ⟨10, _, _, _, _, get10, rfl, rfl, ?_, ?_, ?_, ?_⟩) | (with_reducible refine ⟨11, _, _, _, _, get11, rfl, rfl, ?_, ?_, ?_, ?_⟩) | (with_reducible refine ⟨12, _, _, _, _, get12, rfl, rfl, ?_, ?_, ?_, ?_⟩)); (kernel_rfl); (simp [Value.cells]); (rfl); (clear st; intro w st))
            | ((with_reducible refine wl_buildSlice ?_ (fun K hK => ?_)); rfl; refine owp_buildSlice (o := ⟨some 109, _, _, _, _, _⟩) rfl st ?_; apply Exists.intro; apply Exists.intro; apply Exists.intro; apply Exists.intro; refine ⟨?_, ?_⟩; (focus (go_simp; (first | done | exact ⟨⟨rfl, rfl⟩, rfl⟩ | rfl))); (clear st; intro b109 w hb st; clear hb))); (try simp only [nsl, Value.cells, unB] at st); (try clear hc); have hc := st.facts; (try simp only [nfl, nft, Nat.reduceAdd] at hc))
      obtain ⟨fr', al', st', back⟩ := st.sub [6] (by decide) (by simp)
      (try simp only [nsl, Value.cells, unB] at st')
      refine (seqSend_c (v := nx1) (k := 5) (e := E) st' HRR.out h1.1 h1.2).mono ?_
      clear st'
      rintro en w ⟨xa, xc, za, zc, rfl, ⟨hq1, hq2⟩, st'⟩
      replace st := back _ _ (by simp) st'
      clear back st'
      (try simp only [nsl, Value.cells, unB] at st)
      (try clear hc); have hc := st.facts; (try simp only [nfl, nft, Nat.reduceAdd] at hc)
      have HQ1 := Lib.hid hq1
      have HQ2 := Lib.hid hq2
      have HFR : Hid (∃ F, frM nx1 5 E = F ∧ F = frq nx1) := Lib.hid ⟨_, rfl, HFQE.out⟩
      obtain ⟨xl, hxl⟩ : ∃ x, (frM nx1 5 E).length = x := ⟨_, rfl⟩
      have hx5 : 0 < xl ∧ xl ≤ 4096 := by have := HS1.out; omega
      clear HRR hq1 hq2
      have HF0 := Lib.hid (Eq.refl (frM nx1 5 E))
      generalize frM nx1 5 E = F at *
      rw [hxl] at st HQ1 HQ2 ⊢
      have HXL := Lib.hid hxl
      clear hxl
      (try simp only [nsl, Value.cells, unB] at st)
      (try clear hc); have hc := st.facts; (try simp only [nfl, nft, Nat.reduceAdd] at hc)
      go_wp2_with (first
          | ((with_reducible refine wl_append ?_ (fun K hK => ?_)); (rfl); (obtain ⟨inf, hinf, hz0, hz1, hz2⟩ := bysInfo); (refine owp_append rfl st 7 get7 Try.underlying29 hinf hz0 hz1 hz2 rfl (by decide) rfl rfl ((st.blk (i := 12) get12).flat rfl) (by first | exact cellsL_all _ | simp [Value.oneCell']) (by simp only [maxLen]; omega) (by omega) ?_); (clear hinf hz0 hz1 hz2 inf); (clear st; intro v' w st); (obtain ⟨va', vc', rfl⟩ := own_slice (st.row (i := 7) get7)); (try simp only [nsl, Value.cells, unB] at st); (try simp only [Nat.zero_add] at st); (try clear hc); have hc := st.facts; (try simp only [nfl, nft, Nat.reduceAdd] at hc))
          | ((first
            | ((with_reducible refine wl_store ?_ (fun K hK => ?_)); rfl; refine owp_store rfl st ?_; apply Exists.intro; apply Exists.intro; refine ⟨?_, ?_, ?_⟩; (focus (go_simp; try rfl)); (focus (go_simp; try rfl)); (first | (with_reducible refine ⟨0, _, _, _, _, get0, rfl, rfl, ?_, ?_, ?_, ?_⟩) | (with_reducible refine ⟨1, _, _, _, _, get1, rfl, rfl, ?_, ?_, ?_, ?_⟩) | (with_reducible refine ⟨2, _, _, _, _, get2, rfl, rfl, ?_, ?_, ?_, ?_⟩) | (with_reducible refine ⟨3, _, _, _, _, get3, rfl, rfl, ?_, ?_, ?_, ?_⟩) | (with_reducible refine ⟨4, _, _, _, _, get4, rfl, rfl, ?_, ?_, ?_, ?_⟩) | (with_reducible refine ⟨5, _, _, _, _, get5, rfl, rfl, ?_, ?_, ?_, ?_⟩) | (with_reducible refine ⟨6, _, _, _, _, get6, rfl, rfl, ?_, ?_, ?_, ?_⟩) | (with_reducible refine ⟨7, _, _, _, _, get7, rfl, rfl, ?_, ?_, ?_, ?_⟩) | (with_reducible refine ⟨8, _, _, _, _, get8, rfl, rfl, ?_, ?_, ?_, ?_⟩) | (with_reducible refine ⟨9, _, _, _, _, get9, rfl, rfl, ?_, ?_, ?_, ?_⟩) | (with_reducible refine ⟨10, _, _, _, _, get10, rfl, rfl, ?_, ?_, ?_, ?_⟩) | (with_reducible refine ⟨11, _, _, _, _, get11, rfl, rfl, ?_, ?_, ?_, ?_⟩) | (with_reducible refine ⟨12, _, _, _, _, get12, rfl, rfl, ?_, ?_, ?_, ?_⟩)); (kernel_rfl); (simp [Value.cells]); (rfl); (clear st; intro w st))
            | ((with_reducible refine wl_buildSlice ?_ (fun K hK => ?_)); rfl; refine owp_buildSlice (o := ⟨some 109, _, _, _, _, _⟩) rfl st ?_; apply Exists.intro; apply Exists.intro; apply Exists.intro; apply Exists.intro; refine ⟨?_, ?_⟩; (focus (go_simp; (first | done | exact ⟨⟨rfl, rfl⟩, rfl⟩ | rfl))); (clear st; intro b109 w hb st; clear hb))); (try simp only [nsl, Value.cells, unB] at st); (try clear hc); have hc := st.facts; (try simp only [nfl, nft, Nat.reduceAdd] at hc)))
      replace st := st.bysMore (i := 9) (j := 10) get9 get10 HQ2.out
      simp only [List.cons_append, List.nil_append] at st
      replace st := st.bysMore (i := 13) (j := 11) get13 get11 HQ1.out
      simp only [List.cons_append, List.nil_append] at st
      have st2 := st.keep [0, 1, 2, 3, 4, 5, 6, 7, 8, 14] (by decide) (by simp)
      simp only [pick, List.map_cons, List.map_nil, List.getElem?_cons_zero, List.getElem?_cons_succ, Option.getD_some] at st2
      clear st
      have st := st2
      clear st2
      rw [rounds_succ]
      go_wp2_with fail
      have hcv : ((nx1 : Int) + 1) = ((nx1 + 1 : Nat) : Int) := by omega
      have hcs : ((s1 : Int) + 1) = ((s1 + 1 : Nat) : Int) := by omega
      have hmem : ∀ x ∈ ps, x ∈ ps ++ [(⟨za, xl, zc, F⟩ : ByT)] ++ [(⟨xa, xl, xc, F⟩ : ByT)] := fun x hx => List.mem_append_left _ (List.mem_append_left _ hx)
      rw [hcv, hcs] at st
      refine ⟨s0, s1 + 1, g0, g1, nx0, nx1 + 1, gt0, gt1, lf0, 100, tk0, 0, ln0, lc0, xl, zc, m0 + 1, vc', m1, c1, false, false, la0, za, va', f1, L0, F, ys0 ++ [⟨xa, xl, xc, F⟩], ys1, ps ++ [(⟨za, xl, zc, F⟩ : ByT)] ++ [(⟨xa, xl, xc, F⟩ : ByT)], by omega, ?_, ?_, ?_, ?_, ?_, ?_⟩
      · exact Lib.hid (by have := HNX.out; omega)
      · exact Lib.hid HPH.out.send1
      · refine Lib.hid ⟨HLQ.out.1, ?_⟩
        refine .inr ⟨by omega, ?_⟩
        obtain ⟨_, q1, h2⟩ := HFR.out
        exact (q1.trans h2).trans (congrArg frq (by have := HV.out; omega))
      · refine Lib.hid ⟨FlewQ.put (HFQ.out.1.more (Nat.le_succ _) hmem) (List.mem_append_right _ (List.mem_singleton.2 rfl)) (Nat.lt_succ_self _) ?_, HFQ.out.2.more (Nat.le_refl _) hmem⟩
        obtain ⟨_, q1, h2⟩ := HFR.out
        exact (q1.trans h2).trans (congrArg frq (by have := HV.out; omega))
      · exact Lib.hid ⟨hmem _ HLM.out.1, List.mem_append_left _ (List.mem_append_right _ (List.mem_singleton.2 rfl))⟩
      · rw [cellsL_append, show cellsL [(⟨xa, xl, xc, F⟩ : ByT)] = [.slice xa xl xc] from rfl]
        exact st
    | false =>
      (try simp only [nsl, Value.cells, unB] at st)
      (try clear hc); have hc := st.facts; (try simp only [nfl, nft, Nat.reduceAdd] at hc)
      go_wp2_with ((first
            | ((with_reducible refine wl_store ?_ (fun K hK => ?_)); rfl; refine owp_store rfl st ?_; apply Exists.intro; apply Exists.intro; refine ⟨?_, ?_, ?_⟩; (focus (go_simp; try rfl)); (focus (go_simp; try rfl)); (first | (with_reducible refine ⟨0, _, _, _, _, get0, rfl, rfl, ?_, ?_, ?_, ?_⟩) | (with_reducible refine ⟨1, _, _, _, _, get1, rfl, rfl, ?_, ?_, ?_, ?_⟩) | (with_reducible refine ⟨2, _, _, _, _, get2, rfl, rfl, ?_, ?_, ?_, ?_⟩) | (with_reducible refine ⟨3, _, _, _, _, get3, rfl, rfl, ?_, ?_, ?_, ?_⟩) | (with_reducible refine ⟨4, _, _, _, _, get4, rfl, rfl, ?_, ?_, ?_, ?_⟩) | (with_reducible refine ⟨5, _, _, _, _, get5, rfl, rfl, ?_, ?_, ?_, ?_⟩) | (with_reducible refine ⟨6, _, _, _, _, get6, rfl, rfl, ?_, ?_, ?_, ?_⟩) | (with_reducible refine ⟨7, _, _, _, _, get7, rfl, rfl, ?_, ?_, ?_, ?_⟩) | (with_reducible refine ⟨8, _, _, _, _, get8, rfl, rfl, ?_, ?_, ?_, ?_⟩) | (with_reducible refine ⟨9, _, _, _, _, get9, rfl, rfl, ?_, ?_, ?_, ?_⟩) | (with_reducible refine ⟨10, _, _, _, _, get10, rfl, rfl, ?_, ?_, ?_, ?_⟩) | (with_reducible refine ⟨11, _, _, _, _, get11, rfl, rfl, ?_, ?_, ?_, ?_⟩) | (with_reducible refine ⟨12, _, _, _, _, get12, rfl, rfl, ?_, ?_, ?_, ?_⟩)); (kernel_rfl); (simp [Value.cells]); (rfl); (clear st; intro w st))
            | ((with_reducible refine wl_buildSlice ?_ (fun K hK => ?_)); rfl; refine owp_buildSlice (o := ⟨some 109, _, _, _, _, _⟩) rfl st ?_; apply Exists.intro; apply Exists.intro; apply Exists.intro; apply Exists.intro; refine ⟨?_, ?_⟩; (focus (go_simp; (first | done | exact ⟨⟨rfl, rfl⟩, rfl⟩ | rfl))); (clear st; intro b109 w hb st; clear hb))); (try simp only [nsl, Value.cells, unB] at st); (try clear hc); have hc := st.facts; (try simp only [nfl, nft, Nat.reduceAdd] at hc))
      refine (seqWord_any _ _ _ _ _ _ _ _ _ _ _ _ _ (st.blk (i := 6) get6)).mono ?_
      rintro en w ⟨rfl, hx⟩
      replace st := st.ext hx
      clear hx
      (try clear hc); have hc := st.facts; (try simp only [nfl, nft, Nat.reduceAdd] at hc)
      go_wp2_with fail
      rw [rounds_succ]
      go_wp2_with fail
      exact ⟨s0, s1, g0, g1, nx0, nx1, gt0, gt1, lf0, lf1, tk0, tk1, ln0, lc0, ln1, lc1, m0, c0, m1, c1, false, false, la0, la1, f0, f1, L0, L1, ys0, ys1, ps, by omega, HNX, HPH, HLQ, HFQ, HLM, st⟩
end Go.Proofs.Ytmlhilgdjedeoaa

namespace Go.Proofs.Ytmlhilgdjedeoaa
set_option linter.unusedSimpArgs false
set_option linter.unusedVariables false
open Go Go.RowKit
set_option maxRecDepth 100000 in
set_option maxHeartbeats 16000000 in
theorem seqOp1 {n c : Nat} {l : List NtT} {W : World} {b3 b4 b5 b6 b8 p0 p1 lb loff j : Nat} {xk xx : Int} {s0 s1 g0 g1 nx0 nx1 gt0 gt1 lf0 lf1 tk0 tk1 ln0 lc0 ln1 lc1 m0 c0 m1 c1 : Nat} {wd0 wd1 : Bool} {la0 la1 f0 f1 : Option Addr} {L0 L1 : List UInt8} {ys0 ys1 ps : List ByT} {w : World} {K14 K43 : Act → World → Prop} {Q : Exit → Act → World → Prop}
    {v23 v24 v25 v26 v27 v28 v29 v30 v31 v32 v33 v34 v35 v36 v37 : Value} {v2 v9 v10 v11 v12 v13 v14 v15 v16 v17 v18 v19 v20 v21 v22 v41 v42 v43 v44 v45 v46 v47 v48 v49 v50 v51 v52 v53 v54 v55 v56 v57 v58 v59 v60 v61 v62 v63 v64 v65 v66 v67 v68 v69 v70 v71 v72 v73 v74 v75 v76 v77 v78 v79 v80 v81 v82 v83 v84 v85 v86 v87 v88 v89 v90 v91 v92 v93 v94 v95 v96 v97 v98 v99 v100 v101 v102 v103 v104 v105 v106 v107 v108 v109 v110 v111 v112 v113 v114 v115 v116 v117 v118 v119 v120 v121 v122 v123 v124 v125 v126 v127 v128 v129 v130 v131 v132 v133 v134 v135 v136 v137 v138 v139 v140 v141 v142 v143 v144 v145 v146 v147 v148 v149 v150 v151 v152 v153 v154 v155 v156 v157 v158 v159 v160 v161 v162 v163 v164 v165 v166 v167 v168 v169 v170 v171 v172 v173 v174 v175 v176 v177 v178 v179 v180 v181 v182 v183 v184 v185 v186 v187 v188 v189 v190 v191 v192 v193 v194 v195 v196 v197 v198 v199 v200 v201 v202 v203 v204 v205 v206 v207 v208 : Value} (hj : j ≤ 200) (hB : s0 + s1 + g0 + g1 ≤ 2 * j) (hl0 : lf0 ≤ 100) (hl1 : lf1 ≤ 100) (ht0 : tk0 ≤ 2) (ht1 : tk1 ≤ 2) (hm0 : m0 ≤ 2 * j) (hm1 : m1 ≤ 2 * j) (HNX : Hid (nx0 = 1 + s0 + g0 ∧ nx1 = 1 + s1 + g1 ∧ gt0 = 2 * g0 ∧ gt1 = 2 * g1 - 1)) (HPH : Hid (PhQ s0 s1 g0 g1 wd0 wd1)) (HLQ : Hid (LastQ s0 (2 * s0 - 1) ln0 L0 ∧ LastQ s1 (2 * s1) ln1 L1)) (HFQ : Hid (FlewQ s1 2 ys0 ps ∧ FlewQ s0 1 ys1 ps)) (HLM : Hid ((⟨la0, ln0, lc0, L0⟩ : ByT) ∈ ps ∧ (⟨la1, ln1, lc1, L1⟩ : ByT) ∈ ps))
    (hk5 : Int.tmod (IntKind.u64.wrap xk) 5 = 1)
    (hQ : Rg4.PB Q)
    (st : Own (fun _ => False) (fun _ => True) W [flI (some ⟨lb, loff, none⟩) n l, blkI b3 [.pointer (some ⟨p0, 0, none⟩), .pointer (some ⟨p1, 0, none⟩)], blkI b4 [.slice f0 m0 c0, .slice f1 m1 c1], blkI b5 [.int .i64 (s0 : Int), .int .i64 (s1 : Int)], blkI b6 [.int .i64 (g0 : Int), .int .i64 (g1 : Int)],
      blkI p0 [.bool wd0, .bool false, .int .i64 (nx0 : Int), .int .i64 2, .int .i64 100, .int .i64 (lf0 : Int), .int .i64 (tk0 : Int), .slice la0 ln0 lc0, .int .i64 (gt0 : Int)],
      blkI p1 [.bool wd1, .bool false, .int .i64 (nx1 : Int), .int .i64 2, .int .i64 100, .int .i64 (lf1 : Int), .int .i64 (tk1 : Int), .slice la1 ln1 lc1, .int .i64 (gt1 : Int)],
      rowI 35 1 (.slice f0 m0 c0) m0 (cellsL ys0), rowI 35 1 (.slice f1 m1 c1) m1 (cellsL ys1), bysI ps, blkI b8 [.int .i64 xk, .int .i64 xx]] w)
    (h14 : ∀ a w, Code.wp Try.prog seqSw14 (Exit.then K43 Q) a w → K14 a w)
    (hT : ∀ {v2 v8 v9 v10 v11 v12 v13 v14 v15 v16 v17 v18 v19 v20 v21 v22 v41 v42 v43 v44 v45 v46 v47 v48 v49 v50 v51 v52 v53 v54 v55 v56 v57 v58 v59 v60 v61 v62 v63 v64 v65 v66 v67 v68 v69 v70 v71 v72 v73 v74 v75 v76 v77 v78 v79 v80 v81 v82 v83 v84 v85 v86 v87 v88 v89 v90 v91 v92 v93 v94 v95 v96 v97 v98 v99 v100 v101 v102 v103 v104 v105 v106 v107 v108 v109 v110 v111 v112 v113 v114 v115 v116 v117 v118 v119 v120 v121 v122 v123 v124 v125 v126 v127 v128 v129 v130 v131 v132 v133 v134 v135 v136 v137 v138 v139 v140 v141 v142 v143 v144 v145 v146 v147 v148 v149 v150 v151 v152 v153 v154 v155 v156 v157 v158 v159 v160 v161 v162 v163 v164 v165 v166 v167 v168 v169 v170 v171 v172 v173 v174 v175 v176 v177 v178 v179 v180 v181 v182 v183 v184 v185 v186 v187 v188 v189 v190 v191 v192 v193 v194 v195 v196 v197 v198 v199 v200 v201 v202 v203 v204 v205 v206 v207 v208 : Value} {w' : World}, SeqSt (some ⟨lb, loff, none⟩) n l W b3 b4 b5 b6 p0 p1 (2 * j + 2) w' → K43 ⟨#[.slice (some ⟨lb, loff, none⟩) n c, undef, v2, .pointer (some ⟨b3, 0, none⟩), .pointer (some ⟨b4, 0, none⟩), .pointer (some ⟨b5, 0, none⟩), .pointer (some ⟨b6, 0, none⟩), undef, v8, v9, v10, v11, v12, v13, v14, v15, v16, v17, v18, v19, v20, v21, v22, v23, v24, v25, v26, v27, v28, v29, v30, v31, v32, v33, v34, v35, v36, v37, .slice (some ⟨lb, loff, none⟩) n c, .int .i64 (n : Int), .int .i64 (j : Int), v41, v42, v43, v44, v45, v46, v47, v48, v49, v50, v51, v52, v53, v54, v55, v56, v57, v58, v59, v60, v61, v62, v63, v64, v65, v66, v67, v68, v69, v70, v71, v72, v73, v74, v75, v76, v77, v78, v79, v80, v81, v82, v83, v84, v85, v86, v87, v88, v89, v90, v91, v92, v93, v94, v95, v96, v97, v98, v99, v100, v101, v102, v103, v104, v105, v106, v107, v108, v109, v110, v111, v112, v113, v114, v115, v116, v117, v118, v119, v120, v121, v122, v123, v124, v125, v126, v127, v128, v129, v130, v131, v132, v133, v134, v135, v136, v137, v138, v139, v140, v141, v142, v143, v144, v145, v146, v147, v148, v149, v150, v151, v152, v153, v154, v155, v156, v157, v158, v159, v160, v161, v162, v163, v164, v165, v166, v167, v168, v169, v170, v171, v172, v173, v174, v175, v176, v177, v178, v179, v180, v181, v182, v183, v184, v185, v186, v187, v188, v189, v190, v191, v192, v193, v194, v195, v196, v197, v198, v199, v200, v201, v202, v203, v204, v205, v206, v207, v208], []⟩ w')
    (hE : ∀ {v2 v8 v9 v10 v11 v12 v13 v14 v15 v16 v17 v18 v19 v20 v21 v22 v41 v42 v43 v44 v45 v46 v47 v48 v49 v50 v51 v52 v53 v54 v55 v56 v57 v58 v59 v60 v61 v62 v63 v64 v65 v66 v67 v68 v69 v70 v71 v72 v73 v74 v75 v76 v77 v78 v79 v80 v81 v82 v83 v84 v85 v86 v87 v88 v89 v90 v91 v92 v93 v94 v95 v96 v97 v98 v99 v100 v101 v102 v103 v104 v105 v106 v107 v108 v109 v110 v111 v112 v113 v114 v115 v116 v117 v118 v119 v120 v121 v122 v123 v124 v125 v126 v127 v128 v129 v130 v131 v132 v133 v134 v135 v136 v137 v138 v139 v140 v141 v142 v143 v144 v145 v146 v147 v148 v149 v150 v151 v152 v153 v154 v155 v156 v157 v158 v159 v160 v161 v162 v163 v164 v165 v166 v167 v168 v169 v170 v171 v172 v173 v174 v175 v176 v177 v178 v179 v180 v181 v182 v183 v184 v185 v186 v187 v188 v189 v190 v191 v192 v193 v194 v195 v196 v197 v198 v199 v200 v201 v202 v203 v204 v205 v206 v207 v208 : Value} {w' : World}, SeqSt (some ⟨lb, loff, none⟩) n l W b3 b4 b5 b6 p0 p1 (2 * j + 2) w' → Q (.exit 1) ⟨#[.slice (some ⟨lb, loff, none⟩) n c, undef, v2, .pointer (some ⟨b3, 0, none⟩), .pointer (some ⟨b4, 0, none⟩), .pointer (some ⟨b5, 0, none⟩), .pointer (some ⟨b6, 0, none⟩), undef, v8, v9, v10, v11, v12, v13, v14, v15, v16, v17, v18, v19, v20, v21, v22, v23, v24, v25, v26, v27, v28, v29, v30, v31, v32, v33, v34, v35, v36, v37, .slice (some ⟨lb, loff, none⟩) n c, .int .i64 (n : Int), .int .i64 (j : Int), v41, v42, v43, v44, v45, v46, v47, v48, v49, v50, v51, v52, v53, v54, v55, v56, v57, v58, v59, v60, v61, v62, v63, v64, v65, v66, v67, v68, v69, v70, v71, v72, v73, v74, v75, v76, v77, v78, v79, v80, v81, v82, v83, v84, v85, v86, v87, v88, v89, v90, v91, v92, v93, v94, v95, v96, v97, v98, v99, v100, v101, v102, v103, v104, v105, v106, v107, v108, v109, v110, v111, v112, v113, v114, v115, v116, v117, v118, v119, v120, v121, v122, v123, v124, v125, v126, v127, v128, v129, v130, v131, v132, v133, v134, v135, v136, v137, v138, v139, v140, v141, v142, v143, v144, v145, v146, v147, v148, v149, v150, v151, v152, v153, v154, v155, v156, v157, v158, v159, v160, v161, v162, v163, v164, v165, v166, v167, v168, v169, v170, v171, v172, v173, v174, v175, v176, v177, v178, v179, v180, v181, v182, v183, v184, v185, v186, v187, v188, v189, v190, v191, v192, v193, v194, v195, v196, v197, v198, v199, v200, v201, v202, v203, v204, v205, v206, v207, v208], []⟩ w') :
    Code.wp Try.prog seqSw13 (Exit.then K14 (Exit.then K43 Q)) ⟨#[.slice (some ⟨lb, loff, none⟩) n c, undef, v2, .pointer (some ⟨b3, 0, none⟩), .pointer (some ⟨b4, 0, none⟩), .pointer (some ⟨b5, 0, none⟩), .pointer (some ⟨b6, 0, none⟩), undef, .pointer (some ⟨b8, 0, none⟩), v9, v10, v11, v12, v13, v14, v15, v16, v17, v18, v19, v20, v21, v22, v23, v24, v25, v26, v27, v28, v29, v30, v31, v32, v33, v34, v35, v36, v37, .slice (some ⟨lb, loff, none⟩) n c, .int .i64 (n : Int), .int .i64 (j : Int), v41, v42, v43, v44, v45, v46, v47, v48, v49, v50, v51, v52, v53, v54, v55, v56, v57, v58, v59, v60, v61, v62, v63, v64, v65, v66, v67, v68, v69, v70, v71, v72, v73, v74, v75, v76, v77, v78, v79, v80, v81, v82, v83, v84, v85, v86, v87, v88, v89, v90, v91, v92, v93, v94, v95, v96, v97, v98, v99, v100, v101, v102, v103, v104, v105, v106, v107, v108, v109, v110, v111, v112, v113, v114, v115, v116, v117, v118, v119, v120, v121, v122, v123, v124, v125, v126, v127, v128, v129, v130, v131, v132, v133, v134, v135, v136, v137, v138, v139, v140, v141, v142, v143, v144, v145, v146, v147, v148, v149, v150, v151, v152, v153, v154, v155, v156, v157, v158, v159, v160, v161, v162, v163, v164, v165, v166, v167, v168, v169, v170, v171, v172, v173, v174, v175, v176, v177, v178, v179, v180, v181, v182, v183, v184, v185, v186, v187, v188, v189, v190, v191, v192, v193, v194, v195, v196, v197, v198, v199, v200, v201, v202, v203, v204, v205, v206, v207, v208], []⟩ w := by
  have kw0 : IntKind.i64.wrap 0 = 0 := by decide
  have kw1 : IntKind.i64.wrap 1 = 1 := by decide
  have kw2 : IntKind.i64.wrap 2 = 2 := by decide
  have kw3 : IntKind.i64.wrap 3 = 3 := by decide
  have kw4 : IntKind.i64.wrap 4 = 4 := by decide
  conv => arg 2; whnf
  by_cases hm9 : m0 = 0
  · subst hm9
    (try simp only [nsl, Value.cells, unB] at st)
    (try clear hc); have hc := st.facts; (try simp only [nfl, nft, Nat.reduceAdd] at hc)
    go_wp2_with fail
    conv => arg 2; whnf
    go_wp2_with fail
    have st2 := st.keep [0, 1, 2, 3, 4, 5, 6, 7, 8, 9] (by decide) (by simp)
    simp only [pick, List.map_cons, List.map_nil, List.getElem?_cons_zero, List.getElem?_cons_succ, Option.getD_some] at st2
    clear st
    have st := st2
    clear st2
    exact ⟨s0, s1, g0, g1, nx0, nx1, gt0, gt1, lf0, lf1, tk0, tk1, ln0, lc0, ln1, lc1, 0, c0, m1, c1, wd0, wd1, la0, la1, f0, f1, L0, L1, ys0, ys1, ps, by omega, HNX, HPH, HLQ, HFQ, HLM, st⟩
  have hmne : ¬ (m0 : Int) = 0 := by omega
  have hmb : ((m0 : Int) == 0) = false := by simp; omega
  obtain ⟨q, hq9, hqm⟩ : ∃ q : Nat, IntKind.i64.wrap (Int.tmod (IntKind.u64.wrap xx) (m0 : Int)) = (q : Int) ∧ q < m0 := ⟨(IntKind.u64.wrap xx % (m0 : Int)).toNat, by
    have h1 : 0 ≤ IntKind.u64.wrap xx := by rw [wrap_u64]; exact Int.emod_nonneg _ (by decide)
    have h2 := Int.emod_nonneg (IntKind.u64.wrap xx) (b := (m0 : Int)) (by omega)
    have h3 := Int.emod_lt_of_pos (IntKind.u64.wrap xx) (b := (m0 : Int)) (by omega)
    rw [Int.tmod_eq_emod_of_nonneg h1, IntWalk.i64_in _ ⟨by omega, by omega⟩]
    omega, by
    have h2 := Int.emod_nonneg (IntKind.u64.wrap xx) (b := (m0 : Int)) (by omega)
    have h3 := Int.emod_lt_of_pos (IntKind.u64.wrap xx) (b := (m0 : Int)) (by omega)
    omega⟩
  have hum : IntKind.u64.wrap (m0 : Int) = (m0 : Int) := by rw [wrap_u64]; exact Int.emod_eq_of_lt (by omega) (by omega)
  have hyl : q < ys0.length := by have := (rowFl' (α := ByT) st (i := 7) get7).2.1; omega
  obtain ⟨y, hy⟩ : ∃ y, ys0[q]? = some y := ⟨_, List.getElem?_eq_getElem hyl⟩
  obtain ⟨hyp, jj, hjj, hyx⟩ := HFQ.out.1 y (List.mem_of_getElem? hy)
  obtain ⟨fb, fo, hfb, _⟩ := st.rowBy1 (i := 7) get7 hy
  subst hfb
  obtain ⟨v, hv⟩ : ∃ v, 2 * jj + 2 = v := ⟨_, rfl⟩
  rw [hv] at hyx
  obtain ⟨E, hE9⟩ : ∃ E, frE v = E := ⟨_, rfl⟩
  have HRR : Hid (mgR (mg0 5 0 E []) = true) := Lib.hid (by rw [← hE9]; exact frE_R _)
  have hyx2 : y.xs = frM v 5 E := by rw [hyx]; unfold frq; rw [hE9]
  have HYC := Lib.hid (st.bys (i := 9) get9 y hyp).1
  replace st := st.bysOne (i := 9) get9 hyp
  simp only [List.cons_append, List.nil_append] at st
  rw [hyx2] at st
  have HY := Lib.hid hy
  obtain ⟨ya, yn, yc, yx⟩ := y
  simp only at st HYC
  have HV := Lib.hid hv
  have HJJ := Lib.hid hjj
  have HEE := Lib.hid hE9
  have hv1 : 1 ≤ v ∧ v ≤ 1000000 := by have := HPH.out.le; omega
  clear hyl hy hyp hjj hyx hv hE9 hyx2
  (try simp only [nsl, Value.cells, unB] at st)
  (try clear hc); have hc := st.facts; (try simp only [nfl, nft, Nat.reduceAdd] at hc)
  go_wp2_with fail
  conv => arg 2; whnf
  (try simp only [nsl, Value.cells, unB] at st)
  (try clear hc); have hc := st.facts; (try simp only [nfl, nft, Nat.reduceAdd] at hc)
  go_wp2_with fail
  by_cases hnew : nx0 = v ∧ wd0 = false
  · obtain ⟨h1, h2⟩ := hnew
    subst h1 h2
    have HG := Lib.hid (HPH.out.got0 HJJ.out (by have h1 := HV.out; have h2 := HNX.out; omega))
    obtain ⟨v, hvv⟩ : ∃ v, nx0 = v := ⟨_, rfl⟩
    rw [hvv] at HV HEE HNX hv1 st
    have hgj : jj = g0 := HG.out.1
    obtain ⟨r9, hr9, hr99⟩ : ∃ r : Nat, Int.tmod (2 * (g0 : Int) + 1) 99 = (r : Int) ∧ r = (v - 1) % 99 := ⟨(2 * g0 + 1) % 99, by rw [Int.tmod_eq_emod_of_nonneg (by omega)]; omega, by have := HV.out; congr 1; omega⟩
    have hz1 : IntKind.i64.wrap (2 * (g0 : Int)) = 2 * (g0 : Int) := IntWalk.i64_in _ ⟨by omega, by omega⟩
    have hz2 : IntKind.i64.wrap (2 * (g0 : Int) + 1) = 2 * (g0 : Int) + 1 := IntWalk.i64_in _ ⟨by omega, by omega⟩
    have hz5 : IntKind.i64.wrap (2 * (g0 : Int) + 1 - 1) = 2 * (g0 : Int) := by rw [show (2 * (g0 : Int) + 1 - 1) = 2 * (g0 : Int) by omega]; exact hz1
    have hz3 : IntKind.i64.wrap (1 + (r9 : Int)) = E := by rw [← HEE.out]; unfold frE; rw [← hr99]; exact IntWalk.i64_in _ ⟨by omega, by omega⟩
    have hz4 : IntKind.i64.wrap ((g0 : Int) + 1) = (g0 : Int) + 1 := IntWalk.i64_in _ ⟨by omega, by omega⟩
    clear hr99 hgj hvv
    refine Rg4.wp_region8_eq #[0, 1, 3, 0, 8, 24, 0, 64, 192, 0, 512, 1536, 3584, 7680, 16320, 32704, 65528, 131064, 262143, 524287, 1048575, 1048575, 0, 6291455, 16777215] [18, 22, 23] [] (fun W' => Blk W' b3 [.pointer (some ⟨p0, 0, none⟩), .pointer (some ⟨p1, 0, none⟩)] ∧ Blk W' b4 [.slice (some ⟨fb, fo, none⟩) m0 c0, .slice f1 m1 c1] ∧ Blk W' b8 [.int .i64 xk, .int .i64 xx] ∧ W'.cell? ⟨fb, fo + q, none⟩ = some (.slice ya yn yc)) [0, 1, 2, 3, 4, 5, 6, 7, 8, 9, 10, 11, 12, 13, 14, 15, 16, 17] 18 22 [19, 20, 21, 22, 23, 24] [18, 19, 20, 21, 23, 24] (by kernel_rfl) (by rfl) (by rfl) (by kernel_rfl) (by kernel_rfl) (by kernel_rfl) (show Rg4.PB _ by repeat (first | with_reducible exact Rg4.pb_body | with_reducible exact Rg4.pb_bodyD rfl | with_reducible refine Rg4.pb_then ?_ | with_reducible refine Rg4.pb_inBlock ?_ | with_reducible refine Rg4.pb_noGoto ?_ | with_reducible assumption)) (⟨st.drew.blk (i := 1) get1, st.drew.blk (i := 2) get2, st.drew.blk (i := 10) get10, st.drew.rowBy2 (i := 7) get7 HY.out⟩) ?_
    replace st := st.drew
    change Rg4.wp5 _ _ _ _ _ _ _ _ _ _ (World.drew _) _ _
    generalize World.drew _ = w at st ⊢
    (try clear hc); have hc := st.facts; (try simp only [nfl, nft, Nat.reduceAdd] at hc)
    iterate 2 (refine Rg4.w5_any (Rg4.want_none rfl) rfl ?_; apply Exists.intro; refine ⟨fun w' => ?_, ?_⟩; (focus (first | (go_simp; done) | (go_simp; first | rfl | (rw [if_neg] <;> first | rfl | omega) | (rw [if_pos] <;> first | rfl | omega)))); (try simp only [Rg4.nrm]))
    (refine Rg4.w5_cl (Rg4.want_none rfl) rfl ?_; apply Exists.intro; refine ⟨fun w' hcl => ?_, ?_⟩; (focus (obtain ⟨e1, e2, e3, e4⟩ := hcl; have q0 := Blk.cell e1 0; have q1 := Blk.cell e2 0; have q2 := Blk.cell e3 1; (try simp at q0 q1 q2); (focus (first | (go_simp; done) | (go_simp; first | rfl | (rw [if_neg] <;> first | rfl | omega) | (rw [if_pos] <;> first | rfl | omega)))))); (try simp only [Rg4.nrm]))
    iterate 2 (refine Rg4.w5_any (Rg4.want_none rfl) rfl ?_; apply Exists.intro; refine ⟨fun w' => ?_, ?_⟩; (focus (first | (go_simp; done) | (go_simp; first | rfl | (rw [if_neg] <;> first | rfl | omega) | (rw [if_pos] <;> first | rfl | omega)))); (try simp only [Rg4.nrm]))
    (refine Rg4.w5_cl (Rg4.want_none rfl) rfl ?_; apply Exists.intro; refine ⟨fun w' hcl => ?_, ?_⟩; (focus (obtain ⟨e1, e2, e3, e4⟩ := hcl; have q0 := Blk.cell e1 0; have q1 := Blk.cell e2 0; have q2 := Blk.cell e3 1; (try simp at q0 q1 q2); (focus (first | (go_simp; done) | (go_simp; first | rfl | (rw [if_neg] <;> first | rfl | omega) | (rw [if_pos] <;> first | rfl | omega)))))); (try simp only [Rg4.nrm]))
    (refine Rg4.w5_any (Rg4.want_none rfl) rfl ?_; apply Exists.intro; refine ⟨fun w' => ?_, ?_⟩; (focus (first | (go_simp; done) | (go_simp; first | rfl | (rw [if_neg] <;> first | rfl | omega) | (rw [if_pos] <;> first | rfl | omega)))); (try simp only [Rg4.nrm]))
    (refine Rg4.w5_cl (Rg4.want_none rfl) rfl ?_; apply Exists.intro; refine ⟨fun w' hcl => ?_, ?_⟩; (focus (obtain ⟨e1, e2, e3, e4⟩ := hcl; have q0 := Blk.cell e1 0; have q1 := Blk.cell e2 0; have q2 := Blk.cell e3 1; (try simp at q0 q1 q2); (focus (first | (go_simp; done) | (go_simp; first | rfl | (rw [if_neg] <;> first | rfl | omega) | (rw [if_pos] <;> first | rfl | omega)))))); (try simp only [Rg4.nrm]))
    iterate 3 (refine Rg4.w5_any (Rg4.want_none rfl) rfl ?_; apply Exists.intro; refine ⟨fun w' => ?_, ?_⟩; (focus (first | (go_simp; done) | (go_simp; first | rfl | (rw [if_neg] <;> first | rfl | omega) | (rw [if_pos] <;> first | rfl | omega)))); (try simp only [Rg4.nrm]))
    (refine Rg4.w5_cl (Rg4.want_none rfl) rfl ?_; apply Exists.intro; refine ⟨fun w' hcl => ?_, ?_⟩; (focus (obtain ⟨e1, e2, e3, e4⟩ := hcl; have q0 := Blk.cell e1 0; have q1 := Blk.cell e2 0; have q2 := Blk.cell e3 1; (try simp at q0 q1 q2); (focus (first | (go_simp; done) | (go_simp; first | rfl | (rw [if_neg] <;> first | rfl | omega) | (rw [if_pos] <;> first | rfl | omega)))))); (try simp only [Rg4.nrm]))
    iterate 5 (refine Rg4.w5_any (Rg4.want_none rfl) rfl ?_; apply Exists.intro; refine ⟨fun w' => ?_, ?_⟩; (focus (first | (go_simp; done) | (go_simp; first | rfl | (rw [if_neg] <;> first | rfl | omega) | (rw [if_pos] <;> first | rfl | omega)))); (try simp only [Rg4.nrm]))
    (refine Rg4.w5_cl (Rg4.want_none rfl) rfl ?_; apply Exists.intro; refine ⟨fun w' hcl => ?_, ?_⟩; (focus (obtain ⟨e1, e2, e3, e4⟩ := hcl; have q0 := Blk.cell e1 0; have q1 := Blk.cell e2 0; have q2 := Blk.cell e3 1; (try simp at q0 q1 q2); (focus (first | (go_simp; done) | (go_simp; first | rfl | (rw [if_neg] <;> first | rfl | omega) | (rw [if_pos] <;> first | rfl | omega)))))); (try simp only [Rg4.nrm]))
    refine Rg4.w5_end ?_
    refine ⟨?_, ?_⟩
    · skip

      refine Rg4.w4_bar (Rg4.want_none rfl) rfl (fun w' hw' hcl _ K hK => ?_)
      subst hw'
      go_wp2_with fail
      obtain ⟨fr', al', st', back⟩ := st.sub [5, 11] (by decide) (by simp)
      (try simp only [nsl, Value.cells, unB] at st')
      refine (seqGot_new (v := v) (k := 5) (e := E) st' HRR.out hv1.1 hv1.2 HYC.out).mono ?_
      clear st'
      rintro en w ⟨wa, wc, sa, sc, rfl, st'⟩
      replace st := back _ _ (by simp) st'
      clear back st'
      (try simp only [nsl, Value.cells, unB] at st)
      (try clear hc); have hc := st.facts; (try simp only [nfl, nft, Nat.reduceAdd] at hc)
      refine hK _ _ ⟨⟨st.blk (i := 1) get1, st.blk (i := 2) get2, st.blk (i := 10) get10, st.rowBy2 (i := 7) get7 HY.out⟩, ?_⟩
      clear hK
      (try simp only [Rg4.nrm])
      iterate 3 (refine Rg4.w4_any (Rg4.want_none rfl) rfl ?_; apply Exists.intro; refine ⟨fun w' => ?_, ?_⟩; (focus (first | (go_simp; done) | (go_simp; first | rfl | (rw [if_neg] <;> first | rfl | omega) | (rw [if_pos] <;> first | rfl | omega)))); (try simp only [Rg4.nrm]))
      (refine Rg4.w4_bar (Rg4.want_none rfl) rfl (fun w' hw' hcl' _ K hK => ?_); subst hw'; (refine owp_alloc (o := ⟨some 15, _, _, _, _, _⟩) rfl st ?_; apply Exists.intro; apply Exists.intro; refine ⟨?_, ?_⟩; (focus (first | (go_simp; done) | (go_simp; rfl))); (clear st; intro b15 w hb st; clear hb); (try simp only [nsl, Value.cells, unB] at st); (try clear hc); have hc := st.facts; (try simp only [nfl, nft, Nat.reduceAdd] at hc)); refine hK _ _ ⟨⟨st.blk (i := 1) get1, st.blk (i := 2) get2, st.blk (i := 10) get10, st.rowBy2 (i := 7) get7 HY.out⟩, ?_⟩; (try simp only [Rg4.nrm]))
      (refine Rg4.w4_bar (Rg4.want_none rfl) rfl (fun w' hw' hcl' _ K hK => ?_); subst hw'; (refine owp_store rfl st ?_; apply Exists.intro; apply Exists.intro; refine ⟨?_, ?_, ?_⟩; (focus (go_simp; try rfl)); (focus (go_simp; try rfl)); (first | (with_reducible refine ⟨0, _, _, _, _, get0, rfl, rfl, ?_, ?_, ?_, ?_⟩) | (with_reducible refine ⟨1, _, _, _, _, get1, rfl, rfl, ?_, ?_, ?_, ?_⟩) | (with_reducible refine ⟨2, _, _, _, _, get2, rfl, rfl, ?_, ?_, ?_, ?_⟩) | (with_reducible refine ⟨3, _, _, _, _, get3, rfl, rfl, ?_, ?_, ?_, ?_⟩) | (with_reducible refine ⟨4, _, _, _, _, get4, rfl, rfl, ?_, ?_, ?_, ?_⟩) | (with_reducible refine ⟨5, _, _, _, _, get5, rfl, rfl, ?_, ?_, ?_, ?_⟩) | (with_reducible refine ⟨6, _, _, _, _, get6, rfl, rfl, ?_, ?_, ?_, ?_⟩) | (with_reducible refine ⟨7, _, _, _, _, get7, rfl, rfl, ?_, ?_, ?_, ?_⟩) | (with_reducible refine ⟨8, _, _, _, _, get8, rfl, rfl, ?_, ?_, ?_, ?_⟩) | (with_reducible refine ⟨9, _, _, _, _, get9, rfl, rfl, ?_, ?_, ?_, ?_⟩) | (with_reducible refine ⟨10, _, _, _, _, get10, rfl, rfl, ?_, ?_, ?_, ?_⟩) | (with_reducible refine ⟨11, _, _, _, _, get11, rfl, rfl, ?_, ?_, ?_, ?_⟩) | (with_reducible refine ⟨12, _, _, _, _, get12, rfl, rfl, ?_, ?_, ?_, ?_⟩)); (kernel_rfl); (simp [Value.cells]); (rfl); (clear st; intro w st); (try simp only [nsl, Value.cells, unB] at st); (try clear hc); have hc := st.facts; (try simp only [nfl, nft, Nat.reduceAdd] at hc)); refine hK _ _ ⟨⟨st.blk (i := 1) get1, st.blk (i := 2) get2, st.blk (i := 10) get10, st.rowBy2 (i := 7) get7 HY.out⟩, ?_⟩; (try simp only [Rg4.nrm]))
      (refine Rg4.w4_any (Rg4.want_none rfl) rfl ?_; apply Exists.intro; refine ⟨fun w' => ?_, ?_⟩; (focus (first | (go_simp; done) | (go_simp; first | rfl | (rw [if_neg] <;> first | rfl | omega) | (rw [if_pos] <;> first | rfl | omega)))); (try simp only [Rg4.nrm]))
      refine Rg4.w4_nil (fun w' hw' hcl' _ => ?_); subst hw'; clear hcl'
      go_wp2_with fail
      refine Rg4.wp_region4_eq #[0, 1, 0, 4, 12, 28, 60, 0, 252, 508, 1020, 2047] [] [1, 4] (fun _ => True) [0, 1, 2, 3, 4, 5, 6, 7, 8, 9, 10, 11] (by kernel_rfl) (by kernel_rfl) (by kernel_rfl) (by kernel_rfl) (show Rg4.PB _ by repeat (first | with_reducible exact Rg4.pb_body | with_reducible exact Rg4.pb_bodyD rfl | with_reducible refine Rg4.pb_then ?_ | with_reducible refine Rg4.pb_inBlock ?_ | with_reducible refine Rg4.pb_noGoto ?_ | with_reducible assumption)) (trivial) ?_
      replace st := st.drew
      change Rg4.wp4 _ _ _ _ _ _ _ _ _ (World.drew _) _ _
      generalize World.drew _ = w at st ⊢
      (try clear hc); have hc := st.facts; (try simp only [nfl, nft, Nat.reduceAdd] at hc)
      (refine Rg4.w4_any (Rg4.want_none rfl) rfl ?_; apply Exists.intro; refine ⟨fun w' => ?_, ?_⟩; (focus (first | (go_simp; done) | (go_simp; first | rfl | (rw [if_neg] <;> first | rfl | omega) | (rw [if_pos] <;> first | rfl | omega)))); (try simp only [Rg4.nrm]))
      (refine Rg4.w4_read (Rg4.want_none rfl) rfl rfl ?_; apply Exists.intro; refine ⟨fun w' hw' hcl' => ?_, ?_⟩; focus (subst hw'; (focus (first | (go_simp; done) | (go_simp; first | rfl | (rw [if_neg] <;> first | rfl | omega) | (rw [if_pos] <;> first | rfl | omega))))); (try simp only [Rg4.nrm]))
      iterate 2 (refine Rg4.w4_any (Rg4.want_none rfl) rfl ?_; apply Exists.intro; refine ⟨fun w' => ?_, ?_⟩; (focus (first | (go_simp; done) | (go_simp; first | rfl | (rw [if_neg] <;> first | rfl | omega) | (rw [if_pos] <;> first | rfl | omega)))); (try simp only [Rg4.nrm]))
      (refine Rg4.w4_read (Rg4.want_none rfl) rfl rfl ?_; apply Exists.intro; refine ⟨fun w' hw' hcl' => ?_, ?_⟩; focus (subst hw'; (focus (first | (go_simp; done) | (go_simp; first | rfl | (rw [if_neg] <;> first | rfl | omega) | (rw [if_pos] <;> first | rfl | omega))))); (try simp only [Rg4.nrm]))
      iterate 7 (refine Rg4.w4_any (Rg4.want_none rfl) rfl ?_; apply Exists.intro; refine ⟨fun w' => ?_, ?_⟩; (focus (first | (go_simp; done) | (go_simp; first | rfl | (rw [if_neg] <;> first | rfl | omega) | (rw [if_pos] <;> first | rfl | omega)))); (try simp only [Rg4.nrm]))
      refine Rg4.w4_nil (fun w' hw' hcl' _ => ?_); subst hw'; clear hcl'
      (try simp only [nsl, Value.cells, unB] at st)
      (try clear hc); have hc := st.facts; (try simp only [nfl, nft, Nat.reduceAdd] at hc)
      go_wp2_with ((((with_reducible refine wl_store ?_ (fun K hK => ?_)); rfl; refine owp_store rfl st ?_; apply Exists.intro; apply Exists.intro; refine ⟨?_, ?_, ?_⟩; (focus (go_simp; try rfl)); (focus (go_simp; try rfl)); (first | (with_reducible refine ⟨0, _, _, _, _, get0, rfl, rfl, ?_, ?_, ?_, ?_⟩) | (with_reducible refine ⟨1, _, _, _, _, get1, rfl, rfl, ?_, ?_, ?_, ?_⟩) | (with_reducible refine ⟨2, _, _, _, _, get2, rfl, rfl, ?_, ?_, ?_, ?_⟩) | (with_reducible refine ⟨3, _, _, _, _, get3, rfl, rfl, ?_, ?_, ?_, ?_⟩) | (with_reducible refine ⟨4, _, _, _, _, get4, rfl, rfl, ?_, ?_, ?_, ?_⟩) | (with_reducible refine ⟨5, _, _, _, _, get5, rfl, rfl, ?_, ?_, ?_, ?_⟩) | (with_reducible refine ⟨6, _, _, _, _, get6, rfl, rfl, ?_, ?_, ?_, ?_⟩) | (with_reducible refine ⟨7, _, _, _, _, get7, rfl, rfl, ?_, ?_, ?_, ?_⟩) | (with_reducible refine ⟨8, _, _, _, _, get8, rfl, rfl, ?_, ?_, ?_, ?_⟩) | (with_reducible refine ⟨9, _, _, _, _, get9, rfl, rfl, ?_, ?_, ?_, ?_⟩) | (with_reducible refine ⟨10, _, _, _, _, get10, rfl, rfl, ?_, ?_, ?_, ?_⟩) | (with_reducible refine ⟨11, _, _, _, _, get11, rfl, rfl, ?_, ?_, ?_, ?_⟩) | (with_reducible refine ⟨12, _, _, _, _, get12, rfl, rfl, ?_, ?_, ?_, ?_⟩)); (kernel_rfl); (simp [Value.cells]); (rfl); (clear st; intro w st))); (try simp only [nsl, Value.cells, unB] at st); (try clear hc); have hc := st.facts; (try simp only [nfl, nft, Nat.reduceAdd] at hc))
      have st2 := st.keep [0, 1, 2, 3, 4, 5, 6, 7, 8, 9] (by decide) (by simp)
      simp only [pick, List.map_cons, List.map_nil, List.getElem?_cons_zero, List.getElem?_cons_succ, Option.getD_some] at st2
      clear st
      have st := st2
      clear st2

      have hcv : ((v : Int) + 1) = ((v + 1 : Nat) : Int) := by omega
      have hcg : ((g0 : Int) + 1) = ((g0 + 1 : Nat) : Int) := by omega
      rw [hcv, hcg] at st
      exact ⟨s0, s1, g0 + 1, g1, v + 1, nx1, v, gt1, lf0, lf1, tk0, tk1, ln0, lc0, ln1, lc1, m0, c0, m1, c1, true, wd1, la0, la1, some ⟨fb, fo, none⟩, f1, L0, L1, ys0, ys1, ps, by omega, Lib.hid (by have h1 := HNX.out; have h2 := HG.out.1; have h3 := HV.out; omega), Lib.hid HG.out.2, HLQ, HFQ, HLM, st⟩
    · skip
      (refine Rg4.w4_bar (Rg4.want_none rfl) rfl (fun w' hw' hcl' _ K hK => ?_); subst hw'; (refine owp_alloc (o := ⟨some 15, _, _, _, _, _⟩) rfl st ?_; apply Exists.intro; apply Exists.intro; refine ⟨?_, ?_⟩; (focus (first | (go_simp; done) | (go_simp; rfl))); (clear st; intro b15 w hb st; clear hb); (try simp only [nsl, Value.cells, unB] at st); (try clear hc); have hc := st.facts; (try simp only [nfl, nft, Nat.reduceAdd] at hc)); refine hK _ _ ⟨⟨st.blk (i := 1) get1, st.blk (i := 2) get2, st.blk (i := 10) get10, st.rowBy2 (i := 7) get7 HY.out⟩, ?_⟩; (try simp only [Rg4.nrm]))
      refine Rg4.w4_bar (Rg4.want_none rfl) rfl (fun w' hw' hcl _ K hK => ?_)
      subst hw'
      go_wp2_with fail
      obtain ⟨fr', al', st', back⟩ := st.sub [5, 11] (by decide) (by simp)
      (try simp only [nsl, Value.cells, unB] at st')
      refine (seqGot_new (v := v) (k := 5) (e := E) st' HRR.out hv1.1 hv1.2 HYC.out).mono ?_
      clear st'
      rintro en w ⟨wa, wc, sa, sc, rfl, st'⟩
      replace st := back _ _ (by simp) st'
      clear back st'
      (try simp only [nsl, Value.cells, unB] at st)
      (try clear hc); have hc := st.facts; (try simp only [nfl, nft, Nat.reduceAdd] at hc)
      refine hK _ _ ⟨⟨st.blk (i := 1) get1, st.blk (i := 2) get2, st.blk (i := 10) get10, st.rowBy2 (i := 7) get7 HY.out⟩, ?_⟩
      clear hK
      (try simp only [Rg4.nrm])
      iterate 3 (refine Rg4.w4_any (Rg4.want_none rfl) rfl ?_; apply Exists.intro; refine ⟨fun w' => ?_, ?_⟩; (focus (first | (go_simp; done) | (go_simp; first | rfl | (rw [if_neg] <;> first | rfl | omega) | (rw [if_pos] <;> first | rfl | omega)))); (try simp only [Rg4.nrm]))
      (refine Rg4.w4_bar (Rg4.want_none rfl) rfl (fun w' hw' hcl' _ K hK => ?_); subst hw'; (refine owp_store rfl st ?_; apply Exists.intro; apply Exists.intro; refine ⟨?_, ?_, ?_⟩; (focus (go_simp; try rfl)); (focus (go_simp; try rfl)); (first | (with_reducible refine ⟨0, _, _, _, _, get0, rfl, rfl, ?_, ?_, ?_, ?_⟩) | (with_reducible refine ⟨1, _, _, _, _, get1, rfl, rfl, ?_, ?_, ?_, ?_⟩) | (with_reducible refine ⟨2, _, _, _, _, get2, rfl, rfl, ?_, ?_, ?_, ?_⟩) | (with_reducible refine ⟨3, _, _, _, _, get3, rfl, rfl, ?_, ?_, ?_, ?_⟩) | (with_reducible refine ⟨4, _, _, _, _, get4, rfl, rfl, ?_, ?_, ?_, ?_⟩) | (with_reducible refine ⟨5, _, _, _, _, get5, rfl, rfl, ?_, ?_, ?_, ?_⟩) | (with_reducible refine ⟨6, _, _, _, _, get6, rfl, rfl, ?_, ?_, ?_, ?_⟩) | (with_reducible refine ⟨7, _, _, _, _, get7, rfl, rfl, ?_, ?_, ?_, ?_⟩) | (with_reducible refine ⟨8, _, _, _, _, get8, rfl, rfl, ?_, ?_, ?_, ?_⟩) | (with_reducible refine ⟨9, _, _, _, _, get9, rfl, rfl, ?_, ?_, ?_, ?_⟩) | (with_reducible refine ⟨10, _, _, _, _, get10, rfl, rfl, ?_, ?_, ?_, ?_⟩) | (with_reducible refine ⟨11, _, _, _, _, get11, rfl, rfl, ?_, ?_, ?_, ?_⟩) | (with_reducible refine ⟨12, _, _, _, _, get12, rfl, rfl, ?_, ?_, ?_, ?_⟩)); (kernel_rfl); (simp [Value.cells]); (rfl); (clear st; intro w st); (try simp only [nsl, Value.cells, unB] at st); (try clear hc); have hc := st.facts; (try simp only [nfl, nft, Nat.reduceAdd] at hc)); refine hK _ _ ⟨⟨st.blk (i := 1) get1, st.blk (i := 2) get2, st.blk (i := 10) get10, st.rowBy2 (i := 7) get7 HY.out⟩, ?_⟩; (try simp only [Rg4.nrm]))
      (refine Rg4.w4_any (Rg4.want_none rfl) rfl ?_; apply Exists.intro; refine ⟨fun w' => ?_, ?_⟩; (focus (first | (go_simp; done) | (go_simp; first | rfl | (rw [if_neg] <;> first | rfl | omega) | (rw [if_pos] <;> first | rfl | omega)))); (try simp only [Rg4.nrm]))
      refine Rg4.w4_nil (fun w' hw' hcl' _ => ?_); subst hw'; clear hcl'
      go_wp2_with fail
      refine Rg4.wp_region4_eq #[0, 1, 0, 4, 12, 28, 60, 0, 252, 508, 1020, 2047] [] [1, 4] (fun _ => True) [0, 1, 2, 3, 4, 5, 6, 7, 8, 9, 10, 11] (by kernel_rfl) (by kernel_rfl) (by kernel_rfl) (by kernel_rfl) (show Rg4.PB _ by repeat (first | with_reducible exact Rg4.pb_body | with_reducible exact Rg4.pb_bodyD rfl | with_reducible refine Rg4.pb_then ?_ | with_reducible refine Rg4.pb_inBlock ?_ | with_reducible refine Rg4.pb_noGoto ?_ | with_reducible assumption)) (trivial) ?_
      replace st := st.drew
      change Rg4.wp4 _ _ _ _ _ _ _ _ _ (World.drew _) _ _
      generalize World.drew _ = w at st ⊢
      (try clear hc); have hc := st.facts; (try simp only [nfl, nft, Nat.reduceAdd] at hc)
      (refine Rg4.w4_any (Rg4.want_none rfl) rfl ?_; apply Exists.intro; refine ⟨fun w' => ?_, ?_⟩; (focus (first | (go_simp; done) | (go_simp; first | rfl | (rw [if_neg] <;> first | rfl | omega) | (rw [if_pos] <;> first | rfl | omega)))); (try simp only [Rg4.nrm]))
      (refine Rg4.w4_read (Rg4.want_none rfl) rfl rfl ?_; apply Exists.intro; refine ⟨fun w' hw' hcl' => ?_, ?_⟩; focus (subst hw'; (focus (first | (go_simp; done) | (go_simp; first | rfl | (rw [if_neg] <;> first | rfl | omega) | (rw [if_pos] <;> first | rfl | omega))))); (try simp only [Rg4.nrm]))
      iterate 2 (refine Rg4.w4_any (Rg4.want_none rfl) rfl ?_; apply Exists.intro; refine ⟨fun w' => ?_, ?_⟩; (focus (first | (go_simp; done) | (go_simp; first | rfl | (rw [if_neg] <;> first | rfl | omega) | (rw [if_pos] <;> first | rfl | omega)))); (try simp only [Rg4.nrm]))
      (refine Rg4.w4_read (Rg4.want_none rfl) rfl rfl ?_; apply Exists.intro; refine ⟨fun w' hw' hcl' => ?_, ?_⟩; focus (subst hw'; (focus (first | (go_simp; done) | (go_simp; first | rfl | (rw [if_neg] <;> first | rfl | omega) | (rw [if_pos] <;> first | rfl | omega))))); (try simp only [Rg4.nrm]))
      iterate 7 (refine Rg4.w4_any (Rg4.want_none rfl) rfl ?_; apply Exists.intro; refine ⟨fun w' => ?_, ?_⟩; (focus (first | (go_simp; done) | (go_simp; first | rfl | (rw [if_neg] <;> first | rfl | omega) | (rw [if_pos] <;> first | rfl | omega)))); (try simp only [Rg4.nrm]))
      refine Rg4.w4_nil (fun w' hw' hcl' _ => ?_); subst hw'; clear hcl'
      (try simp only [nsl, Value.cells, unB] at st)
      (try clear hc); have hc := st.facts; (try simp only [nfl, nft, Nat.reduceAdd] at hc)
      go_wp2_with ((((with_reducible refine wl_store ?_ (fun K hK => ?_)); rfl; refine owp_store rfl st ?_; apply Exists.intro; apply Exists.intro; refine ⟨?_, ?_, ?_⟩; (focus (go_simp; try rfl)); (focus (go_simp; try rfl)); (first | (with_reducible refine ⟨0, _, _, _, _, get0, rfl, rfl, ?_, ?_, ?_, ?_⟩) | (with_reducible refine ⟨1, _, _, _, _, get1, rfl, rfl, ?_, ?_, ?_, ?_⟩) | (with_reducible refine ⟨2, _, _, _, _, get2, rfl, rfl, ?_, ?_, ?_, ?_⟩) | (with_reducible refine ⟨3, _, _, _, _, get3, rfl, rfl, ?_, ?_, ?_, ?_⟩) | (with_reducible refine ⟨4, _, _, _, _, get4, rfl, rfl, ?_, ?_, ?_, ?_⟩) | (with_reducible refine ⟨5, _, _, _, _, get5, rfl, rfl, ?_, ?_, ?_, ?_⟩) | (with_reducible refine ⟨6, _, _, _, _, get6, rfl, rfl, ?_, ?_, ?_, ?_⟩) | (with_reducible refine ⟨7, _, _, _, _, get7, rfl, rfl, ?_, ?_, ?_, ?_⟩) | (with_reducible refine ⟨8, _, _, _, _, get8, rfl, rfl, ?_, ?_, ?_, ?_⟩) | (with_reducible refine ⟨9, _, _, _, _, get9, rfl, rfl, ?_, ?_, ?_, ?_⟩) | (with_reducible refine ⟨10, _, _, _, _, get10, rfl, rfl, ?_, ?_, ?_, ?_⟩) | (with_reducible refine ⟨11, _, _, _, _, get11, rfl, rfl, ?_, ?_, ?_, ?_⟩) | (with_reducible refine ⟨12, _, _, _, _, get12, rfl, rfl, ?_, ?_, ?_, ?_⟩)); (kernel_rfl); (simp [Value.cells]); (rfl); (clear st; intro w st))); (try simp only [nsl, Value.cells, unB] at st); (try clear hc); have hc := st.facts; (try simp only [nfl, nft, Nat.reduceAdd] at hc))
      have st2 := st.keep [0, 1, 2, 3, 4, 5, 6, 7, 8, 9] (by decide) (by simp)
      simp only [pick, List.map_cons, List.map_nil, List.getElem?_cons_zero, List.getElem?_cons_succ, Option.getD_some] at st2
      clear st
      have st := st2
      clear st2

      have hcv : ((v : Int) + 1) = ((v + 1 : Nat) : Int) := by omega
      have hcg : ((g0 : Int) + 1) = ((g0 + 1 : Nat) : Int) := by omega
      rw [hcv, hcg] at st
      exact ⟨s0, s1, g0 + 1, g1, v + 1, nx1, v, gt1, lf0, lf1, tk0, tk1, ln0, lc0, ln1, lc1, m0, c0, m1, c1, true, wd1, la0, la1, some ⟨fb, fo, none⟩, f1, L0, L1, ys0, ys1, ps, by omega, Lib.hid (by have h1 := HNX.out; have h2 := HG.out.1; have h3 := HV.out; omega), Lib.hid HG.out.2, HLQ, HFQ, HLM, st⟩
  · have hno : v ≠ nx0 ∨ wd0 = true := by
      by_cases q9 : v = nx0
      · right
        cases hw9 : wd0 with
        | true => rfl
        | false => exact absurd ⟨q9.symm, hw9⟩ hnew
      · exact .inl q9
    have HNO := Lib.hid hno
    clear hno hnew
    by_cases hgt : v = gt0
    · have HGT := Lib.hid hgt
      clear hgt
      refine Rg4.wp_region8_eq #[0, 1, 3, 0, 8, 24, 0, 64, 192, 0, 512, 1536, 3584, 7680, 16320, 32704, 65528, 131064, 262143, 524287, 1048575, 1048575, 0, 6291455, 16777215] [18, 22, 23] [] (fun W' => Blk W' b3 [.pointer (some ⟨p0, 0, none⟩), .pointer (some ⟨p1, 0, none⟩)] ∧ Blk W' b4 [.slice (some ⟨fb, fo, none⟩) m0 c0, .slice f1 m1 c1] ∧ Blk W' b8 [.int .i64 xk, .int .i64 xx] ∧ W'.cell? ⟨fb, fo + q, none⟩ = some (.slice ya yn yc)) [0, 1, 2, 3, 4, 5, 6, 7, 8, 9, 10, 11, 12, 13, 14, 15, 16, 17] 18 22 [19, 20, 21, 22, 23, 24] [18, 19, 20, 21, 23, 24] (by kernel_rfl) (by rfl) (by rfl) (by kernel_rfl) (by kernel_rfl) (by kernel_rfl) (show Rg4.PB _ by repeat (first | with_reducible exact Rg4.pb_body | with_reducible exact Rg4.pb_bodyD rfl | with_reducible refine Rg4.pb_then ?_ | with_reducible refine Rg4.pb_inBlock ?_ | with_reducible refine Rg4.pb_noGoto ?_ | with_reducible assumption)) (⟨st.drew.blk (i := 1) get1, st.drew.blk (i := 2) get2, st.drew.blk (i := 10) get10, st.drew.rowBy2 (i := 7) get7 HY.out⟩) ?_
      replace st := st.drew
      change Rg4.wp5 _ _ _ _ _ _ _ _ _ _ (World.drew _) _ _
      generalize World.drew _ = w at st ⊢
      (try clear hc); have hc := st.facts; (try simp only [nfl, nft, Nat.reduceAdd] at hc)
      iterate 2 (refine Rg4.w5_any (Rg4.want_none rfl) rfl ?_; apply Exists.intro; refine ⟨fun w' => ?_, ?_⟩; (focus (first | (go_simp; done) | (go_simp; first | rfl | (rw [if_neg] <;> first | rfl | omega) | (rw [if_pos] <;> first | rfl | omega)))); (try simp only [Rg4.nrm]))
      (refine Rg4.w5_cl (Rg4.want_none rfl) rfl ?_; apply Exists.intro; refine ⟨fun w' hcl => ?_, ?_⟩; (focus (obtain ⟨e1, e2, e3, e4⟩ := hcl; have q0 := Blk.cell e1 0; have q1 := Blk.cell e2 0; have q2 := Blk.cell e3 1; (try simp at q0 q1 q2); (focus (first | (go_simp; done) | (go_simp; first | rfl | (rw [if_neg] <;> first | rfl | omega) | (rw [if_pos] <;> first | rfl | omega)))))); (try simp only [Rg4.nrm]))
      iterate 2 (refine Rg4.w5_any (Rg4.want_none rfl) rfl ?_; apply Exists.intro; refine ⟨fun w' => ?_, ?_⟩; (focus (first | (go_simp; done) | (go_simp; first | rfl | (rw [if_neg] <;> first | rfl | omega) | (rw [if_pos] <;> first | rfl | omega)))); (try simp only [Rg4.nrm]))
      (refine Rg4.w5_cl (Rg4.want_none rfl) rfl ?_; apply Exists.intro; refine ⟨fun w' hcl => ?_, ?_⟩; (focus (obtain ⟨e1, e2, e3, e4⟩ := hcl; have q0 := Blk.cell e1 0; have q1 := Blk.cell e2 0; have q2 := Blk.cell e3 1; (try simp at q0 q1 q2); (focus (first | (go_simp; done) | (go_simp; first | rfl | (rw [if_neg] <;> first | rfl | omega) | (rw [if_pos] <;> first | rfl | omega)))))); (try simp only [Rg4.nrm]))
      (refine Rg4.w5_any (Rg4.want_none rfl) rfl ?_; apply Exists.intro; refine ⟨fun w' => ?_, ?_⟩; (focus (first | (go_simp; done) | (go_simp; first | rfl | (rw [if_neg] <;> first | rfl | omega) | (rw [if_pos] <;> first | rfl | omega)))); (try simp only [Rg4.nrm]))
      (refine Rg4.w5_cl (Rg4.want_none rfl) rfl ?_; apply Exists.intro; refine ⟨fun w' hcl => ?_, ?_⟩; (focus (obtain ⟨e1, e2, e3, e4⟩ := hcl; have q0 := Blk.cell e1 0; have q1 := Blk.cell e2 0; have q2 := Blk.cell e3 1; (try simp at q0 q1 q2); (focus (first | (go_simp; done) | (go_simp; first | rfl | (rw [if_neg] <;> first | rfl | omega) | (rw [if_pos] <;> first | rfl | omega)))))); (try simp only [Rg4.nrm]))
      iterate 3 (refine Rg4.w5_any (Rg4.want_none rfl) rfl ?_; apply Exists.intro; refine ⟨fun w' => ?_, ?_⟩; (focus (first | (go_simp; done) | (go_simp; first | rfl | (rw [if_neg] <;> first | rfl | omega) | (rw [if_pos] <;> first | rfl | omega)))); (try simp only [Rg4.nrm]))
      (refine Rg4.w5_cl (Rg4.want_none rfl) rfl ?_; apply Exists.intro; refine ⟨fun w' hcl => ?_, ?_⟩; (focus (obtain ⟨e1, e2, e3, e4⟩ := hcl; have q0 := Blk.cell e1 0; have q1 := Blk.cell e2 0; have q2 := Blk.cell e3 1; (try simp at q0 q1 q2); (focus (first | (go_simp; done) | (go_simp; first | rfl | (rw [if_neg] <;> first | rfl | omega) | (rw [if_pos] <;> first | rfl | omega)))))); (try simp only [Rg4.nrm]))
      iterate 5 (refine Rg4.w5_any (Rg4.want_none rfl) rfl ?_; apply Exists.intro; refine ⟨fun w' => ?_, ?_⟩; (focus (first | (go_simp; done) | (go_simp; first | rfl | (rw [if_neg] <;> first | rfl | omega) | (rw [if_pos] <;> first | rfl | omega)))); (try simp only [Rg4.nrm]))
      (refine Rg4.w5_cl (Rg4.want_none rfl) rfl ?_; apply Exists.intro; refine ⟨fun w' hcl => ?_, ?_⟩; (focus (obtain ⟨e1, e2, e3, e4⟩ := hcl; have q0 := Blk.cell e1 0; have q1 := Blk.cell e2 0; have q2 := Blk.cell e3 1; (try simp at q0 q1 q2); (focus (first | (go_simp; done) | (go_simp; first | rfl | (rw [if_neg] <;> first | rfl | omega) | (rw [if_pos] <;> first | rfl | omega)))))); (try simp only [Rg4.nrm]))
      refine Rg4.w5_end ?_
      refine ⟨?_, ?_⟩
      · skip

        refine Rg4.w4_bar (Rg4.want_none rfl) rfl (fun w' hw' hcl _ K hK => ?_)
        subst hw'
        go_wp2_with fail
        obtain ⟨fr', al', st', back⟩ := st.sub [5, 11] (by decide) (by simp)
        (try simp only [nsl, Value.cells, unB] at st')
        refine (seqGot_old (v := v) (nx := nx0) (gt := gt0) (k := 5) (e := E) (what := 2) st' HRR.out hv1.1 hv1.2 HYC.out HNO.out (.inl ⟨HGT.out, rfl⟩)).mono ?_
        clear st'
        rintro en w ⟨rfl, st'⟩
        replace st := back _ _ (by simp) st'
        clear back st'
        (try simp only [nsl, Value.cells, unB] at st)
        (try clear hc); have hc := st.facts; (try simp only [nfl, nft, Nat.reduceAdd] at hc)
        refine hK _ _ ⟨⟨st.blk (i := 1) get1, st.blk (i := 2) get2, st.blk (i := 10) get10, st.rowBy2 (i := 7) get7 HY.out⟩, ?_⟩
        clear hK
        (try simp only [Rg4.nrm])
        iterate 3 (refine Rg4.w4_any (Rg4.want_none rfl) rfl ?_; apply Exists.intro; refine ⟨fun w' => ?_, ?_⟩; (focus (first | (go_simp; done) | (go_simp; first | rfl | (rw [if_neg] <;> first | rfl | omega) | (rw [if_pos] <;> first | rfl | omega)))); (try simp only [Rg4.nrm]))
        (refine Rg4.w4_bar (Rg4.want_none rfl) rfl (fun w' hw' hcl' _ K hK => ?_); subst hw'; (refine owp_alloc (o := ⟨some 15, _, _, _, _, _⟩) rfl st ?_; apply Exists.intro; apply Exists.intro; refine ⟨?_, ?_⟩; (focus (first | (go_simp; done) | (go_simp; rfl))); (clear st; intro b15 w hb st; clear hb); (try simp only [nsl, Value.cells, unB] at st); (try clear hc); have hc := st.facts; (try simp only [nfl, nft, Nat.reduceAdd] at hc)); refine hK _ _ ⟨⟨st.blk (i := 1) get1, st.blk (i := 2) get2, st.blk (i := 10) get10, st.rowBy2 (i := 7) get7 HY.out⟩, ?_⟩; (try simp only [Rg4.nrm]))
        (refine Rg4.w4_bar (Rg4.want_none rfl) rfl (fun w' hw' hcl' _ K hK => ?_); subst hw'; (refine owp_store rfl st ?_; apply Exists.intro; apply Exists.intro; refine ⟨?_, ?_, ?_⟩; (focus (go_simp; try rfl)); (focus (go_simp; try rfl)); (first | (with_reducible refine ⟨0, _, _, _, _, get0, rfl, rfl, ?_, ?_, ?_, ?_⟩) | (with_reducible refine ⟨1, _, _, _, _, get1, rfl, rfl, ?_, ?_, ?_, ?_⟩) | (with_reducible refine ⟨2, _, _, _, _, get2, rfl, rfl, ?_, ?_, ?_, ?_⟩) | (with_reducible refine ⟨3, _, _, _, _, get3, rfl, rfl, ?_, ?_, ?_, ?_⟩) | (with_reducible refine ⟨4, _, _, _, _, get4, rfl, rfl, ?_, ?_, ?_, ?_⟩) | (with_reducible refine ⟨5, _, _, _, _, get5, rfl, rfl, ?_, ?_, ?_, ?_⟩) | (with_reducible refine ⟨6, _, _, _, _, get6, rfl, rfl, ?_, ?_, ?_, ?_⟩) | (with_reducible refine ⟨7, _, _, _, _, get7, rfl, rfl, ?_, ?_, ?_, ?_⟩) | (with_reducible refine ⟨8, _, _, _, _, get8, rfl, rfl, ?_, ?_, ?_, ?_⟩) | (with_reducible refine ⟨9, _, _, _, _, get9, rfl, rfl, ?_, ?_, ?_, ?_⟩) | (with_reducible refine ⟨10, _, _, _, _, get10, rfl, rfl, ?_, ?_, ?_, ?_⟩) | (with_reducible refine ⟨11, _, _, _, _, get11, rfl, rfl, ?_, ?_, ?_, ?_⟩) | (with_reducible refine ⟨12, _, _, _, _, get12, rfl, rfl, ?_, ?_, ?_, ?_⟩)); (kernel_rfl); (simp [Value.cells]); (rfl); (clear st; intro w st); (try simp only [nsl, Value.cells, unB] at st); (try clear hc); have hc := st.facts; (try simp only [nfl, nft, Nat.reduceAdd] at hc)); refine hK _ _ ⟨⟨st.blk (i := 1) get1, st.blk (i := 2) get2, st.blk (i := 10) get10, st.rowBy2 (i := 7) get7 HY.out⟩, ?_⟩; (try simp only [Rg4.nrm]))
        (refine Rg4.w4_any (Rg4.want_none rfl) rfl ?_; apply Exists.intro; refine ⟨fun w' => ?_, ?_⟩; (focus (first | (go_simp; done) | (go_simp; first | rfl | (rw [if_neg] <;> first | rfl | omega) | (rw [if_pos] <;> first | rfl | omega)))); (try simp only [Rg4.nrm]))
        refine Rg4.w4_nil (fun w' hw' hcl' _ => ?_); subst hw'; clear hcl'
        have st2 := st.keep [0, 1, 2, 3, 4, 5, 6, 7, 8, 9] (by decide) (by simp)
        simp only [pick, List.map_cons, List.map_nil, List.getElem?_cons_zero, List.getElem?_cons_succ, Option.getD_some] at st2
        clear st
        have st := st2
        clear st2


        have hbl := st.bys (i := 9) get9 _ HLM.out.1
        have HLC := Lib.hid hbl.1
        have HLE : Hid (L0.length = ln0) := Lib.hid hbl.2.1.symm
        have hl5 : ln0 ≤ 5000 := by have h1 := HLQ.out.1.len; have h2 := HLE.out; omega
        replace st := st.bysOne (i := 9) get9 HLM.out.1
        simp only [List.cons_append, List.nil_append] at st HLC
        clear hbl

        (try simp only [nsl, Value.cells, unB] at st)
        (try clear hc); have hc := st.facts; (try simp only [nfl, nft, Nat.reduceAdd] at hc)
        go_wp2_with ((first
              | ((with_reducible refine wl_store ?_ (fun K hK => ?_)); rfl; refine owp_store rfl st ?_; apply Exists.intro; apply Exists.intro; refine ⟨?_, ?_, ?_⟩; (focus (go_simp; try rfl)); (focus (go_simp; try rfl)); (first | (with_reducible refine ⟨0, _, _, _, _, get0, rfl, rfl, ?_, ?_, ?_, ?_⟩) | (with_reducible refine ⟨1, _, _, _, _, get1, rfl, rfl, ?_, ?_, ?_, ?_⟩) | (with_reducible refine ⟨2, _, _, _, _, get2, rfl, rfl, ?_, ?_, ?_, ?_⟩) | (with_reducible refine ⟨3, _, _, _, _, get3, rfl, rfl, ?_, ?_, ?_, ?_⟩) | (with_reducible refine ⟨4, _, _, _, _, get4, rfl, rfl, ?_, ?_, ?_, ?_⟩) | (with_reducible refine ⟨5, _, _, _, _, get5, rfl, rfl, ?_, ?_, ?_, ?_⟩) | (with_reducible refine ⟨6, _, _, _, _, get6, rfl, rfl, ?_, ?_, ?_, ?_⟩) | (with_reducible refine ⟨7, _, _, _, _, get7, rfl, rfl, ?_, ?_, ?_, ?_⟩) | (with_reducible refine ⟨8, _, _, _, _, get8, rfl, rfl, ?_, ?_, ?_, ?_⟩) | (with_reducible refine ⟨9, _, _, _, _, get9, rfl, rfl, ?_, ?_, ?_, ?_⟩) | (with_reducible refine ⟨10, _, _, _, _, get10, rfl, rfl, ?_, ?_, ?_, ?_⟩) | (with_reducible refine ⟨11, _, _, _, _, get11, rfl, rfl, ?_, ?_, ?_, ?_⟩) | (with_reducible refine ⟨12, _, _, _, _, get12, rfl, rfl, ?_, ?_, ?_, ?_⟩)); (kernel_rfl); (simp [Value.cells]); (rfl); (clear st; intro w st))
              | ((with_reducible refine wl_buildSlice ?_ (fun K hK => ?_)); rfl; refine owp_buildSlice (o := ⟨some 182, _, _, _, _, _⟩) rfl st ?_; apply Exists.intro; apply Exists.intro; apply Exists.intro; apply Exists.intro; refine ⟨?_, ?_⟩; (focus (go_simp; (first | done | exact ⟨⟨rfl, rfl⟩, rfl⟩ | rfl))); (clear st; intro b182 w hb st; clear hb))); (try simp only [nsl, Value.cells, unB] at st); (try clear hc); have hc := st.facts; (try simp only [nfl, nft, Nat.reduceAdd] at hc))
        by_cases ha : 0 < ln0 ∧ 0 < lf0
        · skip
          obtain ⟨fr', al', st', back⟩ := st.sub [5, 10] (by decide) (by simp)
          (try simp only [nsl, Value.cells, unB] at st')
          refine (seqAgain_yes st' HLC.out hl5 ha.1 ha.2 (by omega)).mono ?_
          clear st'
          rintro en w ⟨xa, xc, rfl, hq, st'⟩
          replace st := back _ _ (by simp) st'
          clear back st'
          (try simp only [nsl, Value.cells, unB] at st)
          (try clear hc); have hc := st.facts; (try simp only [nfl, nft, Nat.reduceAdd] at hc)
          have HXC := Lib.hid hq
          clear hq
          have hcv : ((lf0 : Int) - 1) = ((lf0 - 1 : Nat) : Int) := by omega
          rw [hcv] at st
          have hx0 : L0.length = ln0 := HLE.out
          rw [hx0] at HXC st ⊢
          (try simp only [nsl, Value.cells, unB] at st)
          (try clear hc); have hc := st.facts; (try simp only [nfl, nft, Nat.reduceAdd] at hc)
          go_wp2_with (first
              | ((with_reducible refine wl_append ?_ (fun K hK => ?_)); (rfl); (obtain ⟨inf, hinf, hz0, hz1, hz2⟩ := bysInfo); (refine owp_append rfl st 8 get8 Try.underlying29 hinf hz0 hz1 hz2 rfl (by decide) rfl rfl ((st.blk (i := 12) get12).flat rfl) (by first | exact cellsL_all _ | simp [Value.oneCell']) (by simp only [maxLen]; omega) (by omega) ?_); (clear hinf hz0 hz1 hz2 inf); (clear st; intro v' w st); (obtain ⟨va', vc', rfl⟩ := own_slice (st.row (i := 8) get8)); (try simp only [nsl, Value.cells, unB] at st); (try simp only [Nat.zero_add] at st); (try clear hc); have hc := st.facts; (try simp only [nfl, nft, Nat.reduceAdd] at hc))
              | ((first
                | ((with_reducible refine wl_store ?_ (fun K hK => ?_)); rfl; refine owp_store rfl st ?_; apply Exists.intro; apply Exists.intro; refine ⟨?_, ?_, ?_⟩; (focus (go_simp; try rfl)); (focus (go_simp; try rfl)); (first | (with_reducible refine ⟨0, _, _, _, _, get0, rfl, rfl, ?_, ?_, ?_, ?_⟩) | (with_reducible refine ⟨1, _, _, _, _, get1, rfl, rfl, ?_, ?_, ?_, ?_⟩) | (with_reducible refine ⟨2, _, _, _, _, get2, rfl, rfl, ?_, ?_, ?_, ?_⟩) | (with_reducible refine ⟨3, _, _, _, _, get3, rfl, rfl, ?_, ?_, ?_, ?_⟩) | (with_reducible refine ⟨4, _, _, _, _, get4, rfl, rfl, ?_, ?_, ?_, ?_⟩) | (with_reducible refine ⟨5, _, _, _, _, get5, rfl, rfl, ?_, ?_, ?_, ?_⟩) | (with_reducible refine ⟨6, _, _, _, _, get6, rfl, rfl, ?_, ?_, ?_, ?_⟩) | (with_reducible refine ⟨7, _, _, _, _, get7, rfl, rfl, ?_, ?_, ?_, ?_⟩) | (with_reducible refine ⟨8, _, _, _, _, get8, rfl, rfl, ?_, ?_, ?_, ?_⟩) | (with_reducible refine ⟨9, _, _, _, _, get9, rfl, rfl, ?_, ?_, ?_, ?_⟩) | (with_reducible refine ⟨10, _, _, _, _, get10, rfl, rfl, ?_, ?_, ?_, ?_⟩) | (with_reducible refine ⟨11, _, _, _, _, get11, rfl, rfl, ?_, ?_, ?_, ?_⟩) | (with_reducible refine ⟨12, _, _, _, _, get12, rfl, rfl, ?_, ?_, ?_, ?_⟩)); (kernel_rfl); (simp [Value.cells]); (rfl); (clear st; intro w st))
                | ((with_reducible refine wl_buildSlice ?_ (fun K hK => ?_)); rfl; refine owp_buildSlice (o := ⟨some 182, _, _, _, _, _⟩) rfl st ?_; apply Exists.intro; apply Exists.intro; apply Exists.intro; apply Exists.intro; refine ⟨?_, ?_⟩; (focus (go_simp; (first | done | exact ⟨⟨rfl, rfl⟩, rfl⟩ | rfl))); (clear st; intro b182 w hb st; clear hb))); (try simp only [nsl, Value.cells, unB] at st); (try clear hc); have hc := st.facts; (try simp only [nfl, nft, Nat.reduceAdd] at hc)))
          replace st := st.bysMore (i := 9) (j := 11) get9 get11 HXC.out
          simp only [List.cons_append, List.nil_append] at st
          have st2 := st.keep [0, 1, 2, 3, 4, 5, 6, 7, 8, 13] (by decide) (by simp)
          simp only [pick, List.map_cons, List.map_nil, List.getElem?_cons_zero, List.getElem?_cons_succ, Option.getD_some] at st2
          clear st
          have st := st2
          clear st2
          have hmem : ∀ x ∈ ps, x ∈ ps ++ [(⟨xa, ln0, xc, L0⟩ : ByT)] := fun x hx => List.mem_append_left _ hx
          refine ⟨s0, s1, g0, g1, nx0, nx1, gt0, gt1, lf0 - 1, lf1, 0, tk1, ln0, lc0, ln1, lc1, m0, c0, m1 + 1, vc', wd0, wd1, la0, la1, some ⟨fb, fo, none⟩, va', L0, L1, ys0, ys1 ++ [⟨xa, ln0, xc, L0⟩], ps ++ [(⟨xa, ln0, xc, L0⟩ : ByT)], by omega, HNX, HPH, HLQ, ?_, Lib.hid ⟨hmem _ HLM.out.1, hmem _ HLM.out.2⟩, ?_⟩
          · obtain ⟨h1, h2⟩ : 0 < s0 ∧ L0 = frq (2 * s0 - 1) := (HLQ.out.1).elim (fun q => absurd q.2 (by omega)) id
            have he : L0 = frq (2 * (s0 - 1) + 1) := by rw [h2]; congr 1; omega
            refine Lib.hid ⟨HFQ.out.1.more (Nat.le_refl _) hmem, FlewQ.put (HFQ.out.2.more (Nat.le_refl _) hmem) (List.mem_append_right _ (List.mem_singleton.2 rfl)) (show s0 - 1 < s0 by omega) he⟩
          · rw [cellsL_append, show cellsL [(⟨xa, ln0, xc, L0⟩ : ByT)] = [.slice xa ln0 xc] from rfl]
            exact st
        · skip
          obtain ⟨fr', al', st', back⟩ := st.sub [5, 10] (by decide) (by simp)
          (try simp only [nsl, Value.cells, unB] at st')
          refine (seqAgain_no st' (by omega)).mono ?_
          clear st'
          rintro en w ⟨rfl, st'⟩
          replace st := back _ _ (by simp) st'
          clear back st'
          (try simp only [nsl, Value.cells, unB] at st)
          (try clear hc); have hc := st.facts; (try simp only [nfl, nft, Nat.reduceAdd] at hc)
          go_wp2_with fail
          have st2 := st.keep [0, 1, 2, 3, 4, 5, 6, 7, 8, 9] (by decide) (by simp)
          simp only [pick, List.map_cons, List.map_nil, List.getElem?_cons_zero, List.getElem?_cons_succ, Option.getD_some] at st2
          clear st
          have st := st2
          clear st2
          exact ⟨s0, s1, g0, g1, nx0, nx1, gt0, gt1, lf0, lf1, tk0, tk1, ln0, lc0, ln1, lc1, m0, c0, m1, c1, wd0, wd1, la0, la1, some ⟨fb, fo, none⟩, f1, L0, L1, ys0, ys1, ps, by omega, HNX, HPH, HLQ, HFQ, HLM, st⟩
      · skip
        (refine Rg4.w4_bar (Rg4.want_none rfl) rfl (fun w' hw' hcl' _ K hK => ?_); subst hw'; (refine owp_alloc (o := ⟨some 15, _, _, _, _, _⟩) rfl st ?_; apply Exists.intro; apply Exists.intro; refine ⟨?_, ?_⟩; (focus (first | (go_simp; done) | (go_simp; rfl))); (clear st; intro b15 w hb st; clear hb); (try simp only [nsl, Value.cells, unB] at st); (try clear hc); have hc := st.facts; (try simp only [nfl, nft, Nat.reduceAdd] at hc)); refine hK _ _ ⟨⟨st.blk (i := 1) get1, st.blk (i := 2) get2, st.blk (i := 10) get10, st.rowBy2 (i := 7) get7 HY.out⟩, ?_⟩; (try simp only [Rg4.nrm]))
        refine Rg4.w4_bar (Rg4.want_none rfl) rfl (fun w' hw' hcl _ K hK => ?_)
        subst hw'
        go_wp2_with fail
        obtain ⟨fr', al', st', back⟩ := st.sub [5, 11] (by decide) (by simp)
        (try simp only [nsl, Value.cells, unB] at st')
        refine (seqGot_old (v := v) (nx := nx0) (gt := gt0) (k := 5) (e := E) (what := 2) st' HRR.out hv1.1 hv1.2 HYC.out HNO.out (.inl ⟨HGT.out, rfl⟩)).mono ?_
        clear st'
        rintro en w ⟨rfl, st'⟩
        replace st := back _ _ (by simp) st'
        clear back st'
        (try simp only [nsl, Value.cells, unB] at st)
        (try clear hc); have hc := st.facts; (try simp only [nfl, nft, Nat.reduceAdd] at hc)
        refine hK _ _ ⟨⟨st.blk (i := 1) get1, st.blk (i := 2) get2, st.blk (i := 10) get10, st.rowBy2 (i := 7) get7 HY.out⟩, ?_⟩
        clear hK
        (try simp only [Rg4.nrm])
        iterate 3 (refine Rg4.w4_any (Rg4.want_none rfl) rfl ?_; apply Exists.intro; refine ⟨fun w' => ?_, ?_⟩; (focus (first | (go_simp; done) | (go_simp; first | rfl | (rw [if_neg] <;> first | rfl | omega) | (rw [if_pos] <;> first | rfl | omega)))); (try simp only [Rg4.nrm]))
        (refine Rg4.w4_bar (Rg4.want_none rfl) rfl (fun w' hw' hcl' _ K hK => ?_); subst hw'; (refine owp_store rfl st ?_; apply Exists.intro; apply Exists.intro; refine ⟨?_, ?_, ?_⟩; (focus (go_simp; try rfl)); (focus (go_simp; try rfl)); (first | (with_reducible refine ⟨0, _, _, _, _, get0, rfl, rfl, ?_, ?_, ?_, ?_⟩) | (with_reducible refine ⟨1, _, _, _, _, get1, rfl, rfl, ?_, ?_, ?_, ?_⟩) | (with_reducible refine ⟨2, _, _, _, _, get2, rfl, rfl, ?_, ?_, ?_, ?_⟩) | (with_reducible refine ⟨3, _, _, _, _, get3, rfl, rfl, ?_, ?_, ?_, ?_⟩) | (with_reducible refine ⟨4, _, _, _, _, get4, rfl, rfl, ?_, ?_, ?_, ?_⟩) | (with_reducible refine ⟨5, _, _, _, _, get5, rfl, rfl, ?_, ?_, ?_, ?_⟩) | (with_reducible refine ⟨6, _, _, _, _, get6, rfl, rfl, ?_, ?_, ?_, ?_⟩) | (with_reducible refine ⟨7, _, _, _, _, get7, rfl, rfl, ?_, ?_, ?_, ?_⟩) | (with_reducible refine ⟨8, _, _, _, _, get8, rfl, rfl, ?_, ?_, ?_, ?_⟩) | (with_reducible refine ⟨9, _, _, _, _, get9, rfl, rfl, ?_, ?_, ?_, ?_⟩) | (with_reducible refine ⟨10, _, _, _, _, get10, rfl, rfl, ?_, ?_, ?_, ?_⟩) | (with_reducible refine ⟨11, _, _, _, _, get11, rfl, rfl, ?_, ?_, ?_, ?_⟩) | (with_reducible refine ⟨12, _, _, _, _, get12, rfl, rfl, ?_, ?_, ?_, ?_⟩)); (kernel_rfl); (simp [Value.cells]); (rfl); (clear st; intro w st); (try simp only [nsl, Value.cells, unB] at st); (try clear hc); have hc := st.facts; (try simp only [nfl, nft, Nat.reduceAdd] at hc)); refine hK _ _ ⟨⟨st.blk (i := 1) get1, st.blk (i := 2) get2, st.blk (i := 10) get10, st.rowBy2 (i := 7) get7 HY.out⟩, ?_⟩; (try simp only [Rg4.nrm]))
        (refine Rg4.w4_any (Rg4.want_none rfl) rfl ?_; apply Exists.intro; refine ⟨fun w' => ?_, ?_⟩; (focus (first | (go_simp; done) | (go_simp; first | rfl | (rw [if_neg] <;> first | rfl | omega) | (rw [if_pos] <;> first | rfl | omega)))); (try simp only [Rg4.nrm]))
        refine Rg4.w4_nil (fun w' hw' hcl' _ => ?_); subst hw'; clear hcl'
        have st2 := st.keep [0, 1, 2, 3, 4, 5, 6, 7, 8, 9] (by decide) (by simp)
        simp only [pick, List.map_cons, List.map_nil, List.getElem?_cons_zero, List.getElem?_cons_succ, Option.getD_some] at st2
        clear st
        have st := st2
        clear st2


        have hbl := st.bys (i := 9) get9 _ HLM.out.1
        have HLC := Lib.hid hbl.1
        have HLE : Hid (L0.length = ln0) := Lib.hid hbl.2.1.symm
        have hl5 : ln0 ≤ 5000 := by have h1 := HLQ.out.1.len; have h2 := HLE.out; omega
        replace st := st.bysOne (i := 9) get9 HLM.out.1
        simp only [List.cons_append, List.nil_append] at st HLC
        clear hbl

        (try simp only [nsl, Value.cells, unB] at st)
        (try clear hc); have hc := st.facts; (try simp only [nfl, nft, Nat.reduceAdd] at hc)
        go_wp2_with ((first
              | ((with_reducible refine wl_store ?_ (fun K hK => ?_)); rfl; refine owp_store rfl st ?_; apply Exists.intro; apply Exists.intro; refine ⟨?_, ?_, ?_⟩; (focus (go_simp; try rfl)); (focus (go_simp; try rfl)); (first | (with_reducible refine ⟨0, _, _, _, _, get0, rfl, rfl, ?_, ?_, ?_, ?_⟩) | (with_reducible refine ⟨1, _, _, _, _, get1, rfl, rfl, ?_, ?_, ?_, ?_⟩) | (with_reducible refine ⟨2, _, _, _, _, get2, rfl, rfl, ?_, ?_, ?_, ?_⟩) | (with_reducible refine ⟨3, _, _, _, _, get3, rfl, rfl, ?_, ?_, ?_, ?_⟩) | (with_reducible refine ⟨4, _, _, _, _, get4, rfl, rfl, ?_, ?_, ?_, ?_⟩) | (with_reducible refine ⟨5, _, _, _, _, get5, rfl, rfl, ?_, ?_, ?_, ?_⟩) | (with_reducible refine ⟨6, _, _, _, _, get6, rfl, rfl, ?_, ?_, ?_, ?_⟩) | (with_reducible refine ⟨7, _, _, _, _, get7, rfl, rfl, ?_, ?_, ?_, ?_⟩) | (with_reducible refine ⟨8, _, _, _, _, get8, rfl, rfl, ?_, ?_, ?_, ?_⟩) | (with_reducible refine ⟨9, _, _, _, _, get9, rfl, rfl, ?_, ?_, ?_, ?_⟩) | (with_reducible refine ⟨10, _, _, _, _, get10, rfl, rfl, ?_, ?_, ?_, ?_⟩) | (with_reducible refine ⟨11, _, _, _, _, get11, rfl, rfl, ?_, ?_, ?_, ?_⟩) | (with_reducible refine ⟨12, _, _, _, _, get12, rfl, rfl, ?_, ?_, ?_, ?_⟩)); (kernel_rfl); (simp [Value.cells]); (rfl); (clear st; intro w st))
              | ((with_reducible refine wl_buildSlice ?_ (fun K hK => ?_)); rfl; refine owp_buildSlice (o := ⟨some 182, _, _, _, _, _⟩) rfl st ?_; apply Exists.intro; apply Exists.intro; apply Exists.intro; apply Exists.intro; refine ⟨?_, ?_⟩; (focus (go_simp; (first | done | exact ⟨⟨rfl, rfl⟩, rfl⟩ | rfl))); (clear st; intro b182 w hb st; clear hb))); (try simp only [nsl, Value.cells, unB] at st); (try clear hc); have hc := st.facts; (try simp only [nfl, nft, Nat.reduceAdd] at hc))
        by_cases ha : 0 < ln0 ∧ 0 < lf0
        · skip
          obtain ⟨fr', al', st', back⟩ := st.sub [5, 10] (by decide) (by simp)
          (try simp only [nsl, Value.cells, unB] at st')
          refine (seqAgain_yes st' HLC.out hl5 ha.1 ha.2 (by omega)).mono ?_
          clear st'
          rintro en w ⟨xa, xc, rfl, hq, st'⟩
          replace st := back _ _ (by simp) st'
          clear back st'
          (try simp only [nsl, Value.cells, unB] at st)
          (try clear hc); have hc := st.facts; (try simp only [nfl, nft, Nat.reduceAdd] at hc)
          have HXC := Lib.hid hq
          clear hq
          have hcv : ((lf0 : Int) - 1) = ((lf0 - 1 : Nat) : Int) := by omega
          rw [hcv] at st
          have hx0 : L0.length = ln0 := HLE.out
          rw [hx0] at HXC st ⊢
          (try simp only [nsl, Value.cells, unB] at st)
          (try clear hc); have hc := st.facts; (try simp only [nfl, nft, Nat.reduceAdd] at hc)
          go_wp2_with (first
              | ((with_reducible refine wl_append ?_ (fun K hK => ?_)); (rfl); (obtain ⟨inf, hinf, hz0, hz1, hz2⟩ := bysInfo); (refine owp_append rfl st 8 get8 Try.underlying29 hinf hz0 hz1 hz2 rfl (by decide) rfl rfl ((st.blk (i := 12) get12).flat rfl) (by first | exact cellsL_all _ | simp [Value.oneCell']) (by simp only [maxLen]; omega) (by omega) ?_); (clear hinf hz0 hz1 hz2 inf); (clear st; intro v' w st); (obtain ⟨va', vc', rfl⟩ := own_slice (st.row (i := 8) get8)); (try simp only [nsl, Value.cells, unB] at st); (try simp only [Nat.zero_add] at st); (try clear hc); have hc := st.facts; (try simp only [nfl, nft, Nat.reduceAdd] at hc))
              | ((first
                | ((with_reducible refine wl_store ?_ (fun K hK => ?_)); rfl; refine owp_store rfl st ?_; apply Exists.intro; apply Exists.intro; refine ⟨?_, ?_, ?_⟩; (focus (go_simp; try rfl)); (focus (go_simp; try rfl)); (first | (with_reducible refine ⟨0, _, _, _, _, get0, rfl, rfl, ?_, ?_, ?_, ?_⟩) | (with_reducible refine ⟨1, _, _, _, _, get1, rfl, rfl, ?_, ?_, ?_, ?_⟩) | (with_reducible refine ⟨2, _, _, _, _, get2, rfl, rfl, ?_, ?_, ?_, ?_⟩) | (with_reducible refine ⟨3, _, _, _, _, get3, rfl, rfl, ?_, ?_, ?_, ?_⟩) | (with_reducible refine ⟨4, _, _, _, _, get4, rfl, rfl, ?_, ?_, ?_, ?_⟩) | (with_reducible refine ⟨5, _, _, _, _, get5, rfl, rfl, ?_, ?_, ?_, ?_⟩) | (with_reducible refine ⟨6, _, _, _, _, get6, rfl, rfl, ?_, ?_, ?_, ?_⟩) | (with_reducible refine ⟨7, _, _, _, _, get7, rfl, rfl, ?_, ?_, ?_, ?_⟩) | (with_reducible refine ⟨8, _, _, _, _, get8, rfl, rfl, ?_, ?_, ?_, ?_⟩) | (with_reducible refine ⟨9, _, _, _, _, get9, rfl, rfl, ?_, ?_, ?_, ?_⟩) | (with_reducible refine ⟨10, _, _, _, _, get10, rfl, rfl, ?_, ?_, ?_, ?_⟩) | (with_reducible refine ⟨11, _, _, _, _, get11, rfl, rfl, ?_, ?_, ?_, ?_⟩) | (with_reducible refine ⟨12, _, _, _, _, get12, rfl, rfl, ?_, ?_, ?_, ?_⟩)); (kernel_rfl); (simp [Value.cells]); (rfl); (clear st; intro w st))
                | ((with_reducible refine wl_buildSlice ?_ (fun K hK => ?_)); rfl; refine owp_buildSlice (o := ⟨some 182, _, _, _, _, _⟩) rfl st ?_; apply Exists.intro; apply Exists.intro; apply Exists.intro; apply Exists.intro; refine ⟨?_, ?_⟩; (focus (go_simp; (first | done | exact ⟨⟨rfl, rfl⟩, rfl⟩ | rfl))); (clear st; intro b182 w hb st; clear hb))); (try simp only [nsl, Value.cells, unB] at st); (try clear hc); have hc := st.facts; (try simp only [nfl, nft, Nat.reduceAdd] at hc)))
          replace st := st.bysMore (i := 9) (j := 11) get9 get11 HXC.out
          simp only [List.cons_append, List.nil_append] at st
          have st2 := st.keep [0, 1, 2, 3, 4, 5, 6, 7, 8, 13] (by decide) (by simp)
          simp only [pick, List.map_cons, List.map_nil, List.getElem?_cons_zero, List.getElem?_cons_succ, Option.getD_some] at st2
          clear st
          have st := st2
          clear st2
          have hmem : ∀ x ∈ ps, x ∈ ps ++ [(⟨xa, ln0, xc, L0⟩ : ByT)] := fun x hx => List.mem_append_left _ hx
          refine ⟨s0, s1, g0, g1, nx0, nx1, gt0, gt1, lf0 - 1, lf1, 0, tk1, ln0, lc0, ln1, lc1, m0, c0, m1 + 1, vc', wd0, wd1, la0, la1, some ⟨fb, fo, none⟩, va', L0, L1, ys0, ys1 ++ [⟨xa, ln0, xc, L0⟩], ps ++ [(⟨xa, ln0, xc, L0⟩ : ByT)], by omega, HNX, HPH, HLQ, ?_, Lib.hid ⟨hmem _ HLM.out.1, hmem _ HLM.out.2⟩, ?_⟩
          · obtain ⟨h1, h2⟩ : 0 < s0 ∧ L0 = frq (2 * s0 - 1) := (HLQ.out.1).elim (fun q => absurd q.2 (by omega)) id
            have he : L0 = frq (2 * (s0 - 1) + 1) := by rw [h2]; congr 1; omega
            refine Lib.hid ⟨HFQ.out.1.more (Nat.le_refl _) hmem, FlewQ.put (HFQ.out.2.more (Nat.le_refl _) hmem) (List.mem_append_right _ (List.mem_singleton.2 rfl)) (show s0 - 1 < s0 by omega) he⟩
          · rw [cellsL_append, show cellsL [(⟨xa, ln0, xc, L0⟩ : ByT)] = [.slice xa ln0 xc] from rfl]
            exact st
        · skip
          obtain ⟨fr', al', st', back⟩ := st.sub [5, 10] (by decide) (by simp)
          (try simp only [nsl, Value.cells, unB] at st')
          refine (seqAgain_no st' (by omega)).mono ?_
          clear st'
          rintro en w ⟨rfl, st'⟩
          replace st := back _ _ (by simp) st'
          clear back st'
          (try simp only [nsl, Value.cells, unB] at st)
          (try clear hc); have hc := st.facts; (try simp only [nfl, nft, Nat.reduceAdd] at hc)
          go_wp2_with fail
          have st2 := st.keep [0, 1, 2, 3, 4, 5, 6, 7, 8, 9] (by decide) (by simp)
          simp only [pick, List.map_cons, List.map_nil, List.getElem?_cons_zero, List.getElem?_cons_succ, Option.getD_some] at st2
          clear st
          have st := st2
          clear st2
          exact ⟨s0, s1, g0, g1, nx0, nx1, gt0, gt1, lf0, lf1, tk0, tk1, ln0, lc0, ln1, lc1, m0, c0, m1, c1, wd0, wd1, la0, la1, some ⟨fb, fo, none⟩, f1, L0, L1, ys0, ys1, ps, by omega, HNX, HPH, HLQ, HFQ, HLM, st⟩
    · have HGT := Lib.hid hgt
      clear hgt
      refine Rg4.wp_region8_eq #[0, 1, 3, 0, 8, 24, 0, 64, 192, 0, 512, 1536, 3584, 7680, 16320, 32704, 65528, 131064, 262143, 524287, 1048575, 1048575, 0, 6291455, 16777215] [18, 22, 23] [] (fun W' => Blk W' b3 [.pointer (some ⟨p0, 0, none⟩), .pointer (some ⟨p1, 0, none⟩)] ∧ Blk W' b4 [.slice (some ⟨fb, fo, none⟩) m0 c0, .slice f1 m1 c1] ∧ Blk W' b8 [.int .i64 xk, .int .i64 xx] ∧ W'.cell? ⟨fb, fo + q, none⟩ = some (.slice ya yn yc)) [0, 1, 2, 3, 4, 5, 6, 7, 8, 9, 10, 11, 12, 13, 14, 15, 16, 17] 18 22 [19, 20, 21, 22, 23, 24] [18, 19, 20, 21, 23, 24] (by kernel_rfl) (by rfl) (by rfl) (by kernel_rfl) (by kernel_rfl) (by kernel_rfl) (show Rg4.PB _ by repeat (first | with_reducible exact Rg4.pb_body | with_reducible exact Rg4.pb_bodyD rfl | with_reducible refine Rg4.pb_then ?_ | with_reducible refine Rg4.pb_inBlock ?_ | with_reducible refine Rg4.pb_noGoto ?_ | with_reducible assumption)) (⟨st.drew.blk (i := 1) get1, st.drew.blk (i := 2) get2, st.drew.blk (i := 10) get10, st.drew.rowBy2 (i := 7) get7 HY.out⟩) ?_
      replace st := st.drew
      change Rg4.wp5 _ _ _ _ _ _ _ _ _ _ (World.drew _) _ _
      generalize World.drew _ = w at st ⊢
      (try clear hc); have hc := st.facts; (try simp only [nfl, nft, Nat.reduceAdd] at hc)
      iterate 2 (refine Rg4.w5_any (Rg4.want_none rfl) rfl ?_; apply Exists.intro; refine ⟨fun w' => ?_, ?_⟩; (focus (first | (go_simp; done) | (go_simp; first | rfl | (rw [if_neg] <;> first | rfl | omega) | (rw [if_pos] <;> first | rfl | omega)))); (try simp only [Rg4.nrm]))
      (refine Rg4.w5_cl (Rg4.want_none rfl) rfl ?_; apply Exists.intro; refine ⟨fun w' hcl => ?_, ?_⟩; (focus (obtain ⟨e1, e2, e3, e4⟩ := hcl; have q0 := Blk.cell e1 0; have q1 := Blk.cell e2 0; have q2 := Blk.cell e3 1; (try simp at q0 q1 q2); (focus (first | (go_simp; done) | (go_simp; first | rfl | (rw [if_neg] <;> first | rfl | omega) | (rw [if_pos] <;> first | rfl | omega)))))); (try simp only [Rg4.nrm]))
      iterate 2 (refine Rg4.w5_any (Rg4.want_none rfl) rfl ?_; apply Exists.intro; refine ⟨fun w' => ?_, ?_⟩; (focus (first | (go_simp; done) | (go_simp; first | rfl | (rw [if_neg] <;> first | rfl | omega) | (rw [if_pos] <;> first | rfl | omega)))); (try simp only [Rg4.nrm]))
      (refine Rg4.w5_cl (Rg4.want_none rfl) rfl ?_; apply Exists.intro; refine ⟨fun w' hcl => ?_, ?_⟩; (focus (obtain ⟨e1, e2, e3, e4⟩ := hcl; have q0 := Blk.cell e1 0; have q1 := Blk.cell e2 0; have q2 := Blk.cell e3 1; (try simp at q0 q1 q2); (focus (first | (go_simp; done) | (go_simp; first | rfl | (rw [if_neg] <;> first | rfl | omega) | (rw [if_pos] <;> first | rfl | omega)))))); (try simp only [Rg4.nrm]))
      (refine Rg4.w5_any (Rg4.want_none rfl) rfl ?_; apply Exists.intro; refine ⟨fun w' => ?_, ?_⟩; (focus (first | (go_simp; done) | (go_simp; first | rfl | (rw [if_neg] <;> first | rfl | omega) | (rw [if_pos] <;> first | rfl | omega)))); (try simp only [Rg4.nrm]))
      (refine Rg4.w5_cl (Rg4.want_none rfl) rfl ?_; apply Exists.intro; refine ⟨fun w' hcl => ?_, ?_⟩; (focus (obtain ⟨e1, e2, e3, e4⟩ := hcl; have q0 := Blk.cell e1 0; have q1 := Blk.cell e2 0; have q2 := Blk.cell e3 1; (try simp at q0 q1 q2); (focus (first | (go_simp; done) | (go_simp; first | rfl | (rw [if_neg] <;> first | rfl | omega) | (rw [if_pos] <;> first | rfl | omega)))))); (try simp only [Rg4.nrm]))
      iterate 3 (refine Rg4.w5_any (Rg4.want_none rfl) rfl ?_; apply Exists.intro; refine ⟨fun w' => ?_, ?_⟩; (focus (first | (go_simp; done) | (go_simp; first | rfl | (rw [if_neg] <;> first | rfl | omega) | (rw [if_pos] <;> first | rfl | omega)))); (try simp only [Rg4.nrm]))
      (refine Rg4.w5_cl (Rg4.want_none rfl) rfl ?_; apply Exists.intro; refine ⟨fun w' hcl => ?_, ?_⟩; (focus (obtain ⟨e1, e2, e3, e4⟩ := hcl; have q0 := Blk.cell e1 0; have q1 := Blk.cell e2 0; have q2 := Blk.cell e3 1; (try simp at q0 q1 q2); (focus (first | (go_simp; done) | (go_simp; first | rfl | (rw [if_neg] <;> first | rfl | omega) | (rw [if_pos] <;> first | rfl | omega)))))); (try simp only [Rg4.nrm]))
      iterate 5 (refine Rg4.w5_any (Rg4.want_none rfl) rfl ?_; apply Exists.intro; refine ⟨fun w' => ?_, ?_⟩; (focus (first | (go_simp; done) | (go_simp; first | rfl | (rw [if_neg] <;> first | rfl | omega) | (rw [if_pos] <;> first | rfl | omega)))); (try simp only [Rg4.nrm]))
      (refine Rg4.w5_cl (Rg4.want_none rfl) rfl ?_; apply Exists.intro; refine ⟨fun w' hcl => ?_, ?_⟩; (focus (obtain ⟨e1, e2, e3, e4⟩ := hcl; have q0 := Blk.cell e1 0; have q1 := Blk.cell e2 0; have q2 := Blk.cell e3 1; (try simp at q0 q1 q2); (focus (first | (go_simp; done) | (go_simp; first | rfl | (rw [if_neg] <;> first | rfl | omega) | (rw [if_pos] <;> first | rfl | omega)))))); (try simp only [Rg4.nrm]))
      refine Rg4.w5_end ?_
      refine ⟨?_, ?_⟩
      · skip

        refine Rg4.w4_bar (Rg4.want_none rfl) rfl (fun w' hw' hcl _ K hK => ?_)
        subst hw'
        go_wp2_with fail
        obtain ⟨fr', al', st', back⟩ := st.sub [5, 11] (by decide) (by simp)
        (try simp only [nsl, Value.cells, unB] at st')
        refine (seqGot_old (v := v) (nx := nx0) (gt := gt0) (k := 5) (e := E) (what := 0) st' HRR.out hv1.1 hv1.2 HYC.out HNO.out (.inr ⟨HGT.out, rfl⟩)).mono ?_
        clear st'
        rintro en w ⟨rfl, st'⟩
        replace st := back _ _ (by simp) st'
        clear back st'
        (try simp only [nsl, Value.cells, unB] at st)
        (try clear hc); have hc := st.facts; (try simp only [nfl, nft, Nat.reduceAdd] at hc)
        refine hK _ _ ⟨⟨st.blk (i := 1) get1, st.blk (i := 2) get2, st.blk (i := 10) get10, st.rowBy2 (i := 7) get7 HY.out⟩, ?_⟩
        clear hK
        (try simp only [Rg4.nrm])
        iterate 3 (refine Rg4.w4_any (Rg4.want_none rfl) rfl ?_; apply Exists.intro; refine ⟨fun w' => ?_, ?_⟩; (focus (first | (go_simp; done) | (go_simp; first | rfl | (rw [if_neg] <;> first | rfl | omega) | (rw [if_pos] <;> first | rfl | omega)))); (try simp only [Rg4.nrm]))
        (refine Rg4.w4_bar (Rg4.want_none rfl) rfl (fun w' hw' hcl' _ K hK => ?_); subst hw'; (refine owp_alloc (o := ⟨some 15, _, _, _, _, _⟩) rfl st ?_; apply Exists.intro; apply Exists.intro; refine ⟨?_, ?_⟩; (focus (first | (go_simp; done) | (go_simp; rfl))); (clear st; intro b15 w hb st; clear hb); (try simp only [nsl, Value.cells, unB] at st); (try clear hc); have hc := st.facts; (try simp only [nfl, nft, Nat.reduceAdd] at hc)); refine hK _ _ ⟨⟨st.blk (i := 1) get1, st.blk (i := 2) get2, st.blk (i := 10) get10, st.rowBy2 (i := 7) get7 HY.out⟩, ?_⟩; (try simp only [Rg4.nrm]))
        (refine Rg4.w4_bar (Rg4.want_none rfl) rfl (fun w' hw' hcl' _ K hK => ?_); subst hw'; (refine owp_store rfl st ?_; apply Exists.intro; apply Exists.intro; refine ⟨?_, ?_, ?_⟩; (focus (go_simp; try rfl)); (focus (go_simp; try rfl)); (first | (with_reducible refine ⟨0, _, _, _, _, get0, rfl, rfl, ?_, ?_, ?_, ?_⟩) | (with_reducible refine ⟨1, _, _, _, _, get1, rfl, rfl, ?_, ?_, ?_, ?_⟩) | (with_reducible refine ⟨2, _, _, _, _, get2, rfl, rfl, ?_, ?_, ?_, ?_⟩) | (with_reducible refine ⟨3, _, _, _, _, get3, rfl, rfl, ?_, ?_, ?_, ?_⟩) | (with_reducible refine ⟨4, _, _, _, _, get4, rfl, rfl, ?_, ?_, ?_, ?_⟩) | (with_reducible refine ⟨5, _, _, _, _, get5, rfl, rfl, ?_, ?_, ?_, ?_⟩) | (with_reducible refine ⟨6, _, _, _, _, get6, rfl, rfl, ?_, ?_, ?_, ?_⟩) | (with_reducible refine ⟨7, _, _, _, _, get7, rfl, rfl, ?_, ?_, ?_, ?_⟩) | (with_reducible refine ⟨8, _, _, _, _, get8, rfl, rfl, ?_, ?_, ?_, ?_⟩) | (with_reducible refine ⟨9, _, _, _, _, get9, rfl, rfl, ?_, ?_, ?_, ?_⟩) | (with_reducible refine ⟨10, _, _, _, _, get10, rfl, rfl, ?_, ?_, ?_, ?_⟩) | (with_reducible refine ⟨11, _, _, _, _, get11, rfl, rfl, ?_, ?_, ?_, ?_⟩) | (with_reducible refine ⟨12, _, _, _, _, get12, rfl, rfl, ?_, ?_, ?_, ?_⟩)); (kernel_rfl); (simp [Value.cells]); (rfl); (clear st; intro w st); (try simp only [nsl, Value.cells, unB] at st); (try clear hc); have hc := st.facts; (try simp only [nfl, nft, Nat.reduceAdd] at hc)); refine hK _ _ ⟨⟨st.blk (i := 1) get1, st.blk (i := 2) get2, st.blk (i := 10) get10, st.rowBy2 (i := 7) get7 HY.out⟩, ?_⟩; (try simp only [Rg4.nrm]))
        (refine Rg4.w4_any (Rg4.want_none rfl) rfl ?_; apply Exists.intro; refine ⟨fun w' => ?_, ?_⟩; (focus (first | (go_simp; done) | (go_simp; first | rfl | (rw [if_neg] <;> first | rfl | omega) | (rw [if_pos] <;> first | rfl | omega)))); (try simp only [Rg4.nrm]))
        refine Rg4.w4_nil (fun w' hw' hcl' _ => ?_); subst hw'; clear hcl'
        go_wp2_with fail
        have st2 := st.keep [0, 1, 2, 3, 4, 5, 6, 7, 8, 9] (by decide) (by simp)
        simp only [pick, List.map_cons, List.map_nil, List.getElem?_cons_zero, List.getElem?_cons_succ, Option.getD_some] at st2
        clear st
        have st := st2
        clear st2

        exact ⟨s0, s1, g0, g1, nx0, nx1, gt0, gt1, lf0, lf1, tk0, tk1, ln0, lc0, ln1, lc1, m0, c0, m1, c1, wd0, wd1, la0, la1, some ⟨fb, fo, none⟩, f1, L0, L1, ys0, ys1, ps, by omega, HNX, HPH, HLQ, HFQ, HLM, st⟩
      · skip
        (refine Rg4.w4_bar (Rg4.want_none rfl) rfl (fun w' hw' hcl' _ K hK => ?_); subst hw'; (refine owp_alloc (o := ⟨some 15, _, _, _, _, _⟩) rfl st ?_; apply Exists.intro; apply Exists.intro; refine ⟨?_, ?_⟩; (focus (first | (go_simp; done) | (go_simp; rfl))); (clear st; intro b15 w hb st; clear hb); (try simp only [nsl, Value.cells, unB] at st); (try clear hc); have hc := st.facts; (try simp only [nfl, nft, Nat.reduceAdd] at hc)); refine hK _ _ ⟨⟨st.blk (i := 1) get1, st.blk (i := 2) get2, st.blk (i := 10) get10, st.rowBy2 (i := 7) get7 HY.out⟩, ?_⟩; (try simp only [Rg4.nrm]))
        refine Rg4.w4_bar (Rg4.want_none rfl) rfl (fun w' hw' hcl _ K hK => ?_)
        subst hw'
        go_wp2_with fail
        obtain ⟨fr', al', st', back⟩ := st.sub [5, 11] (by decide) (by simp)
        (try simp only [nsl, Value.cells, unB] at st')
        refine (seqGot_old (v := v) (nx := nx0) (gt := gt0) (k := 5) (e := E) (what := 0) st' HRR.out hv1.1 hv1.2 HYC.out HNO.out (.inr ⟨HGT.out, rfl⟩)).mono ?_
        clear st'
        rintro en w ⟨rfl, st'⟩
        replace st := back _ _ (by simp) st'
        clear back st'
        (try simp only [nsl, Value.cells, unB] at st)
        (try clear hc); have hc := st.facts; (try simp only [nfl, nft, Nat.reduceAdd] at hc)
        refine hK _ _ ⟨⟨st.blk (i := 1) get1, st.blk (i := 2) get2, st.blk (i := 10) get10, st.rowBy2 (i := 7) get7 HY.out⟩, ?_⟩
        clear hK
        (try simp only [Rg4.nrm])
        iterate 3 (refine Rg4.w4_any (Rg4.want_none rfl) rfl ?_; apply Exists.intro; refine ⟨fun w' => ?_, ?_⟩; (focus (first | (go_simp; done) | (go_simp; first | rfl | (rw [if_neg] <;> first | rfl | omega) | (rw [if_pos] <;> first | rfl | omega)))); (try simp only [Rg4.nrm]))
        (refine Rg4.w4_bar (Rg4.want_none rfl) rfl (fun w' hw' hcl' _ K hK => ?_); subst hw'; (refine owp_store rfl st ?_; apply Exists.intro; apply Exists.intro; refine ⟨?_, ?_, ?_⟩; (focus (go_simp; try rfl)); (focus (go_simp; try rfl)); (first | (with_reducible refine ⟨0, _, _, _, _, get0, rfl, rfl, ?_, ?_, ?_, ?_⟩) | (with_reducible refine ⟨1, _, _, _, _, get1, rfl, rfl, ?_, ?_, ?_, ?_⟩) | (with_reducible refine ⟨2, _, _, _, _, get2, rfl, rfl, ?_, ?_, ?_, ?_⟩) | (with_reducible refine ⟨3, _, _, _, _, get3, rfl, rfl, ?_, ?_, ?_, ?_⟩) | (with_reducible refine ⟨4, _, _, _, _, get4, rfl, rfl, ?_, ?_, ?_, ?_⟩) | (with_reducible refine ⟨5, _, _, _, _, get5, rfl, rfl, ?_, ?_, ?_, ?_⟩) | (with_reducible refine ⟨6, _, _, _, _, get6, rfl, rfl, ?_, ?_, ?_, ?_⟩) | (with_reducible refine ⟨7, _, _, _, _, get7, rfl, rfl, ?_, ?_, ?_, ?_⟩) | (with_reducible refine ⟨8, _, _, _, _, get8, rfl, rfl, ?_, ?_, ?_, ?_⟩) | (with_reducible refine ⟨9, _, _, _, _, get9, rfl, rfl, ?_, ?_, ?_, ?_⟩) | (with_reducible refine ⟨10, _, _, _, _, get10, rfl, rfl, ?_, ?_, ?_, ?_⟩) | (with_reducible refine ⟨11, _, _, _, _, get11, rfl, rfl, ?_, ?_, ?_, ?_⟩) | (with_reducible refine ⟨12, _, _, _, _, get12, rfl, rfl, ?_, ?_, ?_, ?_⟩)); (kernel_rfl); (simp [Value.cells]); (rfl); (clear st; intro w st); (try simp only [nsl, Value.cells, unB] at st); (try clear hc); have hc := st.facts; (try simp only [nfl, nft, Nat.reduceAdd] at hc)); refine hK _ _ ⟨⟨st.blk (i := 1) get1, st.blk (i := 2) get2, st.blk (i := 10) get10, st.rowBy2 (i := 7) get7 HY.out⟩, ?_⟩; (try simp only [Rg4.nrm]))
        (refine Rg4.w4_any (Rg4.want_none rfl) rfl ?_; apply Exists.intro; refine ⟨fun w' => ?_, ?_⟩; (focus (first | (go_simp; done) | (go_simp; first | rfl | (rw [if_neg] <;> first | rfl | omega) | (rw [if_pos] <;> first | rfl | omega)))); (try simp only [Rg4.nrm]))
        refine Rg4.w4_nil (fun w' hw' hcl' _ => ?_); subst hw'; clear hcl'
        go_wp2_with fail
        have st2 := st.keep [0, 1, 2, 3, 4, 5, 6, 7, 8, 9] (by decide) (by simp)
        simp only [pick, List.map_cons, List.map_nil, List.getElem?_cons_zero, List.getElem?_cons_succ, Option.getD_some] at st2
        clear st
        have st := st2
        clear st2

        exact ⟨s0, s1, g0, g1, nx0, nx1, gt0, gt1, lf0, lf1, tk0, tk1, ln0, lc0, ln1, lc1, m0, c0, m1, c1, wd0, wd1, la0, la1, some ⟨fb, fo, none⟩, f1, L0, L1, ys0, ys1, ps, by omega, HNX, HPH, HLQ, HFQ, HLM, st⟩
end Go.Proofs.Ytmlhilgdjedeoaa
