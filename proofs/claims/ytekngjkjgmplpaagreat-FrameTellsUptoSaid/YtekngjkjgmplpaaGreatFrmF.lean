/- Frames: parts, Read. -/
import Derived.Test.YtekngjkjgmplpaaGreatCellB
import Derived.Test.YtekngjkjgmplpaaGreatCredDF
namespace Go.Proofs.YtekngjkjgmplpaaGreat
set_option linter.unusedSimpArgs false
set_option linter.unusedVariables false
open Go Go.RowKit
theorem rdF1 (n : Nat) (b c zs : List UInt8) (h2 : n ≤ 1099511627776) : rdNumber 1099511627776 (frameC n b c ++ zs) = .ok (n, (numB b.length ++ b) ++ ((numB c.length ++ c) ++ zs)) := by
  have e : frameC n b c ++ zs = numB n ++ ((numB b.length ++ b) ++ ((numB c.length ++ c) ++ zs)) := by simp [frameC]
  rw [e]
  exact rdNumber_put 1099511627776 n _ h2 (by decide)
def erOf (zs : List UInt8) : Int := if zs = [] then 0 else 13
set_option maxRecDepth 100000 in
set_option maxHeartbeats 1000000 in
theorem frParts1_c {fr al : Nat → Prop} {W : World} {r b1 b2 b3 n : Nat} {b c zs : List UInt8} (st : Own fr al W [rdI r (frameC n b c ++ zs), blkI b1 [.int .i64 0], blkI b2 [.slice none 0 0], blkI b3 [.slice none 0 0]] W) (h1 : 1 ≤ n) (h2 : n ≤ 1099511627776) (hb : b.length ≤ 2048) (hc : c.length = 8) (hl : zs.length ≤ 100000) :
    Calls Tryz.prog 78 #[.pointer (some ⟨r, 0, none⟩), .pointer (some ⟨b1, 0, none⟩), .pointer (some ⟨b2, 0, none⟩), .pointer (some ⟨b3, 0, none⟩)] W fun e w' => ∃ ba bc ca cc, e = .returned (.tuple #[]) ∧ ((b.length ≤ bc ∧ bc ≤ maxLen) ∧ (8 ≤ cc ∧ cc ≤ maxLen)) ∧ Own fr al W [rdI r zs, blkI b1 [.int .i64 (n : Int)], blkI b2 [.slice ba b.length bc], blkI b3 [.slice ca 8 cc], byI ba b.length b, byI ca 8 c] w' := by
  have hn0 : ((n : Int) == 0) = false := by simp; omega
  have HR1 := Lib.hid (rdF1 n b c zs h2)
  have HR2 : Hid (rdText 2048 ((numB b.length ++ b) ++ ((numB c.length ++ c) ++ zs)) = .ok (b, (numB c.length ++ c) ++ zs)) := Lib.hid (rdText_put 2048 b _ hb (by decide))
  have HR3 : Hid (rdText 8 ((numB c.length ++ c) ++ zs) = .ok (c, zs)) := Lib.hid (rdText_put 8 c zs (by omega) (by decide))
  have hl1 : (numB b.length).length ≤ 10 := numF_len 10 _
  have hl2 : (numB c.length).length ≤ 10 := numF_len 10 _
  have hl3 : ((numB b.length ++ b) ++ ((numB c.length ++ c) ++ zs)).length ≤ 200000 := by simp only [List.length_append]; omega
  have hl4 : ((numB c.length ++ c) ++ zs).length ≤ 200000 := by simp only [List.length_append]; omega
  have HC := Lib.hid hc
  clear hc
  generalize (numB b.length ++ b) ++ ((numB c.length ++ c) ++ zs) = x1 at *
  generalize (numB c.length ++ c) ++ zs = x2 at *
  generalize frameC n b c ++ zs = x0 at *
  (try simp only [nsl, Value.cells, unB] at st)
  (try clear hc); have hc := st.facts; (try simp only [nfl, nft, Nat.reduceAdd] at hc)
  go_enter Tryz.func78, Tryz.ntmps78
  go_wp2_with fail
  obtain ⟨fr', al', st', back⟩ := st.sub [0] (by decide) (by simp)
  (try simp only [nsl, Value.cells, unB] at st')
  refine (number_c st' 1099511627776).mono ?_
  clear st'
  intro en w hen
  unfold RdC at hen
  rw [HR1.out] at hen
  obtain ⟨v, M, rfl, ⟨rfl, rfl⟩, st'⟩ := hen
  replace st := back _ _ (by simp) st'
  clear back st'
  (try simp only [nsl, Value.cells, unB] at st)
  (try clear hc); have hc := st.facts; (try simp only [nfl, nft, Nat.reduceAdd] at hc)
  go_wp2_with ((((with_reducible refine wl_store ?_ (fun K hK => ?_)); rfl; refine owp_store rfl st ?_; apply Exists.intro; apply Exists.intro; refine ⟨?_, ?_, ?_⟩; (focus (go_simp; try rfl)); (focus (go_simp; try rfl)); (with_reducible refine ⟨1, _, _, _, _, get1, rfl, rfl, ?_, ?_, ?_, ?_⟩); (kernel_rfl); (simp [Value.cells]); (rfl); (clear st; intro w st))); (try simp only [nsl, Value.cells, unB] at st); (try clear hc); have hc := st.facts; (try simp only [nfl, nft, Nat.reduceAdd] at hc))
  obtain ⟨fr', al', st', back⟩ := st.sub [0] (by decide) (by simp)
  (try simp only [nsl, Value.cells, unB] at st')
  refine (text_c st' 2048 (by omega)).mono ?_
  clear st'
  intro en w hen
  unfold RdC at hen
  rw [HR2.out] at hen
  obtain ⟨v, M, rfl, ⟨ba, bc, rfl, hbc, rfl⟩, st'⟩ := hen
  replace st := back _ _ (by simp) st'
  clear back st'
  (try simp only [nsl, Value.cells, unB] at st)
  (try clear hc); have hc := st.facts; (try simp only [nfl, nft, Nat.reduceAdd] at hc)
  go_wp2_with ((((with_reducible refine wl_store ?_ (fun K hK => ?_)); rfl; refine owp_store rfl st ?_; apply Exists.intro; apply Exists.intro; refine ⟨?_, ?_, ?_⟩; (focus (go_simp; try rfl)); (focus (go_simp; try rfl)); (with_reducible refine ⟨2, _, _, _, _, get2, rfl, rfl, ?_, ?_, ?_, ?_⟩); (kernel_rfl); (simp [Value.cells]); (rfl); (clear st; intro w st))); (try simp only [nsl, Value.cells, unB] at st); (try clear hc); have hc := st.facts; (try simp only [nfl, nft, Nat.reduceAdd] at hc))
  obtain ⟨fr', al', st', back⟩ := st.sub [0] (by decide) (by simp)
  (try simp only [nsl, Value.cells, unB] at st')
  refine (text_c st' 8 (by omega)).mono ?_
  clear st'
  intro en w hen
  unfold RdC at hen
  rw [HR3.out] at hen
  obtain ⟨v, M, rfl, ⟨ca, cc, rfl, hcc, rfl⟩, st'⟩ := hen
  replace st := back _ _ (by simp) st'
  clear back st'
  (try simp only [nsl, Value.cells, unB] at st)
  (try clear hc); have hc := st.facts; (try simp only [nfl, nft, Nat.reduceAdd] at hc)
  rw [HC.out] at hcc
  simp only [HC.out] at st ⊢
  (try simp only [nsl, Value.cells, unB] at st)
  (try clear hc); have hc := st.facts; (try simp only [nfl, nft, Nat.reduceAdd] at hc)
  go_wp2_with ((((with_reducible refine wl_store ?_ (fun K hK => ?_)); rfl; refine owp_store rfl st ?_; apply Exists.intro; apply Exists.intro; refine ⟨?_, ?_, ?_⟩; (focus (go_simp; try rfl)); (focus (go_simp; try rfl)); (with_reducible refine ⟨3, _, _, _, _, get3, rfl, rfl, ?_, ?_, ?_, ?_⟩); (kernel_rfl); (simp [Value.cells]); (rfl); (clear st; intro w st))); (try simp only [nsl, Value.cells, unB] at st); (try clear hc); have hc := st.facts; (try simp only [nfl, nft, Nat.reduceAdd] at hc))
  go_end0
  exact ⟨_, _, _, _, rfl, ⟨hbc, hcc⟩, st⟩
set_option maxRecDepth 100000 in
set_option maxHeartbeats 2000000 in
theorem frParts_f {W : World} {a : Option Addr} {m n : Nat} {b c zs : List UInt8} (cap : Nat) (h : By W a m (frameC n b c ++ zs)) (hcap : m ≤ cap ∧ cap ≤ maxLen) (h1 : 1 ≤ n) (h2 : n ≤ 1099511627776) (hb : b.length ≤ 2048) (hc : c.length = 8) (hl : zs.length ≤ 1000) :
    Calls Tryz.prog 45 #[.slice a m cap] W fun e w' => ∃ ba bc ca cc, e = .returned (.tuple #[.int .i64 (n : Int), .slice ba b.length bc, .slice ca 8 cc, .int .i64 (erOf zs)]) ∧ ((b.length ≤ bc ∧ bc ≤ maxLen) ∧ (8 ≤ cc ∧ cc ≤ maxLen)) ∧ Own (fun _ => False) (fun _ => False) W [byI ba b.length b, byI ca 8 c] w' := by
  have st := Own.start (fun _ => False) (fun _ => False) W
  have HC := Lib.hid hcap
  have hm : m ≤ 10000 := by
    have e := h.1
    have := frameC_len n b c hc
    have : (numB n).length ≤ 10 := numF_len 10 _
    have : (numB b.length).length ≤ 10 := numF_len 10 _
    rw [List.length_append] at e
    omega
  have HK := Lib.hid (fun (fr al : Nat → Prop) (W : World) (r b1 b2 b3 : Nat) (st : Own fr al W [rdI r (frameC n b c ++ zs), blkI b1 [.int .i64 0], blkI b2 [.slice none 0 0], blkI b3 [.slice none 0 0]] W) => frParts1_c st h1 h2 hb hc (by omega))
  clear hcap hc
  obtain ⟨x0, hx0⟩ : ∃ x, frameC n b c ++ zs = x := ⟨_, rfl⟩
  rw [hx0] at HK h
  have HB := Lib.hid h
  clear hx0 h
  (try simp only [nsl, Value.cells, unB] at st)
  (try clear hc); have hc := st.facts; (try simp only [nfl, nft, Nat.reduceAdd] at hc)
  go_enter Tryz.func45, Tryz.ntmps45
  go_wp2_with ((first
        | ((with_reducible refine wl_alloc ?_ (fun K hK => ?_)); rfl; refine owp_alloc (o := ⟨some 2, _, _, _, _, _⟩) rfl st ?_; apply Exists.intro; apply Exists.intro; refine ⟨?_, ?_⟩; (focus (first | (go_simp; done) | (go_simp; rfl))); (clear st; intro b2 w hb st; clear hb))
        | ((with_reducible refine wl_alloc ?_ (fun K hK => ?_)); rfl; refine owp_alloc (o := ⟨some 3, _, _, _, _, _⟩) rfl st ?_; apply Exists.intro; apply Exists.intro; refine ⟨?_, ?_⟩; (focus (first | (go_simp; done) | (go_simp; rfl))); (clear st; intro b3 w hb st; clear hb))
        | ((with_reducible refine wl_alloc ?_ (fun K hK => ?_)); rfl; refine owp_alloc (o := ⟨some 4, _, _, _, _, _⟩) rfl st ?_; apply Exists.intro; apply Exists.intro; refine ⟨?_, ?_⟩; (focus (first | (go_simp; done) | (go_simp; rfl))); (clear st; intro b4 w hb st; clear hb))); (try simp only [nsl, Value.cells, unB] at st); (try clear hc); have hc := st.facts; (try simp only [nfl, nft, Nat.reduceAdd] at hc))
  refine (read_c st (HB.out.ext st.ext0) HC.out (by omega) 78 #[.pointer (some ⟨b2, 0, none⟩), .pointer (some ⟨b3, 0, none⟩), .pointer (some ⟨b4, 0, none⟩)] (fun _ _ => by kernel_rfl)
    (fun r e M => e = erOf zs ∧ ∃ ba bc ca cc, ((b.length ≤ bc ∧ bc ≤ maxLen) ∧ (8 ≤ cc ∧ cc ≤ maxLen)) ∧ M = [blkI b2 [.int .i64 (n : Int)], blkI b3 [.slice ba b.length bc], blkI b4 [.slice ca 8 cc], byI ba b.length b, byI ca 8 c]) fun fr' al' w1 r hr st1 => ?_).mono ?_
  · obtain ⟨fr2, al2, st2, back⟩ := st1.sub [3, 0, 1, 2] (by decide) (by simp)
    simp only [pick, List.map_cons, List.map_nil, List.cons_append, List.nil_append, List.getElem?_cons_zero, List.getElem?_cons_succ, Option.getD_some] at st2
    refine (HK.out _ _ _ _ _ _ _ st2).mono ?_
    rintro en w2 ⟨ba, bc, ca, cc, rfl, hbd, st3⟩
    have st4 := back _ _ (by simp) st3
    have st5 := st4.keep [3, 0, 1, 2, 4, 5] (by decide) (by simp [putIt])
    exact .inl ⟨_, zs, _, rfl, ⟨rfl, ba, bc, ca, cc, hbd, rfl⟩, by simpa [pick, putIt] using st5⟩
  rintro en w ⟨r1, e1, M, rfl, ⟨rfl, ba, bc, ca, cc, hbd, rfl⟩, st'⟩
  clear st HK
  have HBD := Lib.hid hbd
  clear hbd
  have st := st'.keep [1, 2, 3, 4, 5] (by decide) (by simp)
  clear st'
  simp only [pick, List.map_cons, List.map_nil, List.getElem?_cons_zero, List.getElem?_cons_succ, Option.getD_some] at st
  (try simp only [nsl, Value.cells, unB] at st)
  (try clear hc); have hc := st.facts; (try simp only [nfl, nft, Nat.reduceAdd] at hc)
  go_wp2_with fail
  refine Rg4.wp_region4_eq #[0, 0, 0, 0, 1, 19, 55, 127] [4, 5, 6] [0] (fun W' => Blk W' b2 [.int .i64 (n : Int)] ∧ Blk W' b3 [.slice ba b.length bc] ∧ Blk W' b4 [.slice ca 8 cc]) [0, 1, 2, 3, 4, 5, 6, 7] (by kernel_rfl) (by kernel_rfl) (by kernel_rfl) (by kernel_rfl) (show Rg4.PB _ by repeat (first | with_reducible exact Rg4.pb_body | with_reducible exact Rg4.pb_bodyD rfl | with_reducible refine Rg4.pb_then ?_ | with_reducible refine Rg4.pb_inBlock ?_ | with_reducible refine Rg4.pb_noGoto ?_)) (⟨st.drew.blk (i := 0) get0, st.drew.blk (i := 1) get1, st.drew.blk (i := 2) get2⟩) ?_
  replace st := st.drew
  change Rg4.wp4 _ _ _ _ _ _ _ _ _ (World.drew _) _ _
  generalize World.drew _ = w at st ⊢
  (try clear hc); have hc := st.facts; (try simp only [nfl, nft, Nat.reduceAdd] at hc)
  (refine Rg4.w4_read (Rg4.want_none rfl) rfl rfl ?_; apply Exists.intro; refine ⟨fun w' hw' hcl' => ?_, ?_⟩; focus (subst hw'; (focus (first | (go_simp; done) | (go_simp; first | rfl | (rw [if_neg] <;> first | rfl | omega) | (rw [if_pos] <;> first | rfl | omega))))); (try simp only [Rg4.nrm]))
  iterate 3 (refine Rg4.w4_cl (Rg4.want_none rfl) rfl ?_; apply Exists.intro; refine ⟨fun w' hcl => ?_, ?_⟩; (focus (have q0 := Blk.cell hcl.1 0; have q1 := Blk.cell hcl.2.1 0; have q2 := Blk.cell hcl.2.2 0; (try simp at q0 q1 q2); (focus (first | (go_simp; done) | (go_simp; first | rfl | (rw [if_neg] <;> first | rfl | omega) | (rw [if_pos] <;> first | rfl | omega)))))); (try simp only [Rg4.nrm]))
  (refine Rg4.w4_bar (Rg4.want_none rfl) rfl (fun w' hw' hcl' _ K hK => ?_); subst hw'; (refine owp_store rfl st ?_; apply Exists.intro; apply Exists.intro; refine ⟨?_, ?_, ?_⟩; (focus (go_simp; try rfl)); (focus (go_simp; try rfl)); (with_reducible refine ⟨0, _, _, _, _, get0, rfl, rfl, ?_, ?_, ?_, ?_⟩); (kernel_rfl); (simp [Value.cells]); (rfl); (clear st; intro w st); (try simp only [nsl, Value.cells, unB] at st); (try clear hc); have hc := st.facts; (try simp only [nfl, nft, Nat.reduceAdd] at hc)); refine hK _ _ ⟨⟨st.blk (i := 0) get0, st.blk (i := 1) get1, st.blk (i := 2) get2⟩, ?_⟩; (try simp only [Rg4.nrm]))
  (refine Rg4.w4_bar (Rg4.want_none rfl) rfl (fun w' hw' hcl' _ K hK => ?_); subst hw'; (refine owp_store rfl st ?_; apply Exists.intro; apply Exists.intro; refine ⟨?_, ?_, ?_⟩; (focus (go_simp; try rfl)); (focus (go_simp; try rfl)); (with_reducible refine ⟨1, _, _, _, _, get1, rfl, rfl, ?_, ?_, ?_, ?_⟩); (kernel_rfl); (simp [Value.cells]); (rfl); (clear st; intro w st); (try simp only [nsl, Value.cells, unB] at st); (try clear hc); have hc := st.facts; (try simp only [nfl, nft, Nat.reduceAdd] at hc)); refine hK _ _ ⟨⟨st.blk (i := 0) get0, st.blk (i := 1) get1, st.blk (i := 2) get2⟩, ?_⟩; (try simp only [Rg4.nrm]))
  (refine Rg4.w4_bar (Rg4.want_none rfl) rfl (fun w' hw' hcl' _ K hK => ?_); subst hw'; (refine owp_store rfl st ?_; apply Exists.intro; apply Exists.intro; refine ⟨?_, ?_, ?_⟩; (focus (go_simp; try rfl)); (focus (go_simp; try rfl)); (with_reducible refine ⟨2, _, _, _, _, get2, rfl, rfl, ?_, ?_, ?_, ?_⟩); (kernel_rfl); (simp [Value.cells]); (rfl); (clear st; intro w st); (try simp only [nsl, Value.cells, unB] at st); (try clear hc); have hc := st.facts; (try simp only [nfl, nft, Nat.reduceAdd] at hc)); refine hK _ _ ⟨⟨st.blk (i := 0) get0, st.blk (i := 1) get1, st.blk (i := 2) get2⟩, ?_⟩; (try simp only [Rg4.nrm]))
  (refine Rg4.w4_any (Rg4.want_none rfl) rfl ?_; apply Exists.intro; refine ⟨fun w' => ?_, ?_⟩; (focus (first | (go_simp; done) | (go_simp; first | rfl | (rw [if_neg] <;> first | rfl | omega) | (rw [if_pos] <;> first | rfl | omega)))); (try simp only [Rg4.nrm]))
  refine Rg4.w4_nil (fun w' hw' hcl' _ => ?_); subst hw'; clear hcl'
  go_wp2_with fail
  (try simp only [Exit.inBlock, Exit.then])
  obtain ⟨c0, c1, c2⟩ := hc
  refine bodyPost_cells3 rfl rfl rfl rfl c0 c1 c2 Tryz.underlying3 Tryz.underlying26 Tryz.underlying26 rfl rfl rfl rfl ?_
  have st' := st.keep [3, 4] (by decide) (by simp)
  exact ⟨ba, bc, ca, cc, rfl, HBD.out, by simpa [pick] using st'⟩
theorem frParts_c {fr al : Nat → Prop} {W : World} {a : Option Addr} {m n : Nat} {b c zs : List UInt8} (cap : Nat) (st : Own fr al W [byI a m (frameC n b c ++ zs)] W) (hcap : m ≤ cap ∧ cap ≤ maxLen) (h1 : 1 ≤ n) (h2 : n ≤ 1099511627776) (hb : b.length ≤ 2048) (hc : c.length = 8) (hl : zs.length ≤ 1000) :
    Calls Tryz.prog 45 #[.slice a m cap] W fun e w' => ∃ ba bc ca cc, e = .returned (.tuple #[.int .i64 (n : Int), .slice ba b.length bc, .slice ca 8 cc, .int .i64 (erOf zs)]) ∧ ((b.length ≤ bc ∧ bc ≤ maxLen) ∧ (8 ≤ cc ∧ cc ≤ maxLen)) ∧ Own fr al W [byI a m (frameC n b c ++ zs), byI ba b.length b, byI ca 8 c] w' := by
  refine (frParts_f cap (st.by (i := 0) get0) hcap h1 h2 hb hc hl).mono ?_
  rintro e w' ⟨ba, bc, ca, cc, q1, q2, q3⟩
  exact ⟨ba, bc, ca, cc, q1, q2, st.join q3⟩
set_option maxRecDepth 100000 in
set_option maxHeartbeats 2000000 in
/-- A frame that is none: bytes are left, or the sum is another. -/
theorem frRead_bad (n : Nat) (a : Option Addr) (m cap : Nat) (b c zs : List UInt8) (er : Int) (W : World) (h : By W a m (frameC n b c ++ zs)) (hcap : m ≤ cap ∧ cap ≤ maxLen) (h1 : 1 ≤ n) (h2 : n ≤ 1099511627776) (hb : b.length ≤ 2048) (hc : c.length = 8) (hl : zs.length ≤ 1000)
    (hbad : (zs ≠ [] ∧ er = 13) ∨ (zs = [] ∧ c ≠ sumB n b ∧ er = 20)) :
    Calls Tryz.prog 13 #[.slice a m cap] W fun e w' => e = .returned (.tuple #[.int .i64 0, mgV (mg0 0 0 0 []), .int .i64 er]) ∧ Ext W w' := by
  have HC := Lib.hid hcap
  have H8 := Lib.hid hc
  have hm : m ≤ 4096 := by
    have e := h.1
    have := frameC_len n b c hc
    have : (numB n).length ≤ 10 := numF_len 10 _
    have : (numB b.length).length ≤ 10 := numF_len 10 _
    rw [List.length_append] at e
    omega
  have st := (Own.startOld W).addOldBy (i := 0) rfl h
  have HP := Lib.hid (fun (fr al : Nat → Prop) (W : World) (st : Own fr al W [byI a m (frameC n b c ++ zs)] W) => frParts_c cap st hcap h1 h2 hb hc hl)
  obtain ⟨x0, hx0⟩ : ∃ x, frameC n b c ++ zs = x := ⟨_, rfl⟩
  rw [hx0] at HP st
  clear hx0 h hcap hc
  rcases hbad with ⟨hz, rfl⟩ | ⟨hz, hs, rfl⟩
  · have he : erOf zs = 13 := by unfold erOf; rw [if_neg hz]
    rw [he] at HP
    clear he hz
    (try simp only [nsl, Value.cells, unB] at st)
    (try clear hc); have hc := st.facts; (try simp only [nfl, nft, Nat.reduceAdd] at hc)
    go_enter Tryz.func13, Tryz.ntmps13
    go_wp2_with ((((with_reducible refine wl_alloc ?_ (fun K hK => ?_)); rfl; refine owp_alloc (o := ⟨some 3, _, _, _, _, _⟩) rfl st ?_; apply Exists.intro; apply Exists.intro; refine ⟨?_, ?_⟩; (focus (first | (go_simp; done) | (go_simp; rfl))); (clear st; intro b3 w hb st; clear hb))); (try simp only [nsl, Value.cells, unB] at st); (try clear hc); have hc := st.facts; (try simp only [nfl, nft, Nat.reduceAdd] at hc))
    obtain ⟨fr', al', st', back⟩ := st.sub [1] (by decide) (by simp)
    (try simp only [nsl, Value.cells, unB] at st')
    refine (HP.out _ _ _ st').mono ?_
    clear st'
    rintro en w ⟨ba, bc, ca, cc, rfl, hbd, st'⟩
    replace st := back _ _ (by simp) st'
    clear back st'
    (try simp only [nsl, Value.cells, unB] at st)
    (try clear hc); have hc := st.facts; (try simp only [nfl, nft, Nat.reduceAdd] at hc)
    clear hbd
    go_wp2_with ((((with_reducible refine wl_store ?_ (fun K hK => ?_)); rfl; refine owp_store rfl st ?_; apply Exists.intro; apply Exists.intro; refine ⟨?_, ?_, ?_⟩; (focus (go_simp; try rfl)); (focus (go_simp; try rfl)); (with_reducible refine ⟨2, _, _, _, _, get2, rfl, rfl, ?_, ?_, ?_, ?_⟩); (kernel_rfl); (simp [Value.cells]); (rfl); (clear st; intro w st))); (try simp only [nsl, Value.cells, unB] at st); (try clear hc); have hc := st.facts; (try simp only [nfl, nft, Nat.reduceAdd] at hc))
    refine bodyPost_tct rfl rfl (st.blk (i := 2) get2) Tryz.underlying25 rfl (by kernel_rfl) rfl ?_
    exact ⟨rfl, st.ext0⟩
  · have he : erOf zs = 0 := by unfold erOf; rw [if_pos hz]
    rw [he] at HP
    clear he hz
    have HS := Lib.hid (fun a m c W' (h : By W' a m b) hc => frSum_f n a m c b W' (by omega) hc h)
    have hse : (c == sumB n b) = false := by simpa using hs
    have HL8 := Lib.hid (sumB_len n b)
    generalize sumB n b = s at *
    clear hs
    have HSE := Lib.hid hse
    clear hse
    (try simp only [nsl, Value.cells, unB] at st)
    (try clear hc); have hc := st.facts; (try simp only [nfl, nft, Nat.reduceAdd] at hc)
    go_enter Tryz.func13, Tryz.ntmps13
    go_wp2_with ((((with_reducible refine wl_alloc ?_ (fun K hK => ?_)); rfl; refine owp_alloc (o := ⟨some 3, _, _, _, _, _⟩) rfl st ?_; apply Exists.intro; apply Exists.intro; refine ⟨?_, ?_⟩; (focus (first | (go_simp; done) | (go_simp; rfl))); (clear st; intro b3 w hb st; clear hb))); (try simp only [nsl, Value.cells, unB] at st); (try clear hc); have hc := st.facts; (try simp only [nfl, nft, Nat.reduceAdd] at hc))
    obtain ⟨fr', al', st', back⟩ := st.sub [1] (by decide) (by simp)
    (try simp only [nsl, Value.cells, unB] at st')
    refine (HP.out _ _ _ st').mono ?_
    clear st'
    rintro en w ⟨ba, bc, ca, cc, rfl, hbd, st'⟩
    replace st := back _ _ (by simp) st'
    clear back st'
    (try simp only [nsl, Value.cells, unB] at st)
    (try clear hc); have hc := st.facts; (try simp only [nfl, nft, Nat.reduceAdd] at hc)
    have HBD := Lib.hid hbd
    clear hbd HP
    go_wp2_with fail
    refine (HS.out _ _ _ _ (st.by (i := 3) get3) HBD.out.1).mono ?_
    rintro en w ⟨bb, rfl, hbb, hx, hblk⟩
    replace st := (st.addBlk2 hx hblk hbb).blkToBy2 (i := 5) (n := 8) (xs := s) get5 HL8.out
    clear hx hblk hbb
    (try simp only [nsl, Value.cells, unB] at st)
    (try clear hc); have hc := st.facts; (try simp only [nfl, nft, Nat.reduceAdd] at hc)
    go_wp2_with fail
    refine (bytesEqual_any _ 8 _ c _ 8 _ s _ (st.by (i := 4) get4) (st.by (i := 5) get5)).mono ?_
    rintro en w ⟨rfl, hx⟩
    replace st := st.ext hx
    clear hx
    rw [HSE.out]
    (try simp only [nsl, Value.cells, unB] at st)
    (try clear hc); have hc := st.facts; (try simp only [nfl, nft, Nat.reduceAdd] at hc)
    go_wp2_with ((((with_reducible refine wl_store ?_ (fun K hK => ?_)); rfl; refine owp_store rfl st ?_; apply Exists.intro; apply Exists.intro; refine ⟨?_, ?_, ?_⟩; (focus (go_simp; try rfl)); (focus (go_simp; try rfl)); (with_reducible refine ⟨2, _, _, _, _, get2, rfl, rfl, ?_, ?_, ?_, ?_⟩); (kernel_rfl); (simp [Value.cells]); (rfl); (clear st; intro w st))); (try simp only [nsl, Value.cells, unB] at st); (try clear hc); have hc := st.facts; (try simp only [nfl, nft, Nat.reduceAdd] at hc))
    refine bodyPost_tct rfl rfl (st.blk (i := 2) get2) Tryz.underlying25 rfl (by kernel_rfl) rfl ?_
    exact ⟨rfl, st.ext0⟩
end Go.Proofs.YtekngjkjgmplpaaGreat

namespace Go.Proofs.YtekngjkjgmplpaaGreat
set_option linter.unusedSimpArgs false
set_option linter.unusedVariables false
open Go Go.RowKit
set_option maxRecDepth 100000 in
set_option maxHeartbeats 4000000 in
theorem frRead_f {W : World} {a : Option Addr} {m n : Nat} {b : List UInt8} {d : MsgT} (cap : Nat) (h : By W a m (frameB n b)) (hcap : m ≤ cap ∧ cap ≤ maxLen) (h1 : 1 ≤ n) (h2 : n ≤ 1099511627776) (hb : b.length ≤ 2048) (hd : rdMg b = .ok (d, [])) :
    Calls Tryz.prog 13 #[.slice a m cap] W fun e w' => ∃ x, e = .returned (.tuple #[.int .i64 (n : Int), mgV x, .int .i64 0]) ∧ stripM x = stripM d ∧ ((x.wn ≤ x.wc ∧ x.wc ≤ maxLen) ∧ (x.sn ≤ x.sc ∧ x.sc ≤ maxLen)) ∧ Own (fun _ => False) (fun _ => False) W [flI x.wa x.wn x.ws, flI x.sa x.sn x.ss, sgsI x.ss] w' := by
  have st := Own.start (fun _ => False) (fun _ => False) W
  have HL8 := Lib.hid (sumB_len n b)
  have hm : m ≤ 4096 := by
    have e := h.1
    have := frameC_len n b (sumB n b) HL8.out
    have : (numB n).length ≤ 10 := numF_len 10 _
    have : (numB b.length).length ≤ 10 := numF_len 10 _
    unfold frameB at e
    omega
  have HPP := Lib.hid (fun (w : World) (hx : Ext W w) => frParts_f (W := w) (zs := []) cap (by rw [List.append_nil]; exact h.ext hx) hcap h1 h2 hb HL8.out (by simp))
  rw [show erOf [] = 0 from rfl] at HPP
  have HS := Lib.hid (fun a m c W' (h : By W' a m b) hc => frSum_f n a m c b W' (by omega) hc h)
  have HRD := Lib.hid (fun (w : World) (ba : Option Addr) (bc : Nat) (hh : By w ba b.length b) hbc => msgRead_f ba b.length bc b w hh hbc (by omega))
  rw [hd] at HRD
  generalize frameB n b = x0 at *
  generalize sumB n b = s at *
  have HSE : Hid ((s == s) = true) := Lib.hid (by simp)
  clear hd h hcap
  (try simp only [nsl, Value.cells, unB] at st)
  (try clear hc); have hc := st.facts; (try simp only [nfl, nft, Nat.reduceAdd] at hc)
  go_enter Tryz.func13, Tryz.ntmps13
  go_wp2_with ((((with_reducible refine wl_alloc ?_ (fun K hK => ?_)); rfl; refine owp_alloc (o := ⟨some 3, _, _, _, _, _⟩) rfl st ?_; apply Exists.intro; apply Exists.intro; refine ⟨?_, ?_⟩; (focus (first | (go_simp; done) | (go_simp; rfl))); (clear st; intro b3 w hb st; clear hb))); (try simp only [nsl, Value.cells, unB] at st); (try clear hc); have hc := st.facts; (try simp only [nfl, nft, Nat.reduceAdd] at hc))
  refine (HPP.out _ st.ext0).mono ?_
  rintro en w ⟨ba, bc, ca, cc, rfl, hbd, st'⟩
  replace st := st.join st'
  have HBD := Lib.hid hbd
  clear hbd HPP st'
  (try simp only [nsl, Value.cells, unB] at st)
  (try clear hc); have hc := st.facts; (try simp only [nfl, nft, Nat.reduceAdd] at hc)
  go_wp2_with fail
  refine (HS.out _ _ _ _ (st.by (i := 1) get1) HBD.out.1).mono ?_
  rintro en w ⟨bb, rfl, hbb, hx, hblk⟩
  replace st := (st.addBlk2 hx hblk hbb).blkToBy2 (i := 3) (n := 8) (xs := s) get3 HL8.out
  clear hx hblk hbb
  (try simp only [nsl, Value.cells, unB] at st)
  (try clear hc); have hc := st.facts; (try simp only [nfl, nft, Nat.reduceAdd] at hc)
  go_wp2_with fail
  refine (bytesEqual_any _ 8 _ s _ 8 _ s _ (st.by (i := 2) get2) (st.by (i := 3) get3)).mono ?_
  rintro en w ⟨rfl, hx⟩
  replace st := st.ext hx
  clear hx
  rw [HSE.out]
  (try simp only [nsl, Value.cells, unB] at st)
  (try clear hc); have hc := st.facts; (try simp only [nfl, nft, Nat.reduceAdd] at hc)
  go_wp2_with fail
  refine (HRD.out _ _ _ (st.by (i := 1) get1) HBD.out.1).mono ?_
  rintro en w ⟨x, er, rfl, ⟨rfl, hxs⟩, hcc, st'⟩
  replace st := st.join st'
  have HX := Lib.hid (And.intro hxs hcc)
  clear hxs hcc HRD HS st'
  obtain ⟨mk, mp, me, mnm, mwa, mwn, mwc, mws, msa, msn, msc, mss⟩ := x
  unfold mgV S
  (try simp only [nsl, Value.cells, unB] at st)
  (try clear hc); have hc := st.facts; (try simp only [nfl, nft, Nat.reduceAdd] at hc)
  go_wp2_with ((first
        | ((with_reducible refine wl_store ?_ (fun K hK => ?_)); rfl; refine owp_store rfl st ?_; apply Exists.intro; apply Exists.intro; refine ⟨?_, ?_, ?_⟩; (focus (go_simp; try rfl)); (focus (go_simp; try rfl)); (with_reducible refine ⟨7, _, _, _, _, get7, rfl, rfl, ?_, ?_, ?_, ?_⟩); (kernel_rfl); (simp [Value.cells]); (rfl); (clear st; intro w st))
        | ((with_reducible refine wl_alloc ?_ (fun K hK => ?_)); rfl; refine owp_alloc (o := ⟨some 9, _, _, _, _, _⟩) rfl st ?_; apply Exists.intro; apply Exists.intro; refine ⟨?_, ?_⟩; (focus (first | (go_simp; done) | (go_simp; rfl))); (clear st; intro b9 w hb st; clear hb))); (try simp only [nsl, Value.cells, unB] at st); (try clear hc); have hc := st.facts; (try simp only [nfl, nft, Nat.reduceAdd] at hc))
  refine Rg4.wp_region4_eq #[0, 0, 1, 7, 15] [3] [1] (fun _ => True) [0, 1, 2, 3, 4] (by kernel_rfl) (by kernel_rfl) (by kernel_rfl) (by kernel_rfl) (show Rg4.PB _ by repeat (first | with_reducible exact Rg4.pb_body | with_reducible exact Rg4.pb_bodyD rfl | with_reducible refine Rg4.pb_then ?_ | with_reducible refine Rg4.pb_inBlock ?_ | with_reducible refine Rg4.pb_noGoto ?_)) (trivial) ?_
  replace st := st.drew
  change Rg4.wp4 _ _ _ _ _ _ _ _ _ (World.drew _) _ _
  generalize World.drew _ = w at st ⊢
  (try clear hc); have hc := st.facts; (try simp only [nfl, nft, Nat.reduceAdd] at hc)
  (refine Rg4.w4_any (Rg4.want_none rfl) rfl ?_; apply Exists.intro; refine ⟨fun w' => ?_, ?_⟩; (focus (first | (go_simp; done) | (go_simp; first | rfl | (rw [if_neg] <;> first | rfl | omega) | (rw [if_pos] <;> first | rfl | omega)))); (try simp only [Rg4.nrm]))
  (refine Rg4.w4_read (Rg4.want_none rfl) rfl rfl ?_; apply Exists.intro; refine ⟨fun w' hw' hcl' => ?_, ?_⟩; focus (subst hw'; (focus (first | (go_simp; done) | (go_simp; first | rfl | (rw [if_neg] <;> first | rfl | omega) | (rw [if_pos] <;> first | rfl | omega))))); (try simp only [Rg4.nrm]))
  (refine Rg4.w4_any (Rg4.want_none rfl) rfl ?_; apply Exists.intro; refine ⟨fun w' => ?_, ?_⟩; (focus (first | (go_simp; done) | (go_simp; first | rfl | (rw [if_neg] <;> first | rfl | omega) | (rw [if_pos] <;> first | rfl | omega)))); (try simp only [Rg4.nrm]))
  (refine Rg4.w4_bar (Rg4.want_none rfl) rfl (fun w' hw' hcl' _ K hK => ?_); subst hw'; (refine owp_store rfl st ?_; apply Exists.intro; apply Exists.intro; refine ⟨?_, ?_, ?_⟩; (focus (go_simp; try rfl)); (focus (go_simp; try rfl)); (with_reducible refine ⟨0, _, _, _, _, get0, rfl, rfl, ?_, ?_, ?_, ?_⟩); (kernel_rfl); (simp [Value.cells]); (rfl); (clear st; intro w st); (try simp only [nsl, Value.cells, unB] at st); (try clear hc); have hc := st.facts; (try simp only [nfl, nft, Nat.reduceAdd] at hc)); refine hK _ _ ⟨trivial, ?_⟩; (try simp only [Rg4.nrm]))
  (refine Rg4.w4_any (Rg4.want_none rfl) rfl ?_; apply Exists.intro; refine ⟨fun w' => ?_, ?_⟩; (focus (first | (go_simp; done) | (go_simp; first | rfl | (rw [if_neg] <;> first | rfl | omega) | (rw [if_pos] <;> first | rfl | omega)))); (try simp only [Rg4.nrm]))
  refine Rg4.w4_nil (fun w' hw' hcl' _ => ?_); subst hw'; clear hcl'
  go_wp2_with fail
  (try simp only [Exit.inBlock, Exit.then])
  refine bodyPost_tct rfl rfl (st.blk (i := 0) get0) Tryz.underlying25 rfl (by kernel_rfl) rfl ?_
  have st' := st.keep [4, 5, 6] (by decide) (by simp)
  exact ⟨⟨mk, mp, me, mnm, mwa, mwn, mwc, mws, msa, msn, msc, mss⟩, rfl, HX.out.1, HX.out.2, by simpa [pick] using st'⟩
theorem frRead_good {fr al : Nat → Prop} {W : World} {a : Option Addr} {m n : Nat} {b : List UInt8} {d : MsgT} (cap : Nat) (st : Own fr al W [byI a m (frameB n b)] W) (hcap : m ≤ cap ∧ cap ≤ maxLen) (h1 : 1 ≤ n) (h2 : n ≤ 1099511627776) (hb : b.length ≤ 2048) (hd : rdMg b = .ok (d, [])) :
    Calls Tryz.prog 13 #[.slice a m cap] W fun e w' => ∃ x, e = .returned (.tuple #[.int .i64 (n : Int), mgV x, .int .i64 0]) ∧ stripM x = stripM d ∧ ((x.wn ≤ x.wc ∧ x.wc ≤ maxLen) ∧ (x.sn ≤ x.sc ∧ x.sc ≤ maxLen)) ∧ Own fr al W [byI a m (frameB n b), flI x.wa x.wn x.ws, flI x.sa x.sn x.ss, sgsI x.ss] w' := by
  refine (frRead_f cap (st.by (i := 0) get0) hcap h1 h2 hb hd).mono ?_
  rintro e w' ⟨x, q1, q2, q3, q4⟩
  exact ⟨x, q1, q2, q3, st.join q4⟩
end Go.Proofs.YtekngjkjgmplpaaGreat

namespace Go.Proofs.YtekngjkjgmplpaaGreat
set_option linter.unusedSimpArgs false
set_option linter.unusedVariables false
open Go Go.RowKit
theorem u8InfoF : ∃ i, Tryz.prog.info? 5 = some i ∧ i.zero = some (.int .u8 0) ∧ i.size = 1 ∧ i.bytes = 1 := info_parts (by kernel_rfl)
abbrev g3 : MsgT := mg0 3 0 0 []
theorem g3_R : mgR g3 = true := by kernel_rfl
theorem g3_B : mgB g3 = [3] := by kernel_rfl
theorem g3_L : MgL g3 := mg0_L (by decide)
theorem g3_rd (W : World) : rdMg [3] = .ok (g3, []) := by
  have := rdMg_put (mg0_ok W 3 0 0 []) g3_R
  rw [g3_B] at this
  exact this
theorem strip_g3 {x : MsgT} (h : stripM x = stripM g3) : ∃ wa wc sa sc, x = ⟨3, 0, 0, [], wa, 0, wc, [], sa, 0, sc, []⟩ := by
  obtain ⟨mk, mp, me, mnm, mwa, mwn, mwc, mws, msa, msn, msc, mss⟩ := x
  unfold stripM at h
  injection h with h1 h2 h3 h4 _ h5 _ h6 _ h7 _ h8
  simp only [mg0, List.map_nil] at h1 h2 h3 h4 h5 h6 h7 h8
  have h9 : mss = [] := by simpa using h8
  subst h1 h2 h3 h4 h5 h6 h7 h9
  exact ⟨mwa, mwc, msa, msc, rfl⟩
theorem slice4 (b o c : Nat) (hc : 12 ≤ c) (w : World) : (Instr.slice 26 (.slice (some ⟨b, o, none⟩) 12 c) none (some (.int .i64 4)) none).run Tryz.prog w = .ok (.slice (some ⟨b, o, none⟩) 4 c) w := by
  have h : Arr 1 (fun _ _ _ (_ : Unit) => True) w (some ⟨b, o, none⟩) 12 (List.replicate 12 ()) := ⟨by simp, fun _ => ⟨b, o, rfl, fun _ _ _ => trivial⟩⟩
  exact (slice_high (P := Tryz.prog) (k := 4) Tryz.underlying26 (size_u8) h (by decide) hc).1
theorem By.take4 {w : World} {b o : Nat} {F : List UInt8} (h : By w (some ⟨b, o, none⟩) 12 F) : By w (some ⟨b, o, none⟩) 4 (F.take 4) :=
  ⟨by rw [List.length_take, ← h.1]; rfl, fun _ => by
    obtain ⟨b2, o2, e, hc⟩ := h.2 (by decide)
    refine ⟨b2, o2, e, fun i x hi => hc i x ?_⟩
    rw [List.getElem?_take] at hi
    split at hi
    · exact hi
    · cases hi⟩
set_option maxRecDepth 100000 in
set_option maxHeartbeats 8000000 in
theorem frFirst_any (W : World) : Calls Tryz.prog 6 #[] W fun e w' => e = .returned (.bool true) ∧ Ext W w' := by
  have st := Own.startOld W
  have hmk := fun W => frMake_yes 3 g3 W (mg0_ok _ _ _ _ _) g3_L g3_R (by decide) (by decide)
  rw [g3_B] at hmk
  have hrd := fun (fr al : Nat → Prop) (W : World) (a : Option Addr) (m cap : Nat) (st : Own fr al W [byI a m (frameB 3 [3])] W) hcap => frRead_good cap st hcap (by decide) (by decide) (by decide) (g3_rd W)
  have hbd := fun (a : Option Addr) (m cap : Nat) (W : World) (h : By W a m (frameC 3 [3] (sumB 3 [3]) ++ [0])) hcap => frRead_bad 3 a m cap [3] (sumB 3 [3]) [0] 13 W h hcap (by decide) (by decide) (by decide) (sumB_len _ _) (by decide) (.inl ⟨by simp, rfl⟩)
  have hse := fun (a : Option Addr) (c : Nat) (W : World) (h : By W a 1 [3]) hc => frSeal_yes 3 a 1 c [3] W h hc (by decide) (by decide) (by decide)
  have hF12 : (frameB 3 [3]).length = 12 := by
    unfold frameB
    rw [frameC_len _ _ _ (sumB_len _ _), numB_1 (by decide), numB_1 (by decide)]
    rfl
  have hF4 : (frameB 3 [3]).take 4 = [3, 1, 3, 8] := by
    have e1 : numB 3 = [3] := by kernel_rfl
    have e2 : numB 1 = [1] := by kernel_rfl
    have e3 : numB 8 = [8] := by kernel_rfl
    unfold frameB frameC
    rw [sumB_len, e1, e3, show ([3] : List UInt8).length = 1 from rfl, e2]
    rfl
  rw [show frameC 3 [3] (sumB 3 [3]) = frameB 3 [3] from rfl] at hbd
  rw [hF12] at hmk hse
  obtain ⟨F, hF⟩ : ∃ F, frameB 3 [3] = F := ⟨_, rfl⟩
  rw [hF] at hmk hrd hbd hse hF12 hF4
  clear hF
  have HMK := Lib.hid hmk
  have HRD := Lib.hid hrd
  have HBD := Lib.hid hbd
  have HSE := Lib.hid hse
  have HF4 := Lib.hid hF4
  have HF12 := Lib.hid hF12
  clear hmk hrd hbd hse hF4 hF12
  have hFF : (F == F) = true := by simp
  (try simp only [nsl, Value.cells, unB] at st)
  (try clear hc); have hc := st.facts; (try simp only [nfl, nft, Nat.reduceAdd] at hc)
  go_enter Tryz.func6, Tryz.ntmps6
  go_wp2_with fail
  refine (HMK.out _).mono ?_
  rintro en w ⟨pa, pc, rfl, hfr⟩
  have HPC := Lib.hid hfr.by.1
  obtain ⟨gb, go, rfl, _⟩ := hfr.by.2.2 (by decide)
  replace st := st.fresh hfr
  clear hfr
  replace st := st.freezeRow (i := 1) (xs := F) get1
  (try simp only [nsl, Value.cells, unB] at st)
  (try clear hc); have hc := st.facts; (try simp only [nfl, nft, Nat.reduceAdd] at hc)
  go_wp2_with fail
  obtain ⟨fr', al', st', back⟩ := st.sub [1] (by decide) (by simp)
  (try simp only [nsl, Value.cells, unB] at st')
  refine (HRD.out _ _ _ _ _ _ st' HPC.out).mono ?_
  clear st'
  rintro en w ⟨x, rfl, hxs, hcc, st'⟩
  replace st := back _ _ (by simp) st'
  clear back st'
  (try simp only [nsl, Value.cells, unB] at st)
  (try clear hc); have hc := st.facts; (try simp only [nfl, nft, Nat.reduceAdd] at hc)
  obtain ⟨mwa, mwc, msa, msc, rfl⟩ := strip_g3 hxs
  have HCC := Lib.hid hcc
  clear hxs hcc
  unfold mgV S
  simp only at st ⊢
  (try simp only [nsl, Value.cells, unB] at st)
  (try clear hc); have hc := st.facts; (try simp only [nfl, nft, Nat.reduceAdd] at hc)
  go_wp2_with (first
      | (((with_reducible refine wl_append ?_ (fun K hK => ?_)); (rfl); (obtain ⟨inf, hinf, hz0, hz1, hz2⟩ := u8InfoF); (refine owp_append rfl st 6 get6 Tryz.underlying26 hinf hz0 hz1 hz2 rfl (by decide) rfl rfl (by first | exact (st.by (i := 1) get1).flat | exact (st.blk (i := 7) get7).flat rfl) (by first | exact B_one _ | simp [Value.oneCell']) (by simp only [maxLen]; omega) (by omega) ?_); (clear hinf hz0 hz1 hz2 inf); (clear st; intro v' w st); (obtain ⟨va', vc', rfl⟩ := own_slice (st.row (i := 6) get6)); (try simp only [Nat.zero_add, List.nil_append] at st)); (try simp only [nsl, Value.cells, unB] at st); (try clear hc); have hc := st.facts; (try simp only [nfl, nft, Nat.reduceAdd] at hc))
      | ((with_reducible refine wl_buildSlice ?_ (fun K hK => ?_)); (rfl); (refine owp_buildRow (o := ⟨some 17, _, _, _, _, _⟩) rfl st 5 1 ?_; refine ⟨0, #[], ?_, by simp, by simp [maxLen], ?_⟩; (focus (go_simp; (first | done | rfl))); (clear st; intro b17 w hb st; clear hb)); (try simp only [nsl, Value.cells, unB] at st); (try clear hc); have hc := st.facts; (try simp only [nfl, nft, Nat.reduceAdd] at hc))
      | ((first
        | ((with_reducible refine wl_alloc ?_ (fun K hK => ?_)); rfl; refine owp_alloc (o := ⟨some 3, _, _, _, _, _⟩) rfl st ?_; apply Exists.intro; apply Exists.intro; refine ⟨?_, ?_⟩; (focus (first | (go_simp; done) | (go_simp; rfl))); (clear st; intro b3 w hb st; clear hb))
        | ((with_reducible refine wl_store ?_ (fun K hK => ?_)); rfl; refine owp_store rfl st ?_; apply Exists.intro; apply Exists.intro; refine ⟨?_, ?_, ?_⟩; (focus (go_simp; try rfl)); (focus (go_simp; try rfl)); (with_reducible refine ⟨5, _, _, _, _, get5, rfl, rfl, ?_, ?_, ?_, ?_⟩); (kernel_rfl); (simp [Value.cells]); (rfl); (clear st; intro w st))
        | ((with_reducible refine wl_buildSlice ?_ (fun K hK => ?_)); rfl; refine owp_buildSlice (o := ⟨some 20, _, _, _, _, _⟩) rfl st ?_; apply Exists.intro; apply Exists.intro; apply Exists.intro; apply Exists.intro; refine ⟨?_, ?_⟩; (focus (go_simp; (first | done | exact ⟨⟨rfl, rfl⟩, rfl⟩ | rfl))); (clear st; intro b20 w hb st; clear hb))); (try simp only [nsl, Value.cells, unB] at st); (try clear hc); have hc := st.facts; (try simp only [nfl, nft, Nat.reduceAdd] at hc)))
  rw [show F.map B ++ [Value.int .u8 0] = (F ++ [0]).map B from by simp [B]] at st
  have hq := st.rowBy (i := 6) get6
  refine (HBD.out va' 13 vc' _ hq.2 hq.1).mono ?_
  rintro en w ⟨rfl, hx⟩
  replace st := st.ext hx
  clear hx hq
  unfold mgV mg0 S
  simp only
  (try simp only [nsl, Value.cells, unB] at st)
  (try clear hc); have hc := st.facts; (try simp only [nfl, nft, Nat.reduceAdd] at hc)
  go_wp2_with ((first
        | ((with_reducible refine wl_store ?_ (fun K hK => ?_)); rfl; refine owp_store rfl st ?_; apply Exists.intro; apply Exists.intro; refine ⟨?_, ?_, ?_⟩; (focus (go_simp; try rfl)); (focus (go_simp; try rfl)); (with_reducible refine ⟨8, _, _, _, _, get8, rfl, rfl, ?_, ?_, ?_, ?_⟩); (kernel_rfl); (simp [Value.cells]); (rfl); (clear st; intro w st))
        | ((with_reducible refine wl_alloc ?_ (fun K hK => ?_)); rfl; refine owp_alloc (o := ⟨some 6, _, _, _, _, _⟩) rfl st ?_; apply Exists.intro; apply Exists.intro; refine ⟨?_, ?_⟩; (focus (first | (go_simp; done) | (go_simp; rfl))); (clear st; intro b6 w hb st; clear hb))); (try simp only [nsl, Value.cells, unB] at st); (try clear hc); have hc := st.facts; (try simp only [nfl, nft, Nat.reduceAdd] at hc))
  have hsl := slice4 gb go pc HPC.out.1
  have H4 : Hid (∀ w, By w (some ⟨gb, go, none⟩) 12 F → By w (some ⟨gb, go, none⟩) 4 [3, 1, 3, 8]) := Lib.hid (fun w h => by have := By.take4 h; rwa [HF4.out] at this)
  have HNO := Lib.hid (fun (W : World) (h : MgOk W ⟨3, 0, 0, [], mwa, 0, mwc, [], msa, 0, msc, []⟩) => frMake_no 0 _ W h (MgL_by (y := g3) rfl g3_L) (.inr (.inl (by decide))))
  have HOK : Hid (∀ w : World, Fl w mwa 0 ([] : List Role) → Fl w msa 0 ([] : List SgnT) → MgOk w ⟨3, 0, 0, [], mwa, 0, mwc, [], msa, 0, msc, []⟩) := Lib.hid (fun w h1 h2 => ⟨⟨HCC.out.1, h1⟩, ⟨HCC.out.2, h2⟩, by simp⟩)
  unfold mgV S at HNO
  simp only at HNO
  refine Rg4.wp_region4_eq #[0, 1, 3, 7, 15, 31, 63, 127, 255, 511, 1023, 2047, 4095, 8191, 16383, 32767, 65535, 131071, 262143, 524287, 1048575, 2097151, 4194303, 8388607, 16777215, 33554431, 67108863, 134217727, 268435455, 536870911, 1073741823, 2147483647, 4294967295, 8589934591, 17179869183, 34359738367, 8589934591, 77309411327, 274877906943, 549755813887, 1099511627775] [28, 33, 34] [6, 15, 27, 35] (fun W' => (Blk W' b3 [.int .i64 3, .int .i64 0, .int .i64 0, .string ⟨#[]⟩, .slice mwa 0 mwc, .slice msa 0 msc]) ∧ By W' (some ⟨gb, go, none⟩) 12 F) [0, 1, 2, 3, 4, 5, 6, 7, 8, 9, 10, 11, 12, 13, 14, 15, 16, 17, 18, 19, 20, 21, 22, 23, 24, 25, 26, 27, 28, 29, 30, 31, 32, 36, 37, 33, 34, 35, 38, 39, 40] (by kernel_rfl) (by kernel_rfl) (by kernel_rfl) (by kernel_rfl) (show Rg4.PB _ by repeat (first | with_reducible exact Rg4.pb_body | with_reducible exact Rg4.pb_bodyD rfl | with_reducible refine Rg4.pb_then ?_ | with_reducible refine Rg4.pb_inBlock ?_ | with_reducible refine Rg4.pb_noGoto ?_)) (⟨st.drew.blk (i := 5) get5, st.drew.by (i := 1) get1⟩) ?_
  replace st := st.drew
  change Rg4.wp4 _ _ _ _ _ _ _ _ _ (World.drew _) _ _
  generalize World.drew _ = w at st ⊢
  (try clear hc); have hc := st.facts; (try simp only [nfl, nft, Nat.reduceAdd] at hc)
  iterate 4 (refine Rg4.w4_any (Rg4.want_none rfl) rfl ?_; apply Exists.intro; refine ⟨fun w' => ?_, ?_⟩; (focus (first | (go_simp; done) | (go_simp; first | rfl | (rw [if_neg] <;> first | rfl | omega) | (rw [if_pos] <;> first | rfl | omega)))); (try simp only [Rg4.nrm]))
  iterate 2 (first | (refine Rg4.w4_any (Rg4.wt rfl rfl rfl) rfl ?_; apply Exists.intro; refine ⟨fun w' => ?_, ?_⟩; (focus (first | (go_simp; done) | (go_simp; first | rfl | (rw [if_neg] <;> first | rfl | omega) | (rw [if_pos] <;> first | rfl | omega)))); (try simp only [Rg4.nrm])) | (refine Rg4.w4_skip (Rg4.uw rfl rfl rfl) ?_; (try simp only [Rg4.nrm])) | (refine Rg4.w4_skip (Rg4.un rfl rfl rfl) ?_; (try simp only [Rg4.nrm])))
  (first | (refine Rg4.w4_read (Rg4.wt rfl rfl rfl) rfl rfl ?_; apply Exists.intro; refine ⟨fun w' hw' hcl' => ?_, ?_⟩; focus (subst hw'; have z4 := conv_bs (P := Tryz.prog) (src := 26) (dst := 9) (c := pc) Tryz.underlying26 Tryz.underlying5 Tryz.underlying9 (H4.out _ (st.by (i := 1) get1)); unfold S at z4; (try (have z5 := conv_bs (P := Tryz.prog) (src := 26) (dst := 9) (c := qc) Tryz.underlying26 Tryz.underlying5 Tryz.underlying9 (st.by (i := 10) get10); unfold S at z5)); (focus (first | (go_simp; done) | (go_simp; first | rfl | (rw [if_neg] <;> first | rfl | omega) | (rw [if_pos] <;> first | rfl | omega))))); (try simp only [Rg4.nrm])) | (refine Rg4.w4_skip (Rg4.uw rfl rfl rfl) ?_; (try simp only [Rg4.nrm])) | (refine Rg4.w4_skip (Rg4.un rfl rfl rfl) ?_; (try simp only [Rg4.nrm])))
  (first | (refine Rg4.w4_any (Rg4.wt rfl rfl rfl) rfl ?_; apply Exists.intro; refine ⟨fun w' => ?_, ?_⟩; (focus (first | (go_simp; done) | (go_simp; first | rfl | (rw [if_neg] <;> first | rfl | omega) | (rw [if_pos] <;> first | rfl | omega)))); (try simp only [Rg4.nrm])) | (refine Rg4.w4_skip (Rg4.uw rfl rfl rfl) ?_; (try simp only [Rg4.nrm])) | (refine Rg4.w4_skip (Rg4.un rfl rfl rfl) ?_; (try simp only [Rg4.nrm])))
  iterate 2 (refine Rg4.w4_any (Rg4.want_none rfl) rfl ?_; apply Exists.intro; refine ⟨fun w' => ?_, ?_⟩; (focus (first | (go_simp; done) | (go_simp; first | rfl | (rw [if_neg] <;> first | rfl | omega) | (rw [if_pos] <;> first | rfl | omega)))); (try simp only [Rg4.nrm]))
  iterate 2 (first | (refine Rg4.w4_any (Rg4.wt rfl rfl rfl) rfl ?_; apply Exists.intro; refine ⟨fun w' => ?_, ?_⟩; (focus (first | (go_simp; done) | (go_simp; first | rfl | (rw [if_neg] <;> first | rfl | omega) | (rw [if_pos] <;> first | rfl | omega)))); (try simp only [Rg4.nrm])) | (refine Rg4.w4_skip (Rg4.uw rfl rfl rfl) ?_; (try simp only [Rg4.nrm])) | (refine Rg4.w4_skip (Rg4.un rfl rfl rfl) ?_; (try simp only [Rg4.nrm])))
  iterate 2 (refine Rg4.w4_any (Rg4.want_none rfl) rfl ?_; apply Exists.intro; refine ⟨fun w' => ?_, ?_⟩; (focus (first | (go_simp; done) | (go_simp; first | rfl | (rw [if_neg] <;> first | rfl | omega) | (rw [if_pos] <;> first | rfl | omega)))); (try simp only [Rg4.nrm]))
  (first | (refine Rg4.w4_any (Rg4.wt rfl rfl rfl) rfl ?_; apply Exists.intro; refine ⟨fun w' => ?_, ?_⟩; (focus (first | (go_simp; done) | (go_simp; first | rfl | (rw [if_neg] <;> first | rfl | omega) | (rw [if_pos] <;> first | rfl | omega)))); (try simp only [Rg4.nrm])) | (refine Rg4.w4_skip (Rg4.uw rfl rfl rfl) ?_; (try simp only [Rg4.nrm])) | (refine Rg4.w4_skip (Rg4.un rfl rfl rfl) ?_; (try simp only [Rg4.nrm])))
  (first | (refine Rg4.w4_read (Rg4.wt rfl rfl rfl) rfl rfl ?_; apply Exists.intro; refine ⟨fun w' hw' hcl' => ?_, ?_⟩; focus (subst hw'; have z4 := conv_bs (P := Tryz.prog) (src := 26) (dst := 9) (c := pc) Tryz.underlying26 Tryz.underlying5 Tryz.underlying9 (H4.out _ (st.by (i := 1) get1)); unfold S at z4; (try (have z5 := conv_bs (P := Tryz.prog) (src := 26) (dst := 9) (c := qc) Tryz.underlying26 Tryz.underlying5 Tryz.underlying9 (st.by (i := 10) get10); unfold S at z5)); (focus (first | (go_simp; done) | (go_simp; first | rfl | (rw [if_neg] <;> first | rfl | omega) | (rw [if_pos] <;> first | rfl | omega))))); (try simp only [Rg4.nrm])) | (refine Rg4.w4_skip (Rg4.uw rfl rfl rfl) ?_; (try simp only [Rg4.nrm])) | (refine Rg4.w4_skip (Rg4.un rfl rfl rfl) ?_; (try simp only [Rg4.nrm])))
  (first | (refine Rg4.w4_any (Rg4.wt rfl rfl rfl) rfl ?_; apply Exists.intro; refine ⟨fun w' => ?_, ?_⟩; (focus (first | (go_simp; done) | (go_simp; first | rfl | (rw [if_neg] <;> first | rfl | omega) | (rw [if_pos] <;> first | rfl | omega)))); (try simp only [Rg4.nrm])) | (refine Rg4.w4_skip (Rg4.uw rfl rfl rfl) ?_; (try simp only [Rg4.nrm])) | (refine Rg4.w4_skip (Rg4.un rfl rfl rfl) ?_; (try simp only [Rg4.nrm])))
  iterate 2 (refine Rg4.w4_any (Rg4.want_none rfl) rfl ?_; apply Exists.intro; refine ⟨fun w' => ?_, ?_⟩; (focus (first | (go_simp; done) | (go_simp; first | rfl | (rw [if_neg] <;> first | rfl | omega) | (rw [if_pos] <;> first | rfl | omega)))); (try simp only [Rg4.nrm]))
  iterate 2 (first | (refine Rg4.w4_any (Rg4.wt rfl rfl rfl) rfl ?_; apply Exists.intro; refine ⟨fun w' => ?_, ?_⟩; (focus (first | (go_simp; done) | (go_simp; first | rfl | (rw [if_neg] <;> first | rfl | omega) | (rw [if_pos] <;> first | rfl | omega)))); (try simp only [Rg4.nrm])) | (refine Rg4.w4_skip (Rg4.uw rfl rfl rfl) ?_; (try simp only [Rg4.nrm])) | (refine Rg4.w4_skip (Rg4.un rfl rfl rfl) ?_; (try simp only [Rg4.nrm])))
  iterate 2 (refine Rg4.w4_any (Rg4.want_none rfl) rfl ?_; apply Exists.intro; refine ⟨fun w' => ?_, ?_⟩; (focus (first | (go_simp; done) | (go_simp; first | rfl | (rw [if_neg] <;> first | rfl | omega) | (rw [if_pos] <;> first | rfl | omega)))); (try simp only [Rg4.nrm]))
  iterate 2 (first | (refine Rg4.w4_any (Rg4.wt rfl rfl rfl) rfl ?_; apply Exists.intro; refine ⟨fun w' => ?_, ?_⟩; (focus (first | (go_simp; done) | (go_simp; first | rfl | (rw [if_neg] <;> first | rfl | omega) | (rw [if_pos] <;> first | rfl | omega)))); (try simp only [Rg4.nrm])) | (refine Rg4.w4_skip (Rg4.uw rfl rfl rfl) ?_; (try simp only [Rg4.nrm])) | (refine Rg4.w4_skip (Rg4.un rfl rfl rfl) ?_; (try simp only [Rg4.nrm])))
  iterate 2 (refine Rg4.w4_any (Rg4.want_none rfl) rfl ?_; apply Exists.intro; refine ⟨fun w' => ?_, ?_⟩; (focus (first | (go_simp; done) | (go_simp; first | rfl | (rw [if_neg] <;> first | rfl | omega) | (rw [if_pos] <;> first | rfl | omega)))); (try simp only [Rg4.nrm]))
  (first | (refine Rg4.w4_read (Rg4.wt rfl rfl rfl) rfl rfl ?_; apply Exists.intro; refine ⟨fun w' hw' hcl' => ?_, ?_⟩; focus (subst hw'; have z4 := conv_bs (P := Tryz.prog) (src := 26) (dst := 9) (c := pc) Tryz.underlying26 Tryz.underlying5 Tryz.underlying9 (H4.out _ (st.by (i := 1) get1)); unfold S at z4; (try (have z5 := conv_bs (P := Tryz.prog) (src := 26) (dst := 9) (c := qc) Tryz.underlying26 Tryz.underlying5 Tryz.underlying9 (st.by (i := 10) get10); unfold S at z5)); (focus (first | (go_simp; done) | (go_simp; first | rfl | (rw [if_neg] <;> first | rfl | omega) | (rw [if_pos] <;> first | rfl | omega))))); (try simp only [Rg4.nrm])) | (refine Rg4.w4_skip (Rg4.uw rfl rfl rfl) ?_; (try simp only [Rg4.nrm])) | (refine Rg4.w4_skip (Rg4.un rfl rfl rfl) ?_; (try simp only [Rg4.nrm])))
  refine Rg4.w4_bar (Rg4.want_of 26 52 true rfl rfl rfl) rfl (fun w' hw' hcl _ K hK => ?_)
  subst hw'
  go_wp2_with fail
  refine (HNO.out _ (HOK.out _ (st.flAt (i := 2) get2) (st.flAt (i := 3) get3))).mono ?_
  rintro en w ⟨rfl, hx⟩
  replace st := st.ext hx
  clear hx
  (try simp only [nsl, Value.cells, unB] at st)
  (try clear hc); have hc := st.facts; (try simp only [nfl, nft, Nat.reduceAdd] at hc)
  refine hK _ _ ⟨⟨st.blk (i := 5) get5, st.by (i := 1) get1⟩, ?_⟩
  clear hK
  (try simp only [Rg4.nrm])
  iterate 2 (first | (refine Rg4.w4_any (Rg4.wt rfl rfl rfl) rfl ?_; apply Exists.intro; refine ⟨fun w' => ?_, ?_⟩; (focus (first | (go_simp; done) | (go_simp; first | rfl | (rw [if_neg] <;> first | rfl | omega) | (rw [if_pos] <;> first | rfl | omega)))); (try simp only [Rg4.nrm])) | (refine Rg4.w4_skip (Rg4.uw rfl rfl rfl) ?_; (try simp only [Rg4.nrm])) | (refine Rg4.w4_skip (Rg4.un rfl rfl rfl) ?_; (try simp only [Rg4.nrm])))
  iterate 2 (refine Rg4.w4_any (Rg4.want_none rfl) rfl ?_; apply Exists.intro; refine ⟨fun w' => ?_, ?_⟩; (focus (first | (go_simp; done) | (go_simp; first | rfl | (rw [if_neg] <;> first | rfl | omega) | (rw [if_pos] <;> first | rfl | omega)))); (try simp only [Rg4.nrm]))
  (first | (refine Rg4.w4_any (Rg4.wt rfl rfl rfl) rfl ?_; apply Exists.intro; refine ⟨fun w' => ?_, ?_⟩; (focus (first | (go_simp; done) | (go_simp; first | rfl | (rw [if_neg] <;> first | rfl | omega) | (rw [if_pos] <;> first | rfl | omega)))); (try simp only [Rg4.nrm])) | (refine Rg4.w4_skip (Rg4.uw rfl rfl rfl) ?_; (try simp only [Rg4.nrm])) | (refine Rg4.w4_skip (Rg4.un rfl rfl rfl) ?_; (try simp only [Rg4.nrm])))
  (first | (refine Rg4.w4_cl (Rg4.wt rfl rfl rfl) rfl ?_; apply Exists.intro; refine ⟨fun w' hcl => ?_, ?_⟩; (focus (have q0 := Blk.cell hcl.1 0; have q1 := Blk.cell hcl.1 1; have q2 := Blk.cell hcl.1 2; have q3 := Blk.cell hcl.1 3; have q4 := Blk.cell hcl.1 4; have q5 := Blk.cell hcl.1 5; have q6 := conv_bs (P := Tryz.prog) (src := 26) (dst := 9) (c := pc) Tryz.underlying26 Tryz.underlying5 Tryz.underlying9 hcl.2; unfold S at q6; (try simp at q0 q1 q2 q3 q4 q5); (focus (first | (go_simp; done) | (go_simp; first | rfl | (rw [if_neg] <;> first | rfl | omega) | (rw [if_pos] <;> first | rfl | omega)))))); (try simp only [Rg4.nrm])) | (refine Rg4.w4_skip (Rg4.uw rfl rfl rfl) ?_; (try simp only [Rg4.nrm])) | (refine Rg4.w4_skip (Rg4.un rfl rfl rfl) ?_; (try simp only [Rg4.nrm])))
  (first | (refine Rg4.w4_bar (Rg4.wt rfl rfl rfl) rfl (fun w' hw' hcl' _ K hK => ?_); subst hw'; (refine owp_buildSlice (o := ⟨some 59, _, _, _, _, _⟩) rfl st ?_; apply Exists.intro; apply Exists.intro; apply Exists.intro; apply Exists.intro; refine ⟨?_, ?_⟩; (focus (go_simp; (first | done | exact ⟨⟨rfl, rfl⟩, rfl⟩ | rfl))); (clear st; intro b59 w hb st; clear hb); (try simp only [nsl, Value.cells, unB] at st); (try clear hc); have hc := st.facts; (try simp only [nfl, nft, Nat.reduceAdd] at hc)); refine hK _ _ ⟨⟨st.blk (i := 5) get5, st.by (i := 1) get1⟩, ?_⟩; (try simp only [Rg4.nrm])) | (refine Rg4.w4_skip (Rg4.uw rfl rfl rfl) ?_; (try simp only [Rg4.nrm])) | (refine Rg4.w4_skip (Rg4.un rfl rfl rfl) ?_; (try simp only [Rg4.nrm])))
  refine Rg4.w4_bar (Rg4.want_of 32 58 true rfl rfl rfl) rfl (fun w' hw' hcl _ K hK => ?_)
  subst hw'
  go_wp2_with fail
  replace st := st.blkToBy2 (i := 9) (b := b59) (n := 1) (xs := [3]) (by exact get9) rfl
  (try simp only [nsl, Value.cells, unB] at st)
  (try clear hc); have hc := st.facts; (try simp only [nfl, nft, Nat.reduceAdd] at hc)
  refine (HSE.out _ 1 _ (st.by (i := 9) get9) ⟨by decide, by simp [maxLen]⟩).mono ?_
  rintro en w ⟨qa, qc, rfl, hfr⟩
  replace st := st.fresh hfr
  clear hfr
  replace st := st.freezeRow (i := 10) (xs := F) get10
  (try simp only [nsl, Value.cells, unB] at st)
  (try clear hc); have hc := st.facts; (try simp only [nfl, nft, Nat.reduceAdd] at hc)
  refine hK _ _ ⟨⟨st.blk (i := 5) get5, st.by (i := 1) get1⟩, ?_⟩
  clear hK
  (try simp only [Rg4.nrm])
  (first | (refine Rg4.w4_read (Rg4.wt rfl rfl rfl) rfl rfl ?_; apply Exists.intro; refine ⟨fun w' hw' hcl' => ?_, ?_⟩; focus (subst hw'; have z4 := conv_bs (P := Tryz.prog) (src := 26) (dst := 9) (c := pc) Tryz.underlying26 Tryz.underlying5 Tryz.underlying9 (H4.out _ (st.by (i := 1) get1)); unfold S at z4; (try (have z5 := conv_bs (P := Tryz.prog) (src := 26) (dst := 9) (c := qc) Tryz.underlying26 Tryz.underlying5 Tryz.underlying9 (st.by (i := 10) get10); unfold S at z5)); (focus (first | (go_simp; done) | (go_simp; first | rfl | (rw [if_neg] <;> first | rfl | omega) | (rw [if_pos] <;> first | rfl | omega))))); (try simp only [Rg4.nrm])) | (refine Rg4.w4_skip (Rg4.uw rfl rfl rfl) ?_; (try simp only [Rg4.nrm])) | (refine Rg4.w4_skip (Rg4.un rfl rfl rfl) ?_; (try simp only [Rg4.nrm])))
  (first | (refine Rg4.w4_any (Rg4.wt rfl rfl rfl) rfl ?_; apply Exists.intro; refine ⟨fun w' => ?_, ?_⟩; (focus (first | (go_simp; done) | (go_simp; first | rfl | (rw [if_neg] <;> first | rfl | omega) | (rw [if_pos] <;> first | rfl | omega)))); (try simp only [Rg4.nrm])) | (refine Rg4.w4_skip (Rg4.uw rfl rfl rfl) ?_; (try simp only [Rg4.nrm])) | (refine Rg4.w4_skip (Rg4.un rfl rfl rfl) ?_; (try simp only [Rg4.nrm])))
  iterate 2 (refine Rg4.w4_any (Rg4.want_none rfl) rfl ?_; apply Exists.intro; refine ⟨fun w' => ?_, ?_⟩; (focus (first | (go_simp; done) | (go_simp; first | rfl | (rw [if_neg] <;> first | rfl | omega) | (rw [if_pos] <;> first | rfl | omega)))); (try simp only [Rg4.nrm]))
  refine Rg4.w4_nil (fun w' hw' hcl' _ => ?_); subst hw'; clear hcl'
  go_wp2_with fail
  go_ret
  exact ⟨rfl, st.ext0⟩
end Go.Proofs.YtekngjkjgmplpaaGreat

namespace Go.Proofs.YtekngjkjgmplpaaGreat
set_option linter.unusedSimpArgs false
set_option linter.unusedVariables false
open Go Go.RowKit
def okB (ok : Bool) (b : Role) : Option Role := if ok then some b else none
theorem okB_t (b : Role) : okB true b = some b := rfl
theorem okB_f (b : Role) : okB false b = none := rfl
set_option maxRecDepth 100000 in
set_option maxHeartbeats 2000000 in
theorem refRoleSet_any (a : Option Addr) (n c : Nat) (l : List Role) (W : World) (h : Fl W a n l) (hn : n ≤ 2000000) (hs : ∀ x ∈ l, x.1.length ≤ 1000000000 ∧ x.2.length ≤ 1000000000) :
    Calls Tryz.prog 30 #[.slice a n c] W fun e w' => ∃ out va vc, e = .returned (.slice va out.length vc) ∧ SSet roleLt roleR l out ∧ FreshI W w' (rowI 45 2 (.slice va out.length vc) out.length (cellsL out)) := by
  have H := Lib.hid h
  have HNL := Lib.hid (And.intro h.1 hs)
  clear h hs
  have st := (Own.startOld W).row_nil 45 2
  (try simp only [nsl, Value.cells, unB] at st)
  (try clear hc); have hc := st.facts; (try simp only [nfl, nft, Nat.reduceAdd] at hc)
  go_enter Tryz.func30, Tryz.ntmps30
  go_wp2_with fail
  go_loopg [3] (left roleLt roleR l []) (fun k v wr => ∃ (out : List Role) (m : Nat) (va : Option Addr) (vc : Nat), v = .slice va m vc ∧ m ≤ 2000000 ∧ Hid (GInv roleLt roleR l out ∧ left roleLt roleR l out ≤ k ∧ m = out.length) ∧ Own (fun _ => False) (fun _ => True) W [oldI W, rowI 45 2 (.slice va m vc) m (cellsL out)] wr)
  case atStart => exact ⟨[], 0, none, 0, rfl, by omega, Lib.hid ⟨GInv.nil _, Nat.le_refl _, rfl⟩, st⟩
  case round =>
    obtain ⟨out, m, va, vc, rfl, hm2, HG, st'⟩ := hrel
    clear st hc
    have st := st'
    clear st'
    (try simp only [nsl, Value.cells, unB] at st)
    (try clear hc); have hc := st.facts; (try simp only [nfl, nft, Nat.reduceAdd] at hc)
    go_wp2_with ((((with_reducible refine wl_alloc ?_ (fun K hK => ?_)); rfl; refine owp_alloc (o := ⟨some 4, _, _, _, _, _⟩) rfl st ?_; apply Exists.intro; apply Exists.intro; refine ⟨?_, ?_⟩; (focus (first | (go_simp; done) | (go_simp; rfl))); (clear st; intro b4 w hb st; clear hb))); (try simp only [nsl, Value.cells, unB] at st); (try clear hc); have hc := st.facts; (try simp only [nfl, nft, Nat.reduceAdd] at hc))
    go_loopg [5, 10] n (fun k vok i wr => ∃ (j : Nat) (ok : Bool) (best : Role), j ≤ n ∧ k = n - j ∧ i = .int .i64 (j : Int) ∧ vok = .bool ok ∧ Hid (pickMin roleLt (cnd roleLt roleR out) (l.take j) = okB ok best) ∧ Own (fun _ => False) (fun _ => True) W [oldI W, rowI 45 2 (.slice va m vc) m (cellsL out), blkI b4 [S best.1, S best.2]] wr)
    case atStart => exact ⟨0, false, ([], []), by omega, by omega, rfl, rfl, Lib.hid (by simp [pickMin, okB]), by first | exact st | simpa [S] using st⟩
    case round =>
      obtain ⟨j, ok, best, hj, rfl, rfl, rfl, HP, st'⟩ := hrel
      clear st hc
      have st := st'
      clear st'
      obtain ⟨bo, bd⟩ := best
      simp only at st
      unfold S at st
      (try simp only [nsl, Value.cells, unB] at st)
      (try clear hc); have hc := st.facts; (try simp only [nfl, nft, Nat.reduceAdd] at hc)
      by_cases hjn : j < n
      · obtain ⟨b, off, ha, hcell⟩ := H.out.role (by omega)
        have hjl : j < l.length := by have := HNL.out.1; omega
        have r0 := st.oldCell (i := 0) get0 (hcell j l[j] (List.getElem?_eq_getElem hjl)).1
        have r1 := st.oldCell (i := 0) get0 (hcell j l[j] (List.getElem?_eq_getElem hjl)).2
        have hts := pickMin_take (lt := roleLt) (cnd roleLt roleR out) l j hjl
        have hxl := HNL.out.2 l[j] (List.getElem_mem hjl)
        have hrr := refRoleRight_any l[j]
        have hlb := refRoleLess_any l[j] (bo, bd)
        clear hcell
        generalize l[j] = x at *
        obtain ⟨o, d⟩ := x
        have HX := Lib.hid hts
        clear hts
        subst ha
        simp only at r0 r1 hxl
        unfold S at r0 r1
        unfold rV S at hrr hlb
        have HLB := Lib.hid hlb
        clear hlb
        go_wp2_with ((first
              | ((with_reducible refine wl_alloc ?_ (fun K hK => ?_)); rfl; refine owp_alloc (o := ⟨some 7, _, _, _, _, _⟩) rfl st ?_; apply Exists.intro; apply Exists.intro; refine ⟨?_, ?_⟩; (focus (first | (go_simp; done) | (go_simp; rfl))); (clear st; intro b7 w hb st; clear hb))
              | ((with_reducible refine wl_store ?_ (fun K hK => ?_)); rfl; refine owp_store rfl st ?_; apply Exists.intro; apply Exists.intro; refine ⟨?_, ?_, ?_⟩; (focus (go_simp; try rfl)); (focus (go_simp; try rfl)); (with_reducible refine ⟨3, _, _, _, _, get3, rfl, rfl, ?_, ?_, ?_, ?_⟩); (kernel_rfl); (simp [Value.cells]); (rfl); (clear st; intro w st))); (try simp only [nsl, Value.cells, unB] at st); (try clear hc); have hc := st.facts; (try simp only [nfl, nft, Nat.reduceAdd] at hc))
        clear r0 r1
        cases hr : roleR (o, d) with
        | false =>
          have HR := Lib.hid (And.intro (And.intro hr hxl) hrr)
          clear hr hrr hxl
          refine Rg4.wp_region4 (Rel := Ext) #[0, 1, 3, 7, 15, 31, 63, 127, 127, 383, 895, 2047, 4095, 127, 16383, 32767, 65535, 131071, 262143, 524287, 1048575, 2097151, 2097151, 8388607, 16777215, 33554431]
            [(1, .val (.bool false)), (14, .val (.bool false)), (23, .val (.bool false))] [] [0, 12, 13, 21, 22] (fun _ => True) [0, 1, 2, 3, 4, 5, 6, 7, 8, 9, 10, 11, 12, 13, 14, 15, 16, 17, 18, 19, 20, 21, 22, 23, 24, 25] (by kernel_rfl) (by kernel_rfl) (by kernel_rfl) (by kernel_rfl) Ext.refl (fun _ _ _ => Ext.trans) (show Rg4.PB _ by repeat (first | with_reducible exact Rg4.pb_body | with_reducible exact Rg4.pb_bodyD rfl | with_reducible refine Rg4.pb_then ?_ | with_reducible refine Rg4.pb_inBlock ?_ | with_reducible refine Rg4.pb_noGoto ?_)) (trivial) ?_
          replace st := st.drew
          change Rg4.wp4 _ _ _ _ _ _ _ _ _ (World.drew _) _ _
          generalize World.drew _ = w at st ⊢
          (try clear hc); have hc := st.facts; (try simp only [nfl, nft, Nat.reduceAdd] at hc)
          (refine Rg4.w4_read (Rg4.want_none rfl) rfl rfl ?_; apply Exists.intro; refine ⟨fun w' hw' hcl' => ?_, ?_⟩; focus (have st' := st.ext hw'; have hc' := st'.facts; (try simp only [nfl, nft, Nat.reduceAdd] at hc'); (focus (first | (go_simp; done) | (go_simp; first | rfl | (rw [if_neg] <;> first | rfl | omega) | (rw [if_pos] <;> first | rfl | omega))))); (try simp only [Rg4.nrm]))
          refine Rg4.w4_some (Rg4.want_none rfl) rfl (fun w' hw' hcl' _ => ?_) ?_
          · refine Rg.relAt_call (by go_simp; exact ⟨rfl, rfl⟩) ?_
            refine (HR.out.2 _ (by have := HR.out.1.2; omega) (by have := HR.out.1.2; omega)).mono ?_
            rintro en w'' ⟨rfl, hx⟩
            exact ⟨_, by rw [HR.out.1.1], hx, trivial, rfl⟩
          rintro v ⟨_, _, _, rfl⟩
          (try simp only [Rg4.nrm])
          (refine Rg4.w4_any (Rg4.want_none rfl) rfl ?_; apply Exists.intro; refine ⟨fun w' => ?_, ?_⟩; (focus (first | (go_simp; done) | (go_simp; first | rfl | (rw [if_neg] <;> first | rfl | omega) | (rw [if_pos] <;> first | rfl | omega)))); (try simp only [Rg4.nrm]))
          iterate 9 (first | (refine Rg4.w4_any (Rg4.wt rfl rfl rfl) rfl ?_; apply Exists.intro; refine ⟨fun w' => ?_, ?_⟩; (focus (first | (go_simp; done) | (go_simp; first | rfl | (rw [if_neg] <;> first | rfl | omega) | (rw [if_pos] <;> first | rfl | omega)))); (try simp only [Rg4.nrm])) | (refine Rg4.w4_skip (Rg4.uw rfl rfl rfl) ?_; (try simp only [Rg4.nrm])) | (refine Rg4.w4_skip (Rg4.un rfl rfl rfl) ?_; (try simp only [Rg4.nrm])))
          iterate 2 (first | (refine Rg4.w4_read (Rg4.wt rfl rfl rfl) rfl rfl ?_; apply Exists.intro; refine ⟨fun w' hw' hcl' => ?_, ?_⟩; focus (have st' := st.ext hw'; have hc' := st'.facts; (try simp only [nfl, nft, Nat.reduceAdd] at hc'); (focus (first | (go_simp; done) | (go_simp; first | rfl | (rw [if_neg] <;> first | rfl | omega) | (rw [if_pos] <;> first | rfl | omega))))); (try simp only [Rg4.nrm])) | (refine Rg4.w4_skip (Rg4.uw rfl rfl rfl) ?_; (try simp only [Rg4.nrm])) | (refine Rg4.w4_skip (Rg4.un rfl rfl rfl) ?_; (try simp only [Rg4.nrm])))
          first | refine Rg4.w4_skip (Rg4.uw rfl rfl rfl) ?_ | refine Rg4.w4_skip (Rg4.un rfl rfl rfl) ?_
          (try simp only [Rg4.nrm])
          (first | (refine Rg4.w4_any (Rg4.wt rfl rfl rfl) rfl ?_; apply Exists.intro; refine ⟨fun w' => ?_, ?_⟩; (focus (first | (go_simp; done) | (go_simp; first | rfl | (rw [if_neg] <;> first | rfl | omega) | (rw [if_pos] <;> first | rfl | omega)))); (try simp only [Rg4.nrm])) | (refine Rg4.w4_skip (Rg4.uw rfl rfl rfl) ?_; (try simp only [Rg4.nrm])) | (refine Rg4.w4_skip (Rg4.un rfl rfl rfl) ?_; (try simp only [Rg4.nrm])))
          iterate 2 (refine Rg4.w4_any (Rg4.want_none rfl) rfl ?_; apply Exists.intro; refine ⟨fun w' => ?_, ?_⟩; (focus (first | (go_simp; done) | (go_simp; first | rfl | (rw [if_neg] <;> first | rfl | omega) | (rw [if_pos] <;> first | rfl | omega)))); (try simp only [Rg4.nrm]))
          iterate 3 (first | (refine Rg4.w4_any (Rg4.wt rfl rfl rfl) rfl ?_; apply Exists.intro; refine ⟨fun w' => ?_, ?_⟩; (focus (first | (go_simp; done) | (go_simp; first | rfl | (rw [if_neg] <;> first | rfl | omega) | (rw [if_pos] <;> first | rfl | omega)))); (try simp only [Rg4.nrm])) | (refine Rg4.w4_skip (Rg4.uw rfl rfl rfl) ?_; (try simp only [Rg4.nrm])) | (refine Rg4.w4_skip (Rg4.un rfl rfl rfl) ?_; (try simp only [Rg4.nrm])))
          iterate 2 (first | (refine Rg4.w4_read (Rg4.wt rfl rfl rfl) rfl rfl ?_; apply Exists.intro; refine ⟨fun w' hw' hcl' => ?_, ?_⟩; focus (have st' := st.ext hw'; have hc' := st'.facts; (try simp only [nfl, nft, Nat.reduceAdd] at hc'); (focus (first | (go_simp; done) | (go_simp; first | rfl | (rw [if_neg] <;> first | rfl | omega) | (rw [if_pos] <;> first | rfl | omega))))); (try simp only [Rg4.nrm])) | (refine Rg4.w4_skip (Rg4.uw rfl rfl rfl) ?_; (try simp only [Rg4.nrm])) | (refine Rg4.w4_skip (Rg4.un rfl rfl rfl) ?_; (try simp only [Rg4.nrm])))
          first | refine Rg4.w4_skip (Rg4.uw rfl rfl rfl) ?_ | refine Rg4.w4_skip (Rg4.un rfl rfl rfl) ?_
          (try simp only [Rg4.nrm])
          (first | (refine Rg4.w4_any (Rg4.wt rfl rfl rfl) rfl ?_; apply Exists.intro; refine ⟨fun w' => ?_, ?_⟩; (focus (first | (go_simp; done) | (go_simp; first | rfl | (rw [if_neg] <;> first | rfl | omega) | (rw [if_pos] <;> first | rfl | omega)))); (try simp only [Rg4.nrm])) | (refine Rg4.w4_skip (Rg4.uw rfl rfl rfl) ?_; (try simp only [Rg4.nrm])) | (refine Rg4.w4_skip (Rg4.un rfl rfl rfl) ?_; (try simp only [Rg4.nrm])))
          (refine Rg4.w4_any (Rg4.want_none rfl) rfl ?_; apply Exists.intro; refine ⟨fun w' => ?_, ?_⟩; (focus (first | (go_simp; done) | (go_simp; first | rfl | (rw [if_neg] <;> first | rfl | omega) | (rw [if_pos] <;> first | rfl | omega)))); (try simp only [Rg4.nrm]))
          refine Rg4.w4_nil (fun w' hw' hcl' _ => ?_); replace st := st.ext hw'; clear hw' hcl'; (try clear hc); have hc := st.facts; (try simp only [nfl, nft, Nat.reduceAdd] at hc)
          have HB : Hid (pickMin roleLt (cnd roleLt roleR out) (l.take (j + 1)) = pickMin roleLt (cnd roleLt roleR out) (l.take j)) := Lib.hid (by rw [HX.out]; simp [cnd, HR.out.1.1])
          go_wp2_with fail
          have st' := st.keep [0, 1, 2] (by decide) (by simp)
          go_roundg (n - (j + 1))
          case measure => omega
          case rel => exact ⟨j + 1, ok, (bo, bd), by omega, by omega, by first | rfl | trivial | go_num, rfl, Lib.hid (by rw [HB.out]; exact HP.out), by simpa [pick, S] using st'⟩
        | true =>
          have HR := Lib.hid (And.intro (And.intro hr hxl) hrr)
          clear hr hrr hxl
          rcases List.eq_nil_or_concat out with ho | ⟨pre, z, ho⟩
          · subst ho
            have hm0 : m = 0 := HG.out.2.2
            subst hm0
            cases ok with
            | false =>
              refine Rg4.wp_region4 (Rel := Ext) #[0, 1, 3, 7, 15, 31, 63, 127, 127, 383, 895, 2047, 4095, 127, 16383, 32767, 65535, 131071, 262143, 524287, 1048575, 2097151, 2097151, 8388607, 16777215, 33554431]
                [(1, .val (.bool true)), (14, .val (.bool false)), (23, .val (.bool false))] [] [0, 12, 13, 21, 22] (fun _ => True) [0, 1, 2, 3, 4, 5, 6, 7, 8, 9, 10, 11, 12, 13, 14, 15, 16, 17, 18, 19, 20, 21, 22, 23, 24, 25] (by kernel_rfl) (by kernel_rfl) (by kernel_rfl) (by kernel_rfl) Ext.refl (fun _ _ _ => Ext.trans) (show Rg4.PB _ by repeat (first | with_reducible exact Rg4.pb_body | with_reducible exact Rg4.pb_bodyD rfl | with_reducible refine Rg4.pb_then ?_ | with_reducible refine Rg4.pb_inBlock ?_ | with_reducible refine Rg4.pb_noGoto ?_)) (trivial) ?_
              replace st := st.drew
              change Rg4.wp4 _ _ _ _ _ _ _ _ _ (World.drew _) _ _
              generalize World.drew _ = w at st ⊢
              (try clear hc); have hc := st.facts; (try simp only [nfl, nft, Nat.reduceAdd] at hc)
              (refine Rg4.w4_read (Rg4.want_none rfl) rfl rfl ?_; apply Exists.intro; refine ⟨fun w' hw' hcl' => ?_, ?_⟩; focus (have st' := st.ext hw'; have hc' := st'.facts; (try simp only [nfl, nft, Nat.reduceAdd] at hc'); (focus (first | (go_simp; done) | (go_simp; first | rfl | (rw [if_neg] <;> first | rfl | omega) | (rw [if_pos] <;> first | rfl | omega))))); (try simp only [Rg4.nrm]))
              refine Rg4.w4_some (Rg4.want_none rfl) rfl (fun w' hw' hcl' _ => ?_) ?_
              · refine Rg.relAt_call (by go_simp; exact ⟨rfl, rfl⟩) ?_
                refine (HR.out.2 _ (by have := HR.out.1.2; omega) (by have := HR.out.1.2; omega)).mono ?_
                rintro en w'' ⟨rfl, hx⟩
                exact ⟨_, by rw [HR.out.1.1], hx, trivial, rfl⟩
              rintro v ⟨_, _, _, rfl⟩
              (try simp only [Rg4.nrm])
              (refine Rg4.w4_any (Rg4.want_none rfl) rfl ?_; apply Exists.intro; refine ⟨fun w' => ?_, ?_⟩; (focus (first | (go_simp; done) | (go_simp; first | rfl | (rw [if_neg] <;> first | rfl | omega) | (rw [if_pos] <;> first | rfl | omega)))); (try simp only [Rg4.nrm]))
              iterate 9 (first | (refine Rg4.w4_any (Rg4.wt rfl rfl rfl) rfl ?_; apply Exists.intro; refine ⟨fun w' => ?_, ?_⟩; (focus (first | (go_simp; done) | (go_simp; first | rfl | (rw [if_neg] <;> first | rfl | omega) | (rw [if_pos] <;> first | rfl | omega)))); (try simp only [Rg4.nrm])) | (refine Rg4.w4_skip (Rg4.uw rfl rfl rfl) ?_; (try simp only [Rg4.nrm])) | (refine Rg4.w4_skip (Rg4.un rfl rfl rfl) ?_; (try simp only [Rg4.nrm])))
              iterate 2 (first | (refine Rg4.w4_read (Rg4.wt rfl rfl rfl) rfl rfl ?_; apply Exists.intro; refine ⟨fun w' hw' hcl' => ?_, ?_⟩; focus (have st' := st.ext hw'; have hc' := st'.facts; (try simp only [nfl, nft, Nat.reduceAdd] at hc'); (focus (first | (go_simp; done) | (go_simp; first | rfl | (rw [if_neg] <;> first | rfl | omega) | (rw [if_pos] <;> first | rfl | omega))))); (try simp only [Rg4.nrm])) | (refine Rg4.w4_skip (Rg4.uw rfl rfl rfl) ?_; (try simp only [Rg4.nrm])) | (refine Rg4.w4_skip (Rg4.un rfl rfl rfl) ?_; (try simp only [Rg4.nrm])))
              first | refine Rg4.w4_skip (Rg4.uw rfl rfl rfl) ?_ | refine Rg4.w4_skip (Rg4.un rfl rfl rfl) ?_
              (try simp only [Rg4.nrm])
              (first | (refine Rg4.w4_any (Rg4.wt rfl rfl rfl) rfl ?_; apply Exists.intro; refine ⟨fun w' => ?_, ?_⟩; (focus (first | (go_simp; done) | (go_simp; first | rfl | (rw [if_neg] <;> first | rfl | omega) | (rw [if_pos] <;> first | rfl | omega)))); (try simp only [Rg4.nrm])) | (refine Rg4.w4_skip (Rg4.uw rfl rfl rfl) ?_; (try simp only [Rg4.nrm])) | (refine Rg4.w4_skip (Rg4.un rfl rfl rfl) ?_; (try simp only [Rg4.nrm])))
              iterate 2 (refine Rg4.w4_any (Rg4.want_none rfl) rfl ?_; apply Exists.intro; refine ⟨fun w' => ?_, ?_⟩; (focus (first | (go_simp; done) | (go_simp; first | rfl | (rw [if_neg] <;> first | rfl | omega) | (rw [if_pos] <;> first | rfl | omega)))); (try simp only [Rg4.nrm]))
              iterate 3 (first | (refine Rg4.w4_any (Rg4.wt rfl rfl rfl) rfl ?_; apply Exists.intro; refine ⟨fun w' => ?_, ?_⟩; (focus (first | (go_simp; done) | (go_simp; first | rfl | (rw [if_neg] <;> first | rfl | omega) | (rw [if_pos] <;> first | rfl | omega)))); (try simp only [Rg4.nrm])) | (refine Rg4.w4_skip (Rg4.uw rfl rfl rfl) ?_; (try simp only [Rg4.nrm])) | (refine Rg4.w4_skip (Rg4.un rfl rfl rfl) ?_; (try simp only [Rg4.nrm])))
              iterate 2 (first | (refine Rg4.w4_read (Rg4.wt rfl rfl rfl) rfl rfl ?_; apply Exists.intro; refine ⟨fun w' hw' hcl' => ?_, ?_⟩; focus (have st' := st.ext hw'; have hc' := st'.facts; (try simp only [nfl, nft, Nat.reduceAdd] at hc'); (focus (first | (go_simp; done) | (go_simp; first | rfl | (rw [if_neg] <;> first | rfl | omega) | (rw [if_pos] <;> first | rfl | omega))))); (try simp only [Rg4.nrm])) | (refine Rg4.w4_skip (Rg4.uw rfl rfl rfl) ?_; (try simp only [Rg4.nrm])) | (refine Rg4.w4_skip (Rg4.un rfl rfl rfl) ?_; (try simp only [Rg4.nrm])))
              first | refine Rg4.w4_skip (Rg4.uw rfl rfl rfl) ?_ | refine Rg4.w4_skip (Rg4.un rfl rfl rfl) ?_
              (try simp only [Rg4.nrm])
              (first | (refine Rg4.w4_any (Rg4.wt rfl rfl rfl) rfl ?_; apply Exists.intro; refine ⟨fun w' => ?_, ?_⟩; (focus (first | (go_simp; done) | (go_simp; first | rfl | (rw [if_neg] <;> first | rfl | omega) | (rw [if_pos] <;> first | rfl | omega)))); (try simp only [Rg4.nrm])) | (refine Rg4.w4_skip (Rg4.uw rfl rfl rfl) ?_; (try simp only [Rg4.nrm])) | (refine Rg4.w4_skip (Rg4.un rfl rfl rfl) ?_; (try simp only [Rg4.nrm])))
              (refine Rg4.w4_any (Rg4.want_none rfl) rfl ?_; apply Exists.intro; refine ⟨fun w' => ?_, ?_⟩; (focus (first | (go_simp; done) | (go_simp; first | rfl | (rw [if_neg] <;> first | rfl | omega) | (rw [if_pos] <;> first | rfl | omega)))); (try simp only [Rg4.nrm]))
              refine Rg4.w4_nil (fun w' hw' hcl' _ => ?_); replace st := st.ext hw'; clear hw' hcl'; (try clear hc); have hc := st.facts; (try simp only [nfl, nft, Nat.reduceAdd] at hc)
              have HB : Hid (pickMin roleLt (cnd roleLt roleR []) (l.take (j + 1)) = some (o, d)) := Lib.hid (by rw [HX.out]; simp [cnd, HR.out.1.1, HP.out, okB_f])
              go_wp2_with ((((with_reducible refine wl_store ?_ (fun K hK => ?_)); rfl; refine owp_store rfl st ?_; apply Exists.intro; apply Exists.intro; refine ⟨?_, ?_, ?_⟩; (focus (go_simp; try rfl)); (focus (go_simp; try rfl)); (with_reducible refine ⟨2, _, _, _, _, get2, rfl, rfl, ?_, ?_, ?_, ?_⟩); (kernel_rfl); (simp [Value.cells]); (rfl); (clear st; intro w st))); (try simp only [nsl, Value.cells, unB] at st); (try clear hc); have hc := st.facts; (try simp only [nfl, nft, Nat.reduceAdd] at hc))
              have st' := st.keep [0, 1, 2] (by decide) (by simp)
              go_roundg (n - (j + 1))
              case measure => omega
              case rel => exact ⟨j + 1, true, (o, d), by omega, by omega, by first | rfl | trivial | go_num, rfl, Lib.hid (by rw [HB.out]; rfl), by simpa [pick, S] using st'⟩
            | true =>
              cases hlt : roleLt (o, d) (bo, bd) with
              | true =>
                have HLT := Lib.hid hlt
                clear hlt
                refine Rg4.wp_region4 (Rel := Ext) #[0, 1, 3, 7, 15, 31, 63, 127, 127, 383, 895, 2047, 4095, 127, 16383, 32767, 65535, 131071, 262143, 524287, 1048575, 2097151, 2097151, 8388607, 16777215, 33554431]
                  [(1, .val (.bool true)), (14, .val (.bool false)), (23, .val (.bool true))] [] [0, 12, 13, 21, 22] (fun _ => True) [0, 1, 2, 3, 4, 5, 6, 7, 8, 9, 10, 11, 12, 13, 14, 15, 16, 17, 18, 19, 20, 21, 22, 23, 24, 25] (by kernel_rfl) (by kernel_rfl) (by kernel_rfl) (by kernel_rfl) Ext.refl (fun _ _ _ => Ext.trans) (show Rg4.PB _ by repeat (first | with_reducible exact Rg4.pb_body | with_reducible exact Rg4.pb_bodyD rfl | with_reducible refine Rg4.pb_then ?_ | with_reducible refine Rg4.pb_inBlock ?_ | with_reducible refine Rg4.pb_noGoto ?_)) (trivial) ?_
                replace st := st.drew
                change Rg4.wp4 _ _ _ _ _ _ _ _ _ (World.drew _) _ _
                generalize World.drew _ = w at st ⊢
                (try clear hc); have hc := st.facts; (try simp only [nfl, nft, Nat.reduceAdd] at hc)
                (refine Rg4.w4_read (Rg4.want_none rfl) rfl rfl ?_; apply Exists.intro; refine ⟨fun w' hw' hcl' => ?_, ?_⟩; focus (have st' := st.ext hw'; have hc' := st'.facts; (try simp only [nfl, nft, Nat.reduceAdd] at hc'); (focus (first | (go_simp; done) | (go_simp; first | rfl | (rw [if_neg] <;> first | rfl | omega) | (rw [if_pos] <;> first | rfl | omega))))); (try simp only [Rg4.nrm]))
                refine Rg4.w4_some (Rg4.want_none rfl) rfl (fun w' hw' hcl' _ => ?_) ?_
                · refine Rg.relAt_call (by go_simp; exact ⟨rfl, rfl⟩) ?_
                  refine (HR.out.2 _ (by have := HR.out.1.2; omega) (by have := HR.out.1.2; omega)).mono ?_
                  rintro en w'' ⟨rfl, hx⟩
                  exact ⟨_, by rw [HR.out.1.1], hx, trivial, rfl⟩
                rintro v ⟨_, _, _, rfl⟩
                (try simp only [Rg4.nrm])
                (refine Rg4.w4_any (Rg4.want_none rfl) rfl ?_; apply Exists.intro; refine ⟨fun w' => ?_, ?_⟩; (focus (first | (go_simp; done) | (go_simp; first | rfl | (rw [if_neg] <;> first | rfl | omega) | (rw [if_pos] <;> first | rfl | omega)))); (try simp only [Rg4.nrm]))
                iterate 9 (first | (refine Rg4.w4_any (Rg4.wt rfl rfl rfl) rfl ?_; apply Exists.intro; refine ⟨fun w' => ?_, ?_⟩; (focus (first | (go_simp; done) | (go_simp; first | rfl | (rw [if_neg] <;> first | rfl | omega) | (rw [if_pos] <;> first | rfl | omega)))); (try simp only [Rg4.nrm])) | (refine Rg4.w4_skip (Rg4.uw rfl rfl rfl) ?_; (try simp only [Rg4.nrm])) | (refine Rg4.w4_skip (Rg4.un rfl rfl rfl) ?_; (try simp only [Rg4.nrm])))
                iterate 2 (first | (refine Rg4.w4_read (Rg4.wt rfl rfl rfl) rfl rfl ?_; apply Exists.intro; refine ⟨fun w' hw' hcl' => ?_, ?_⟩; focus (have st' := st.ext hw'; have hc' := st'.facts; (try simp only [nfl, nft, Nat.reduceAdd] at hc'); (focus (first | (go_simp; done) | (go_simp; first | rfl | (rw [if_neg] <;> first | rfl | omega) | (rw [if_pos] <;> first | rfl | omega))))); (try simp only [Rg4.nrm])) | (refine Rg4.w4_skip (Rg4.uw rfl rfl rfl) ?_; (try simp only [Rg4.nrm])) | (refine Rg4.w4_skip (Rg4.un rfl rfl rfl) ?_; (try simp only [Rg4.nrm])))
                first | refine Rg4.w4_skip (Rg4.uw rfl rfl rfl) ?_ | refine Rg4.w4_skip (Rg4.un rfl rfl rfl) ?_
                (try simp only [Rg4.nrm])
                (first | (refine Rg4.w4_any (Rg4.wt rfl rfl rfl) rfl ?_; apply Exists.intro; refine ⟨fun w' => ?_, ?_⟩; (focus (first | (go_simp; done) | (go_simp; first | rfl | (rw [if_neg] <;> first | rfl | omega) | (rw [if_pos] <;> first | rfl | omega)))); (try simp only [Rg4.nrm])) | (refine Rg4.w4_skip (Rg4.uw rfl rfl rfl) ?_; (try simp only [Rg4.nrm])) | (refine Rg4.w4_skip (Rg4.un rfl rfl rfl) ?_; (try simp only [Rg4.nrm])))
                iterate 2 (refine Rg4.w4_any (Rg4.want_none rfl) rfl ?_; apply Exists.intro; refine ⟨fun w' => ?_, ?_⟩; (focus (first | (go_simp; done) | (go_simp; first | rfl | (rw [if_neg] <;> first | rfl | omega) | (rw [if_pos] <;> first | rfl | omega)))); (try simp only [Rg4.nrm]))
                iterate 3 (first | (refine Rg4.w4_any (Rg4.wt rfl rfl rfl) rfl ?_; apply Exists.intro; refine ⟨fun w' => ?_, ?_⟩; (focus (first | (go_simp; done) | (go_simp; first | rfl | (rw [if_neg] <;> first | rfl | omega) | (rw [if_pos] <;> first | rfl | omega)))); (try simp only [Rg4.nrm])) | (refine Rg4.w4_skip (Rg4.uw rfl rfl rfl) ?_; (try simp only [Rg4.nrm])) | (refine Rg4.w4_skip (Rg4.un rfl rfl rfl) ?_; (try simp only [Rg4.nrm])))
                iterate 2 (first | (refine Rg4.w4_read (Rg4.wt rfl rfl rfl) rfl rfl ?_; apply Exists.intro; refine ⟨fun w' hw' hcl' => ?_, ?_⟩; focus (have st' := st.ext hw'; have hc' := st'.facts; (try simp only [nfl, nft, Nat.reduceAdd] at hc'); (focus (first | (go_simp; done) | (go_simp; first | rfl | (rw [if_neg] <;> first | rfl | omega) | (rw [if_pos] <;> first | rfl | omega))))); (try simp only [Rg4.nrm])) | (refine Rg4.w4_skip (Rg4.uw rfl rfl rfl) ?_; (try simp only [Rg4.nrm])) | (refine Rg4.w4_skip (Rg4.un rfl rfl rfl) ?_; (try simp only [Rg4.nrm])))
                refine Rg4.w4_some (Rg4.want_of 20 34 false rfl rfl rfl) rfl (fun w' hw' hcl' _ => ?_) ?_
                · refine Rg.relAt_call (by go_simp; exact ⟨rfl, rfl⟩) ?_
                  refine (HLB.out _).mono ?_
                  rintro en w'' ⟨rfl, hx⟩
                  exact ⟨_, by rw [HLT.out], hx, trivial, rfl⟩
                rintro v ⟨_, _, _, rfl⟩
                (try simp only [Rg4.nrm])
                (first | (refine Rg4.w4_any (Rg4.wt rfl rfl rfl) rfl ?_; apply Exists.intro; refine ⟨fun w' => ?_, ?_⟩; (focus (first | (go_simp; done) | (go_simp; first | rfl | (rw [if_neg] <;> first | rfl | omega) | (rw [if_pos] <;> first | rfl | omega)))); (try simp only [Rg4.nrm])) | (refine Rg4.w4_skip (Rg4.uw rfl rfl rfl) ?_; (try simp only [Rg4.nrm])) | (refine Rg4.w4_skip (Rg4.un rfl rfl rfl) ?_; (try simp only [Rg4.nrm])))
                (refine Rg4.w4_any (Rg4.want_none rfl) rfl ?_; apply Exists.intro; refine ⟨fun w' => ?_, ?_⟩; (focus (first | (go_simp; done) | (go_simp; first | rfl | (rw [if_neg] <;> first | rfl | omega) | (rw [if_pos] <;> first | rfl | omega)))); (try simp only [Rg4.nrm]))
                refine Rg4.w4_nil (fun w' hw' hcl' _ => ?_); replace st := st.ext hw'; clear hw' hcl'; (try clear hc); have hc := st.facts; (try simp only [nfl, nft, Nat.reduceAdd] at hc)
                have HB : Hid (pickMin roleLt (cnd roleLt roleR []) (l.take (j + 1)) = some (o, d)) := Lib.hid (by rw [HX.out]; simp [cnd, HR.out.1.1, HP.out, okB_t, HLT.out])
                go_wp2_with ((((with_reducible refine wl_store ?_ (fun K hK => ?_)); rfl; refine owp_store rfl st ?_; apply Exists.intro; apply Exists.intro; refine ⟨?_, ?_, ?_⟩; (focus (go_simp; try rfl)); (focus (go_simp; try rfl)); (with_reducible refine ⟨2, _, _, _, _, get2, rfl, rfl, ?_, ?_, ?_, ?_⟩); (kernel_rfl); (simp [Value.cells]); (rfl); (clear st; intro w st))); (try simp only [nsl, Value.cells, unB] at st); (try clear hc); have hc := st.facts; (try simp only [nfl, nft, Nat.reduceAdd] at hc))
                have st' := st.keep [0, 1, 2] (by decide) (by simp)
                go_roundg (n - (j + 1))
                case measure => omega
                case rel => exact ⟨j + 1, true, (o, d), by omega, by omega, by first | rfl | trivial | go_num, rfl, Lib.hid (by rw [HB.out]; rfl), by simpa [pick, S] using st'⟩
              | false =>
                have HLT := Lib.hid hlt
                clear hlt
                refine Rg4.wp_region4 (Rel := Ext) #[0, 1, 3, 7, 15, 31, 63, 127, 127, 383, 895, 2047, 4095, 127, 16383, 32767, 65535, 131071, 262143, 524287, 1048575, 2097151, 2097151, 8388607, 16777215, 33554431]
                  [(1, .val (.bool true)), (14, .val (.bool false)), (23, .val (.bool false))] [] [0, 12, 13, 21, 22] (fun _ => True) [0, 1, 2, 3, 4, 5, 6, 7, 8, 9, 10, 11, 12, 13, 14, 15, 16, 17, 18, 19, 20, 21, 22, 23, 24, 25] (by kernel_rfl) (by kernel_rfl) (by kernel_rfl) (by kernel_rfl) Ext.refl (fun _ _ _ => Ext.trans) (show Rg4.PB _ by repeat (first | with_reducible exact Rg4.pb_body | with_reducible exact Rg4.pb_bodyD rfl | with_reducible refine Rg4.pb_then ?_ | with_reducible refine Rg4.pb_inBlock ?_ | with_reducible refine Rg4.pb_noGoto ?_)) (trivial) ?_
                replace st := st.drew
                change Rg4.wp4 _ _ _ _ _ _ _ _ _ (World.drew _) _ _
                generalize World.drew _ = w at st ⊢
                (try clear hc); have hc := st.facts; (try simp only [nfl, nft, Nat.reduceAdd] at hc)
                (refine Rg4.w4_read (Rg4.want_none rfl) rfl rfl ?_; apply Exists.intro; refine ⟨fun w' hw' hcl' => ?_, ?_⟩; focus (have st' := st.ext hw'; have hc' := st'.facts; (try simp only [nfl, nft, Nat.reduceAdd] at hc'); (focus (first | (go_simp; done) | (go_simp; first | rfl | (rw [if_neg] <;> first | rfl | omega) | (rw [if_pos] <;> first | rfl | omega))))); (try simp only [Rg4.nrm]))
                refine Rg4.w4_some (Rg4.want_none rfl) rfl (fun w' hw' hcl' _ => ?_) ?_
                · refine Rg.relAt_call (by go_simp; exact ⟨rfl, rfl⟩) ?_
                  refine (HR.out.2 _ (by have := HR.out.1.2; omega) (by have := HR.out.1.2; omega)).mono ?_
                  rintro en w'' ⟨rfl, hx⟩
                  exact ⟨_, by rw [HR.out.1.1], hx, trivial, rfl⟩
                rintro v ⟨_, _, _, rfl⟩
                (try simp only [Rg4.nrm])
                (refine Rg4.w4_any (Rg4.want_none rfl) rfl ?_; apply Exists.intro; refine ⟨fun w' => ?_, ?_⟩; (focus (first | (go_simp; done) | (go_simp; first | rfl | (rw [if_neg] <;> first | rfl | omega) | (rw [if_pos] <;> first | rfl | omega)))); (try simp only [Rg4.nrm]))
                iterate 9 (first | (refine Rg4.w4_any (Rg4.wt rfl rfl rfl) rfl ?_; apply Exists.intro; refine ⟨fun w' => ?_, ?_⟩; (focus (first | (go_simp; done) | (go_simp; first | rfl | (rw [if_neg] <;> first | rfl | omega) | (rw [if_pos] <;> first | rfl | omega)))); (try simp only [Rg4.nrm])) | (refine Rg4.w4_skip (Rg4.uw rfl rfl rfl) ?_; (try simp only [Rg4.nrm])) | (refine Rg4.w4_skip (Rg4.un rfl rfl rfl) ?_; (try simp only [Rg4.nrm])))
                iterate 2 (first | (refine Rg4.w4_read (Rg4.wt rfl rfl rfl) rfl rfl ?_; apply Exists.intro; refine ⟨fun w' hw' hcl' => ?_, ?_⟩; focus (have st' := st.ext hw'; have hc' := st'.facts; (try simp only [nfl, nft, Nat.reduceAdd] at hc'); (focus (first | (go_simp; done) | (go_simp; first | rfl | (rw [if_neg] <;> first | rfl | omega) | (rw [if_pos] <;> first | rfl | omega))))); (try simp only [Rg4.nrm])) | (refine Rg4.w4_skip (Rg4.uw rfl rfl rfl) ?_; (try simp only [Rg4.nrm])) | (refine Rg4.w4_skip (Rg4.un rfl rfl rfl) ?_; (try simp only [Rg4.nrm])))
                first | refine Rg4.w4_skip (Rg4.uw rfl rfl rfl) ?_ | refine Rg4.w4_skip (Rg4.un rfl rfl rfl) ?_
                (try simp only [Rg4.nrm])
                (first | (refine Rg4.w4_any (Rg4.wt rfl rfl rfl) rfl ?_; apply Exists.intro; refine ⟨fun w' => ?_, ?_⟩; (focus (first | (go_simp; done) | (go_simp; first | rfl | (rw [if_neg] <;> first | rfl | omega) | (rw [if_pos] <;> first | rfl | omega)))); (try simp only [Rg4.nrm])) | (refine Rg4.w4_skip (Rg4.uw rfl rfl rfl) ?_; (try simp only [Rg4.nrm])) | (refine Rg4.w4_skip (Rg4.un rfl rfl rfl) ?_; (try simp only [Rg4.nrm])))
                iterate 2 (refine Rg4.w4_any (Rg4.want_none rfl) rfl ?_; apply Exists.intro; refine ⟨fun w' => ?_, ?_⟩; (focus (first | (go_simp; done) | (go_simp; first | rfl | (rw [if_neg] <;> first | rfl | omega) | (rw [if_pos] <;> first | rfl | omega)))); (try simp only [Rg4.nrm]))
                iterate 3 (first | (refine Rg4.w4_any (Rg4.wt rfl rfl rfl) rfl ?_; apply Exists.intro; refine ⟨fun w' => ?_, ?_⟩; (focus (first | (go_simp; done) | (go_simp; first | rfl | (rw [if_neg] <;> first | rfl | omega) | (rw [if_pos] <;> first | rfl | omega)))); (try simp only [Rg4.nrm])) | (refine Rg4.w4_skip (Rg4.uw rfl rfl rfl) ?_; (try simp only [Rg4.nrm])) | (refine Rg4.w4_skip (Rg4.un rfl rfl rfl) ?_; (try simp only [Rg4.nrm])))
                iterate 2 (first | (refine Rg4.w4_read (Rg4.wt rfl rfl rfl) rfl rfl ?_; apply Exists.intro; refine ⟨fun w' hw' hcl' => ?_, ?_⟩; focus (have st' := st.ext hw'; have hc' := st'.facts; (try simp only [nfl, nft, Nat.reduceAdd] at hc'); (focus (first | (go_simp; done) | (go_simp; first | rfl | (rw [if_neg] <;> first | rfl | omega) | (rw [if_pos] <;> first | rfl | omega))))); (try simp only [Rg4.nrm])) | (refine Rg4.w4_skip (Rg4.uw rfl rfl rfl) ?_; (try simp only [Rg4.nrm])) | (refine Rg4.w4_skip (Rg4.un rfl rfl rfl) ?_; (try simp only [Rg4.nrm])))
                refine Rg4.w4_some (Rg4.want_of 20 34 false rfl rfl rfl) rfl (fun w' hw' hcl' _ => ?_) ?_
                · refine Rg.relAt_call (by go_simp; exact ⟨rfl, rfl⟩) ?_
                  refine (HLB.out _).mono ?_
                  rintro en w'' ⟨rfl, hx⟩
                  exact ⟨_, by rw [HLT.out], hx, trivial, rfl⟩
                rintro v ⟨_, _, _, rfl⟩
                (try simp only [Rg4.nrm])
                (first | (refine Rg4.w4_any (Rg4.wt rfl rfl rfl) rfl ?_; apply Exists.intro; refine ⟨fun w' => ?_, ?_⟩; (focus (first | (go_simp; done) | (go_simp; first | rfl | (rw [if_neg] <;> first | rfl | omega) | (rw [if_pos] <;> first | rfl | omega)))); (try simp only [Rg4.nrm])) | (refine Rg4.w4_skip (Rg4.uw rfl rfl rfl) ?_; (try simp only [Rg4.nrm])) | (refine Rg4.w4_skip (Rg4.un rfl rfl rfl) ?_; (try simp only [Rg4.nrm])))
                (refine Rg4.w4_any (Rg4.want_none rfl) rfl ?_; apply Exists.intro; refine ⟨fun w' => ?_, ?_⟩; (focus (first | (go_simp; done) | (go_simp; first | rfl | (rw [if_neg] <;> first | rfl | omega) | (rw [if_pos] <;> first | rfl | omega)))); (try simp only [Rg4.nrm]))
                refine Rg4.w4_nil (fun w' hw' hcl' _ => ?_); replace st := st.ext hw'; clear hw' hcl'; (try clear hc); have hc := st.facts; (try simp only [nfl, nft, Nat.reduceAdd] at hc)
                have HB : Hid (pickMin roleLt (cnd roleLt roleR []) (l.take (j + 1)) = pickMin roleLt (cnd roleLt roleR []) (l.take j)) := Lib.hid (by rw [HX.out]; simp [cnd, HR.out.1.1, HP.out, okB_t, HLT.out])
                go_wp2_with fail
                have st' := st.keep [0, 1, 2] (by decide) (by simp)
                go_roundg (n - (j + 1))
                case measure => omega
                case rel => exact ⟨j + 1, true, (bo, bd), by omega, by omega, by first | rfl | trivial | go_num, rfl, Lib.hid (by rw [HB.out]; exact HP.out), by simpa [pick, S] using st'⟩
          · rw [List.concat_eq_append] at ho
            have hmq : m = pre.length + 1 := by have := HG.out.2.2; rw [ho] at this; simpa using this
            have hlast : out.getLast? = some z := by rw [ho]; simp
            have hoz : out[pre.length]? = some z := by rw [ho]; simp
            have hrz := role_get hoz
            have hlz := refRoleLess_any z (o, d)
            clear ho hoz
            generalize pre.length = q at *
            obtain ⟨zo, zd⟩ := z
            have hw : IntKind.i64.wrap ((m : Int) - 1) = (q : Int) := by rw [IntWalk.i64_in _ ⟨by omega, by omega⟩]; omega
            have hb0 : ((m : Int) == 0) = false := by simp; omega
            have hqm : q < m := by omega
            obtain ⟨g, cap, hv, hcap, _⟩ := st.rowAt (i := 1) get1 (by omega)
            injection hv with hv1 hv2 hv3
            subst hv1 hv3
            clear hmq
            simp only at hrz
            unfold S at hrz
            unfold rV S at hlz
            have HRZ := Lib.hid hrz
            have HLZ := Lib.hid hlz
            have HLA := Lib.hid hlast
            clear hrz hlz hlast hcap
            cases hzx : roleLt (zo, zd) (o, d) with
            | false =>
              have HZ := Lib.hid hzx
              clear hzx
              refine Rg4.wp_region4 (Rel := Ext) #[0, 1, 3, 7, 15, 31, 63, 127, 127, 383, 895, 2047, 4095, 127, 16383, 32767, 65535, 131071, 262143, 524287, 1048575, 2097151, 2097151, 8388607, 16777215, 33554431]
                [(1, .val (.bool true)), (14, .val (.bool false)), (23, .val (.bool false))] [] [0, 12, 13, 21, 22] (fun _ => True) [0, 1, 2, 3, 4, 5, 6, 7, 8, 9, 10, 11, 12, 13, 14, 15, 16, 17, 18, 19, 20, 21, 22, 23, 24, 25] (by kernel_rfl) (by kernel_rfl) (by kernel_rfl) (by kernel_rfl) Ext.refl (fun _ _ _ => Ext.trans) (show Rg4.PB _ by repeat (first | with_reducible exact Rg4.pb_body | with_reducible exact Rg4.pb_bodyD rfl | with_reducible refine Rg4.pb_then ?_ | with_reducible refine Rg4.pb_inBlock ?_ | with_reducible refine Rg4.pb_noGoto ?_)) (trivial) ?_
              replace st := st.drew
              change Rg4.wp4 _ _ _ _ _ _ _ _ _ (World.drew _) _ _
              generalize World.drew _ = w at st ⊢
              (try clear hc); have hc := st.facts; (try simp only [nfl, nft, Nat.reduceAdd] at hc)
              (refine Rg4.w4_read (Rg4.want_none rfl) rfl rfl ?_; apply Exists.intro; refine ⟨fun w' hw' hcl' => ?_, ?_⟩; focus (have st' := st.ext hw'; have hc' := st'.facts; (try simp only [nfl, nft, Nat.reduceAdd] at hc'); have r0 := st'.rowC (i := 1) get1 _ _ HRZ.out.1; have r1 := st'.rowC (i := 1) get1 _ _ HRZ.out.2; (focus (first | (go_simp; done) | (go_simp; first | rfl | (rw [if_neg] <;> first | rfl | omega) | (rw [if_pos] <;> first | rfl | omega))))); (try simp only [Rg4.nrm]))
              refine Rg4.w4_some (Rg4.want_none rfl) rfl (fun w' hw' hcl' _ => ?_) ?_
              · refine Rg.relAt_call (by go_simp; exact ⟨rfl, rfl⟩) ?_
                refine (HR.out.2 _ (by have := HR.out.1.2; omega) (by have := HR.out.1.2; omega)).mono ?_
                rintro en w'' ⟨rfl, hx⟩
                exact ⟨_, by rw [HR.out.1.1], hx, trivial, rfl⟩
              rintro v ⟨_, _, _, rfl⟩
              (try simp only [Rg4.nrm])
              (refine Rg4.w4_any (Rg4.want_none rfl) rfl ?_; apply Exists.intro; refine ⟨fun w' => ?_, ?_⟩; (focus (first | (go_simp; done) | (go_simp; first | rfl | (rw [if_neg] <;> first | rfl | omega) | (rw [if_pos] <;> first | rfl | omega)))); (try simp only [Rg4.nrm]))
              iterate 9 (first | (refine Rg4.w4_any (Rg4.wt rfl rfl rfl) rfl ?_; apply Exists.intro; refine ⟨fun w' => ?_, ?_⟩; (focus (first | (go_simp; done) | (go_simp; first | rfl | (rw [if_neg] <;> first | rfl | omega) | (rw [if_pos] <;> first | rfl | omega)))); (try simp only [Rg4.nrm])) | (refine Rg4.w4_skip (Rg4.uw rfl rfl rfl) ?_; (try simp only [Rg4.nrm])) | (refine Rg4.w4_skip (Rg4.un rfl rfl rfl) ?_; (try simp only [Rg4.nrm])))
              iterate 2 (first | (refine Rg4.w4_read (Rg4.wt rfl rfl rfl) rfl rfl ?_; apply Exists.intro; refine ⟨fun w' hw' hcl' => ?_, ?_⟩; focus (have st' := st.ext hw'; have hc' := st'.facts; (try simp only [nfl, nft, Nat.reduceAdd] at hc'); have r0 := st'.rowC (i := 1) get1 _ _ HRZ.out.1; have r1 := st'.rowC (i := 1) get1 _ _ HRZ.out.2; (focus (first | (go_simp; done) | (go_simp; first | rfl | (rw [if_neg] <;> first | rfl | omega) | (rw [if_pos] <;> first | rfl | omega))))); (try simp only [Rg4.nrm])) | (refine Rg4.w4_skip (Rg4.uw rfl rfl rfl) ?_; (try simp only [Rg4.nrm])) | (refine Rg4.w4_skip (Rg4.un rfl rfl rfl) ?_; (try simp only [Rg4.nrm])))
              refine Rg4.w4_some (Rg4.want_of 6 20 false rfl rfl rfl) rfl (fun w' hw' hcl' _ => ?_) ?_
              · refine Rg.relAt_call (by go_simp; exact ⟨rfl, rfl⟩) ?_
                refine (HLZ.out _).mono ?_
                rintro en w'' ⟨rfl, hx⟩
                exact ⟨_, by rw [HZ.out], hx, trivial, rfl⟩
              rintro v ⟨_, _, _, rfl⟩
              (try simp only [Rg4.nrm])
              (first | (refine Rg4.w4_any (Rg4.wt rfl rfl rfl) rfl ?_; apply Exists.intro; refine ⟨fun w' => ?_, ?_⟩; (focus (first | (go_simp; done) | (go_simp; first | rfl | (rw [if_neg] <;> first | rfl | omega) | (rw [if_pos] <;> first | rfl | omega)))); (try simp only [Rg4.nrm])) | (refine Rg4.w4_skip (Rg4.uw rfl rfl rfl) ?_; (try simp only [Rg4.nrm])) | (refine Rg4.w4_skip (Rg4.un rfl rfl rfl) ?_; (try simp only [Rg4.nrm])))
              iterate 2 (refine Rg4.w4_any (Rg4.want_none rfl) rfl ?_; apply Exists.intro; refine ⟨fun w' => ?_, ?_⟩; (focus (first | (go_simp; done) | (go_simp; first | rfl | (rw [if_neg] <;> first | rfl | omega) | (rw [if_pos] <;> first | rfl | omega)))); (try simp only [Rg4.nrm]))
              iterate 3 (first | (refine Rg4.w4_any (Rg4.wt rfl rfl rfl) rfl ?_; apply Exists.intro; refine ⟨fun w' => ?_, ?_⟩; (focus (first | (go_simp; done) | (go_simp; first | rfl | (rw [if_neg] <;> first | rfl | omega) | (rw [if_pos] <;> first | rfl | omega)))); (try simp only [Rg4.nrm])) | (refine Rg4.w4_skip (Rg4.uw rfl rfl rfl) ?_; (try simp only [Rg4.nrm])) | (refine Rg4.w4_skip (Rg4.un rfl rfl rfl) ?_; (try simp only [Rg4.nrm])))
              iterate 2 (first | (refine Rg4.w4_read (Rg4.wt rfl rfl rfl) rfl rfl ?_; apply Exists.intro; refine ⟨fun w' hw' hcl' => ?_, ?_⟩; focus (have st' := st.ext hw'; have hc' := st'.facts; (try simp only [nfl, nft, Nat.reduceAdd] at hc'); have r0 := st'.rowC (i := 1) get1 _ _ HRZ.out.1; have r1 := st'.rowC (i := 1) get1 _ _ HRZ.out.2; (focus (first | (go_simp; done) | (go_simp; first | rfl | (rw [if_neg] <;> first | rfl | omega) | (rw [if_pos] <;> first | rfl | omega))))); (try simp only [Rg4.nrm])) | (refine Rg4.w4_skip (Rg4.uw rfl rfl rfl) ?_; (try simp only [Rg4.nrm])) | (refine Rg4.w4_skip (Rg4.un rfl rfl rfl) ?_; (try simp only [Rg4.nrm])))
              first | refine Rg4.w4_skip (Rg4.uw rfl rfl rfl) ?_ | refine Rg4.w4_skip (Rg4.un rfl rfl rfl) ?_
              (try simp only [Rg4.nrm])
              (first | (refine Rg4.w4_any (Rg4.wt rfl rfl rfl) rfl ?_; apply Exists.intro; refine ⟨fun w' => ?_, ?_⟩; (focus (first | (go_simp; done) | (go_simp; first | rfl | (rw [if_neg] <;> first | rfl | omega) | (rw [if_pos] <;> first | rfl | omega)))); (try simp only [Rg4.nrm])) | (refine Rg4.w4_skip (Rg4.uw rfl rfl rfl) ?_; (try simp only [Rg4.nrm])) | (refine Rg4.w4_skip (Rg4.un rfl rfl rfl) ?_; (try simp only [Rg4.nrm])))
              (refine Rg4.w4_any (Rg4.want_none rfl) rfl ?_; apply Exists.intro; refine ⟨fun w' => ?_, ?_⟩; (focus (first | (go_simp; done) | (go_simp; first | rfl | (rw [if_neg] <;> first | rfl | omega) | (rw [if_pos] <;> first | rfl | omega)))); (try simp only [Rg4.nrm]))
              refine Rg4.w4_nil (fun w' hw' hcl' _ => ?_); replace st := st.ext hw'; clear hw' hcl'; (try clear hc); have hc := st.facts; (try simp only [nfl, nft, Nat.reduceAdd] at hc)
              have HB : Hid (pickMin roleLt (cnd roleLt roleR out) (l.take (j + 1)) = pickMin roleLt (cnd roleLt roleR out) (l.take j)) := Lib.hid (by rw [HX.out]; simp [cnd, HLA.out, HZ.out])
              go_wp2_with fail
              have st' := st.keep [0, 1, 2] (by decide) (by simp)
              go_roundg (n - (j + 1))
              case measure => omega
              case rel => exact ⟨j + 1, ok, (bo, bd), by omega, by omega, by first | rfl | trivial | go_num, rfl, Lib.hid (by rw [HB.out]; exact HP.out), by simpa [pick, S] using st'⟩
            | true =>
              have HZ := Lib.hid hzx
              clear hzx
              cases ok with
              | false =>
                refine Rg4.wp_region4 (Rel := Ext) #[0, 1, 3, 7, 15, 31, 63, 127, 127, 383, 895, 2047, 4095, 127, 16383, 32767, 65535, 131071, 262143, 524287, 1048575, 2097151, 2097151, 8388607, 16777215, 33554431]
                  [(1, .val (.bool true)), (14, .val (.bool true)), (23, .val (.bool false))] [] [0, 12, 13, 21, 22] (fun _ => True) [0, 1, 2, 3, 4, 5, 6, 7, 8, 9, 10, 11, 12, 13, 14, 15, 16, 17, 18, 19, 20, 21, 22, 23, 24, 25] (by kernel_rfl) (by kernel_rfl) (by kernel_rfl) (by kernel_rfl) Ext.refl (fun _ _ _ => Ext.trans) (show Rg4.PB _ by repeat (first | with_reducible exact Rg4.pb_body | with_reducible exact Rg4.pb_bodyD rfl | with_reducible refine Rg4.pb_then ?_ | with_reducible refine Rg4.pb_inBlock ?_ | with_reducible refine Rg4.pb_noGoto ?_)) (trivial) ?_
                replace st := st.drew
                change Rg4.wp4 _ _ _ _ _ _ _ _ _ (World.drew _) _ _
                generalize World.drew _ = w at st ⊢
                (try clear hc); have hc := st.facts; (try simp only [nfl, nft, Nat.reduceAdd] at hc)
                (refine Rg4.w4_read (Rg4.want_none rfl) rfl rfl ?_; apply Exists.intro; refine ⟨fun w' hw' hcl' => ?_, ?_⟩; focus (have st' := st.ext hw'; have hc' := st'.facts; (try simp only [nfl, nft, Nat.reduceAdd] at hc'); have r0 := st'.rowC (i := 1) get1 _ _ HRZ.out.1; have r1 := st'.rowC (i := 1) get1 _ _ HRZ.out.2; (focus (first | (go_simp; done) | (go_simp; first | rfl | (rw [if_neg] <;> first | rfl | omega) | (rw [if_pos] <;> first | rfl | omega))))); (try simp only [Rg4.nrm]))
                refine Rg4.w4_some (Rg4.want_none rfl) rfl (fun w' hw' hcl' _ => ?_) ?_
                · refine Rg.relAt_call (by go_simp; exact ⟨rfl, rfl⟩) ?_
                  refine (HR.out.2 _ (by have := HR.out.1.2; omega) (by have := HR.out.1.2; omega)).mono ?_
                  rintro en w'' ⟨rfl, hx⟩
                  exact ⟨_, by rw [HR.out.1.1], hx, trivial, rfl⟩
                rintro v ⟨_, _, _, rfl⟩
                (try simp only [Rg4.nrm])
                (refine Rg4.w4_any (Rg4.want_none rfl) rfl ?_; apply Exists.intro; refine ⟨fun w' => ?_, ?_⟩; (focus (first | (go_simp; done) | (go_simp; first | rfl | (rw [if_neg] <;> first | rfl | omega) | (rw [if_pos] <;> first | rfl | omega)))); (try simp only [Rg4.nrm]))
                iterate 9 (first | (refine Rg4.w4_any (Rg4.wt rfl rfl rfl) rfl ?_; apply Exists.intro; refine ⟨fun w' => ?_, ?_⟩; (focus (first | (go_simp; done) | (go_simp; first | rfl | (rw [if_neg] <;> first | rfl | omega) | (rw [if_pos] <;> first | rfl | omega)))); (try simp only [Rg4.nrm])) | (refine Rg4.w4_skip (Rg4.uw rfl rfl rfl) ?_; (try simp only [Rg4.nrm])) | (refine Rg4.w4_skip (Rg4.un rfl rfl rfl) ?_; (try simp only [Rg4.nrm])))
                iterate 2 (first | (refine Rg4.w4_read (Rg4.wt rfl rfl rfl) rfl rfl ?_; apply Exists.intro; refine ⟨fun w' hw' hcl' => ?_, ?_⟩; focus (have st' := st.ext hw'; have hc' := st'.facts; (try simp only [nfl, nft, Nat.reduceAdd] at hc'); have r0 := st'.rowC (i := 1) get1 _ _ HRZ.out.1; have r1 := st'.rowC (i := 1) get1 _ _ HRZ.out.2; (focus (first | (go_simp; done) | (go_simp; first | rfl | (rw [if_neg] <;> first | rfl | omega) | (rw [if_pos] <;> first | rfl | omega))))); (try simp only [Rg4.nrm])) | (refine Rg4.w4_skip (Rg4.uw rfl rfl rfl) ?_; (try simp only [Rg4.nrm])) | (refine Rg4.w4_skip (Rg4.un rfl rfl rfl) ?_; (try simp only [Rg4.nrm])))
                refine Rg4.w4_some (Rg4.want_of 6 20 false rfl rfl rfl) rfl (fun w' hw' hcl' _ => ?_) ?_
                · refine Rg.relAt_call (by go_simp; exact ⟨rfl, rfl⟩) ?_
                  refine (HLZ.out _).mono ?_
                  rintro en w'' ⟨rfl, hx⟩
                  exact ⟨_, by rw [HZ.out], hx, trivial, rfl⟩
                rintro v ⟨_, _, _, rfl⟩
                (try simp only [Rg4.nrm])
                (first | (refine Rg4.w4_any (Rg4.wt rfl rfl rfl) rfl ?_; apply Exists.intro; refine ⟨fun w' => ?_, ?_⟩; (focus (first | (go_simp; done) | (go_simp; first | rfl | (rw [if_neg] <;> first | rfl | omega) | (rw [if_pos] <;> first | rfl | omega)))); (try simp only [Rg4.nrm])) | (refine Rg4.w4_skip (Rg4.uw rfl rfl rfl) ?_; (try simp only [Rg4.nrm])) | (refine Rg4.w4_skip (Rg4.un rfl rfl rfl) ?_; (try simp only [Rg4.nrm])))
                iterate 2 (refine Rg4.w4_any (Rg4.want_none rfl) rfl ?_; apply Exists.intro; refine ⟨fun w' => ?_, ?_⟩; (focus (first | (go_simp; done) | (go_simp; first | rfl | (rw [if_neg] <;> first | rfl | omega) | (rw [if_pos] <;> first | rfl | omega)))); (try simp only [Rg4.nrm]))
                iterate 3 (first | (refine Rg4.w4_any (Rg4.wt rfl rfl rfl) rfl ?_; apply Exists.intro; refine ⟨fun w' => ?_, ?_⟩; (focus (first | (go_simp; done) | (go_simp; first | rfl | (rw [if_neg] <;> first | rfl | omega) | (rw [if_pos] <;> first | rfl | omega)))); (try simp only [Rg4.nrm])) | (refine Rg4.w4_skip (Rg4.uw rfl rfl rfl) ?_; (try simp only [Rg4.nrm])) | (refine Rg4.w4_skip (Rg4.un rfl rfl rfl) ?_; (try simp only [Rg4.nrm])))
                iterate 2 (first | (refine Rg4.w4_read (Rg4.wt rfl rfl rfl) rfl rfl ?_; apply Exists.intro; refine ⟨fun w' hw' hcl' => ?_, ?_⟩; focus (have st' := st.ext hw'; have hc' := st'.facts; (try simp only [nfl, nft, Nat.reduceAdd] at hc'); have r0 := st'.rowC (i := 1) get1 _ _ HRZ.out.1; have r1 := st'.rowC (i := 1) get1 _ _ HRZ.out.2; (focus (first | (go_simp; done) | (go_simp; first | rfl | (rw [if_neg] <;> first | rfl | omega) | (rw [if_pos] <;> first | rfl | omega))))); (try simp only [Rg4.nrm])) | (refine Rg4.w4_skip (Rg4.uw rfl rfl rfl) ?_; (try simp only [Rg4.nrm])) | (refine Rg4.w4_skip (Rg4.un rfl rfl rfl) ?_; (try simp only [Rg4.nrm])))
                first | refine Rg4.w4_skip (Rg4.uw rfl rfl rfl) ?_ | refine Rg4.w4_skip (Rg4.un rfl rfl rfl) ?_
                (try simp only [Rg4.nrm])
                (first | (refine Rg4.w4_any (Rg4.wt rfl rfl rfl) rfl ?_; apply Exists.intro; refine ⟨fun w' => ?_, ?_⟩; (focus (first | (go_simp; done) | (go_simp; first | rfl | (rw [if_neg] <;> first | rfl | omega) | (rw [if_pos] <;> first | rfl | omega)))); (try simp only [Rg4.nrm])) | (refine Rg4.w4_skip (Rg4.uw rfl rfl rfl) ?_; (try simp only [Rg4.nrm])) | (refine Rg4.w4_skip (Rg4.un rfl rfl rfl) ?_; (try simp only [Rg4.nrm])))
                (refine Rg4.w4_any (Rg4.want_none rfl) rfl ?_; apply Exists.intro; refine ⟨fun w' => ?_, ?_⟩; (focus (first | (go_simp; done) | (go_simp; first | rfl | (rw [if_neg] <;> first | rfl | omega) | (rw [if_pos] <;> first | rfl | omega)))); (try simp only [Rg4.nrm]))
                refine Rg4.w4_nil (fun w' hw' hcl' _ => ?_); replace st := st.ext hw'; clear hw' hcl'; (try clear hc); have hc := st.facts; (try simp only [nfl, nft, Nat.reduceAdd] at hc)
                have HB : Hid (pickMin roleLt (cnd roleLt roleR out) (l.take (j + 1)) = some (o, d)) := Lib.hid (by rw [HX.out]; simp [cnd, HLA.out, HZ.out, HR.out.1.1, HP.out, okB_f])
                go_wp2_with ((((with_reducible refine wl_store ?_ (fun K hK => ?_)); rfl; refine owp_store rfl st ?_; apply Exists.intro; apply Exists.intro; refine ⟨?_, ?_, ?_⟩; (focus (go_simp; try rfl)); (focus (go_simp; try rfl)); (with_reducible refine ⟨2, _, _, _, _, get2, rfl, rfl, ?_, ?_, ?_, ?_⟩); (kernel_rfl); (simp [Value.cells]); (rfl); (clear st; intro w st))); (try simp only [nsl, Value.cells, unB] at st); (try clear hc); have hc := st.facts; (try simp only [nfl, nft, Nat.reduceAdd] at hc))
                have st' := st.keep [0, 1, 2] (by decide) (by simp)
                go_roundg (n - (j + 1))
                case measure => omega
                case rel => exact ⟨j + 1, true, (o, d), by omega, by omega, by first | rfl | trivial | go_num, rfl, Lib.hid (by rw [HB.out]; rfl), by simpa [pick, S] using st'⟩
              | true =>
                cases hlt : roleLt (o, d) (bo, bd) with
                | true =>
                  have HLT := Lib.hid hlt
                  clear hlt
                  refine Rg4.wp_region4 (Rel := Ext) #[0, 1, 3, 7, 15, 31, 63, 127, 127, 383, 895, 2047, 4095, 127, 16383, 32767, 65535, 131071, 262143, 524287, 1048575, 2097151, 2097151, 8388607, 16777215, 33554431]
                    [(1, .val (.bool true)), (14, .val (.bool true)), (23, .val (.bool true))] [] [0, 12, 13, 21, 22] (fun _ => True) [0, 1, 2, 3, 4, 5, 6, 7, 8, 9, 10, 11, 12, 13, 14, 15, 16, 17, 18, 19, 20, 21, 22, 23, 24, 25] (by kernel_rfl) (by kernel_rfl) (by kernel_rfl) (by kernel_rfl) Ext.refl (fun _ _ _ => Ext.trans) (show Rg4.PB _ by repeat (first | with_reducible exact Rg4.pb_body | with_reducible exact Rg4.pb_bodyD rfl | with_reducible refine Rg4.pb_then ?_ | with_reducible refine Rg4.pb_inBlock ?_ | with_reducible refine Rg4.pb_noGoto ?_)) (trivial) ?_
                  replace st := st.drew
                  change Rg4.wp4 _ _ _ _ _ _ _ _ _ (World.drew _) _ _
                  generalize World.drew _ = w at st ⊢
                  (try clear hc); have hc := st.facts; (try simp only [nfl, nft, Nat.reduceAdd] at hc)
                  (refine Rg4.w4_read (Rg4.want_none rfl) rfl rfl ?_; apply Exists.intro; refine ⟨fun w' hw' hcl' => ?_, ?_⟩; focus (have st' := st.ext hw'; have hc' := st'.facts; (try simp only [nfl, nft, Nat.reduceAdd] at hc'); have r0 := st'.rowC (i := 1) get1 _ _ HRZ.out.1; have r1 := st'.rowC (i := 1) get1 _ _ HRZ.out.2; (focus (first | (go_simp; done) | (go_simp; first | rfl | (rw [if_neg] <;> first | rfl | omega) | (rw [if_pos] <;> first | rfl | omega))))); (try simp only [Rg4.nrm]))
                  refine Rg4.w4_some (Rg4.want_none rfl) rfl (fun w' hw' hcl' _ => ?_) ?_
                  · refine Rg.relAt_call (by go_simp; exact ⟨rfl, rfl⟩) ?_
                    refine (HR.out.2 _ (by have := HR.out.1.2; omega) (by have := HR.out.1.2; omega)).mono ?_
                    rintro en w'' ⟨rfl, hx⟩
                    exact ⟨_, by rw [HR.out.1.1], hx, trivial, rfl⟩
                  rintro v ⟨_, _, _, rfl⟩
                  (try simp only [Rg4.nrm])
                  (refine Rg4.w4_any (Rg4.want_none rfl) rfl ?_; apply Exists.intro; refine ⟨fun w' => ?_, ?_⟩; (focus (first | (go_simp; done) | (go_simp; first | rfl | (rw [if_neg] <;> first | rfl | omega) | (rw [if_pos] <;> first | rfl | omega)))); (try simp only [Rg4.nrm]))
                  iterate 9 (first | (refine Rg4.w4_any (Rg4.wt rfl rfl rfl) rfl ?_; apply Exists.intro; refine ⟨fun w' => ?_, ?_⟩; (focus (first | (go_simp; done) | (go_simp; first | rfl | (rw [if_neg] <;> first | rfl | omega) | (rw [if_pos] <;> first | rfl | omega)))); (try simp only [Rg4.nrm])) | (refine Rg4.w4_skip (Rg4.uw rfl rfl rfl) ?_; (try simp only [Rg4.nrm])) | (refine Rg4.w4_skip (Rg4.un rfl rfl rfl) ?_; (try simp only [Rg4.nrm])))
                  iterate 2 (first | (refine Rg4.w4_read (Rg4.wt rfl rfl rfl) rfl rfl ?_; apply Exists.intro; refine ⟨fun w' hw' hcl' => ?_, ?_⟩; focus (have st' := st.ext hw'; have hc' := st'.facts; (try simp only [nfl, nft, Nat.reduceAdd] at hc'); have r0 := st'.rowC (i := 1) get1 _ _ HRZ.out.1; have r1 := st'.rowC (i := 1) get1 _ _ HRZ.out.2; (focus (first | (go_simp; done) | (go_simp; first | rfl | (rw [if_neg] <;> first | rfl | omega) | (rw [if_pos] <;> first | rfl | omega))))); (try simp only [Rg4.nrm])) | (refine Rg4.w4_skip (Rg4.uw rfl rfl rfl) ?_; (try simp only [Rg4.nrm])) | (refine Rg4.w4_skip (Rg4.un rfl rfl rfl) ?_; (try simp only [Rg4.nrm])))
                  refine Rg4.w4_some (Rg4.want_of 6 20 false rfl rfl rfl) rfl (fun w' hw' hcl' _ => ?_) ?_
                  · refine Rg.relAt_call (by go_simp; exact ⟨rfl, rfl⟩) ?_
                    refine (HLZ.out _).mono ?_
                    rintro en w'' ⟨rfl, hx⟩
                    exact ⟨_, by rw [HZ.out], hx, trivial, rfl⟩
                  rintro v ⟨_, _, _, rfl⟩
                  (try simp only [Rg4.nrm])
                  (first | (refine Rg4.w4_any (Rg4.wt rfl rfl rfl) rfl ?_; apply Exists.intro; refine ⟨fun w' => ?_, ?_⟩; (focus (first | (go_simp; done) | (go_simp; first | rfl | (rw [if_neg] <;> first | rfl | omega) | (rw [if_pos] <;> first | rfl | omega)))); (try simp only [Rg4.nrm])) | (refine Rg4.w4_skip (Rg4.uw rfl rfl rfl) ?_; (try simp only [Rg4.nrm])) | (refine Rg4.w4_skip (Rg4.un rfl rfl rfl) ?_; (try simp only [Rg4.nrm])))
                  iterate 2 (refine Rg4.w4_any (Rg4.want_none rfl) rfl ?_; apply Exists.intro; refine ⟨fun w' => ?_, ?_⟩; (focus (first | (go_simp; done) | (go_simp; first | rfl | (rw [if_neg] <;> first | rfl | omega) | (rw [if_pos] <;> first | rfl | omega)))); (try simp only [Rg4.nrm]))
                  iterate 3 (first | (refine Rg4.w4_any (Rg4.wt rfl rfl rfl) rfl ?_; apply Exists.intro; refine ⟨fun w' => ?_, ?_⟩; (focus (first | (go_simp; done) | (go_simp; first | rfl | (rw [if_neg] <;> first | rfl | omega) | (rw [if_pos] <;> first | rfl | omega)))); (try simp only [Rg4.nrm])) | (refine Rg4.w4_skip (Rg4.uw rfl rfl rfl) ?_; (try simp only [Rg4.nrm])) | (refine Rg4.w4_skip (Rg4.un rfl rfl rfl) ?_; (try simp only [Rg4.nrm])))
                  iterate 2 (first | (refine Rg4.w4_read (Rg4.wt rfl rfl rfl) rfl rfl ?_; apply Exists.intro; refine ⟨fun w' hw' hcl' => ?_, ?_⟩; focus (have st' := st.ext hw'; have hc' := st'.facts; (try simp only [nfl, nft, Nat.reduceAdd] at hc'); have r0 := st'.rowC (i := 1) get1 _ _ HRZ.out.1; have r1 := st'.rowC (i := 1) get1 _ _ HRZ.out.2; (focus (first | (go_simp; done) | (go_simp; first | rfl | (rw [if_neg] <;> first | rfl | omega) | (rw [if_pos] <;> first | rfl | omega))))); (try simp only [Rg4.nrm])) | (refine Rg4.w4_skip (Rg4.uw rfl rfl rfl) ?_; (try simp only [Rg4.nrm])) | (refine Rg4.w4_skip (Rg4.un rfl rfl rfl) ?_; (try simp only [Rg4.nrm])))
                  refine Rg4.w4_some (Rg4.want_of 20 34 false rfl rfl rfl) rfl (fun w' hw' hcl' _ => ?_) ?_
                  · refine Rg.relAt_call (by go_simp; exact ⟨rfl, rfl⟩) ?_
                    refine (HLB.out _).mono ?_
                    rintro en w'' ⟨rfl, hx⟩
                    exact ⟨_, by rw [HLT.out], hx, trivial, rfl⟩
                  rintro v ⟨_, _, _, rfl⟩
                  (try simp only [Rg4.nrm])
                  (first | (refine Rg4.w4_any (Rg4.wt rfl rfl rfl) rfl ?_; apply Exists.intro; refine ⟨fun w' => ?_, ?_⟩; (focus (first | (go_simp; done) | (go_simp; first | rfl | (rw [if_neg] <;> first | rfl | omega) | (rw [if_pos] <;> first | rfl | omega)))); (try simp only [Rg4.nrm])) | (refine Rg4.w4_skip (Rg4.uw rfl rfl rfl) ?_; (try simp only [Rg4.nrm])) | (refine Rg4.w4_skip (Rg4.un rfl rfl rfl) ?_; (try simp only [Rg4.nrm])))
                  (refine Rg4.w4_any (Rg4.want_none rfl) rfl ?_; apply Exists.intro; refine ⟨fun w' => ?_, ?_⟩; (focus (first | (go_simp; done) | (go_simp; first | rfl | (rw [if_neg] <;> first | rfl | omega) | (rw [if_pos] <;> first | rfl | omega)))); (try simp only [Rg4.nrm]))
                  refine Rg4.w4_nil (fun w' hw' hcl' _ => ?_); replace st := st.ext hw'; clear hw' hcl'; (try clear hc); have hc := st.facts; (try simp only [nfl, nft, Nat.reduceAdd] at hc)
                  have HB : Hid (pickMin roleLt (cnd roleLt roleR out) (l.take (j + 1)) = some (o, d)) := Lib.hid (by rw [HX.out]; simp [cnd, HLA.out, HZ.out, HR.out.1.1, HP.out, okB_t, HLT.out])
                  go_wp2_with ((((with_reducible refine wl_store ?_ (fun K hK => ?_)); rfl; refine owp_store rfl st ?_; apply Exists.intro; apply Exists.intro; refine ⟨?_, ?_, ?_⟩; (focus (go_simp; try rfl)); (focus (go_simp; try rfl)); (with_reducible refine ⟨2, _, _, _, _, get2, rfl, rfl, ?_, ?_, ?_, ?_⟩); (kernel_rfl); (simp [Value.cells]); (rfl); (clear st; intro w st))); (try simp only [nsl, Value.cells, unB] at st); (try clear hc); have hc := st.facts; (try simp only [nfl, nft, Nat.reduceAdd] at hc))
                  have st' := st.keep [0, 1, 2] (by decide) (by simp)
                  go_roundg (n - (j + 1))
                  case measure => omega
                  case rel => exact ⟨j + 1, true, (o, d), by omega, by omega, by first | rfl | trivial | go_num, rfl, Lib.hid (by rw [HB.out]; rfl), by simpa [pick, S] using st'⟩
                | false =>
                  have HLT := Lib.hid hlt
                  clear hlt
                  refine Rg4.wp_region4 (Rel := Ext) #[0, 1, 3, 7, 15, 31, 63, 127, 127, 383, 895, 2047, 4095, 127, 16383, 32767, 65535, 131071, 262143, 524287, 1048575, 2097151, 2097151, 8388607, 16777215, 33554431]
                    [(1, .val (.bool true)), (14, .val (.bool true)), (23, .val (.bool false))] [] [0, 12, 13, 21, 22] (fun _ => True) [0, 1, 2, 3, 4, 5, 6, 7, 8, 9, 10, 11, 12, 13, 14, 15, 16, 17, 18, 19, 20, 21, 22, 23, 24, 25] (by kernel_rfl) (by kernel_rfl) (by kernel_rfl) (by kernel_rfl) Ext.refl (fun _ _ _ => Ext.trans) (show Rg4.PB _ by repeat (first | with_reducible exact Rg4.pb_body | with_reducible exact Rg4.pb_bodyD rfl | with_reducible refine Rg4.pb_then ?_ | with_reducible refine Rg4.pb_inBlock ?_ | with_reducible refine Rg4.pb_noGoto ?_)) (trivial) ?_
                  replace st := st.drew
                  change Rg4.wp4 _ _ _ _ _ _ _ _ _ (World.drew _) _ _
                  generalize World.drew _ = w at st ⊢
                  (try clear hc); have hc := st.facts; (try simp only [nfl, nft, Nat.reduceAdd] at hc)
                  (refine Rg4.w4_read (Rg4.want_none rfl) rfl rfl ?_; apply Exists.intro; refine ⟨fun w' hw' hcl' => ?_, ?_⟩; focus (have st' := st.ext hw'; have hc' := st'.facts; (try simp only [nfl, nft, Nat.reduceAdd] at hc'); have r0 := st'.rowC (i := 1) get1 _ _ HRZ.out.1; have r1 := st'.rowC (i := 1) get1 _ _ HRZ.out.2; (focus (first | (go_simp; done) | (go_simp; first | rfl | (rw [if_neg] <;> first | rfl | omega) | (rw [if_pos] <;> first | rfl | omega))))); (try simp only [Rg4.nrm]))
                  refine Rg4.w4_some (Rg4.want_none rfl) rfl (fun w' hw' hcl' _ => ?_) ?_
                  · refine Rg.relAt_call (by go_simp; exact ⟨rfl, rfl⟩) ?_
                    refine (HR.out.2 _ (by have := HR.out.1.2; omega) (by have := HR.out.1.2; omega)).mono ?_
                    rintro en w'' ⟨rfl, hx⟩
                    exact ⟨_, by rw [HR.out.1.1], hx, trivial, rfl⟩
                  rintro v ⟨_, _, _, rfl⟩
                  (try simp only [Rg4.nrm])
                  (refine Rg4.w4_any (Rg4.want_none rfl) rfl ?_; apply Exists.intro; refine ⟨fun w' => ?_, ?_⟩; (focus (first | (go_simp; done) | (go_simp; first | rfl | (rw [if_neg] <;> first | rfl | omega) | (rw [if_pos] <;> first | rfl | omega)))); (try simp only [Rg4.nrm]))
                  iterate 9 (first | (refine Rg4.w4_any (Rg4.wt rfl rfl rfl) rfl ?_; apply Exists.intro; refine ⟨fun w' => ?_, ?_⟩; (focus (first | (go_simp; done) | (go_simp; first | rfl | (rw [if_neg] <;> first | rfl | omega) | (rw [if_pos] <;> first | rfl | omega)))); (try simp only [Rg4.nrm])) | (refine Rg4.w4_skip (Rg4.uw rfl rfl rfl) ?_; (try simp only [Rg4.nrm])) | (refine Rg4.w4_skip (Rg4.un rfl rfl rfl) ?_; (try simp only [Rg4.nrm])))
                  iterate 2 (first | (refine Rg4.w4_read (Rg4.wt rfl rfl rfl) rfl rfl ?_; apply Exists.intro; refine ⟨fun w' hw' hcl' => ?_, ?_⟩; focus (have st' := st.ext hw'; have hc' := st'.facts; (try simp only [nfl, nft, Nat.reduceAdd] at hc'); have r0 := st'.rowC (i := 1) get1 _ _ HRZ.out.1; have r1 := st'.rowC (i := 1) get1 _ _ HRZ.out.2; (focus (first | (go_simp; done) | (go_simp; first | rfl | (rw [if_neg] <;> first | rfl | omega) | (rw [if_pos] <;> first | rfl | omega))))); (try simp only [Rg4.nrm])) | (refine Rg4.w4_skip (Rg4.uw rfl rfl rfl) ?_; (try simp only [Rg4.nrm])) | (refine Rg4.w4_skip (Rg4.un rfl rfl rfl) ?_; (try simp only [Rg4.nrm])))
                  refine Rg4.w4_some (Rg4.want_of 6 20 false rfl rfl rfl) rfl (fun w' hw' hcl' _ => ?_) ?_
                  · refine Rg.relAt_call (by go_simp; exact ⟨rfl, rfl⟩) ?_
                    refine (HLZ.out _).mono ?_
                    rintro en w'' ⟨rfl, hx⟩
                    exact ⟨_, by rw [HZ.out], hx, trivial, rfl⟩
                  rintro v ⟨_, _, _, rfl⟩
                  (try simp only [Rg4.nrm])
                  (first | (refine Rg4.w4_any (Rg4.wt rfl rfl rfl) rfl ?_; apply Exists.intro; refine ⟨fun w' => ?_, ?_⟩; (focus (first | (go_simp; done) | (go_simp; first | rfl | (rw [if_neg] <;> first | rfl | omega) | (rw [if_pos] <;> first | rfl | omega)))); (try simp only [Rg4.nrm])) | (refine Rg4.w4_skip (Rg4.uw rfl rfl rfl) ?_; (try simp only [Rg4.nrm])) | (refine Rg4.w4_skip (Rg4.un rfl rfl rfl) ?_; (try simp only [Rg4.nrm])))
                  iterate 2 (refine Rg4.w4_any (Rg4.want_none rfl) rfl ?_; apply Exists.intro; refine ⟨fun w' => ?_, ?_⟩; (focus (first | (go_simp; done) | (go_simp; first | rfl | (rw [if_neg] <;> first | rfl | omega) | (rw [if_pos] <;> first | rfl | omega)))); (try simp only [Rg4.nrm]))
                  iterate 3 (first | (refine Rg4.w4_any (Rg4.wt rfl rfl rfl) rfl ?_; apply Exists.intro; refine ⟨fun w' => ?_, ?_⟩; (focus (first | (go_simp; done) | (go_simp; first | rfl | (rw [if_neg] <;> first | rfl | omega) | (rw [if_pos] <;> first | rfl | omega)))); (try simp only [Rg4.nrm])) | (refine Rg4.w4_skip (Rg4.uw rfl rfl rfl) ?_; (try simp only [Rg4.nrm])) | (refine Rg4.w4_skip (Rg4.un rfl rfl rfl) ?_; (try simp only [Rg4.nrm])))
                  iterate 2 (first | (refine Rg4.w4_read (Rg4.wt rfl rfl rfl) rfl rfl ?_; apply Exists.intro; refine ⟨fun w' hw' hcl' => ?_, ?_⟩; focus (have st' := st.ext hw'; have hc' := st'.facts; (try simp only [nfl, nft, Nat.reduceAdd] at hc'); have r0 := st'.rowC (i := 1) get1 _ _ HRZ.out.1; have r1 := st'.rowC (i := 1) get1 _ _ HRZ.out.2; (focus (first | (go_simp; done) | (go_simp; first | rfl | (rw [if_neg] <;> first | rfl | omega) | (rw [if_pos] <;> first | rfl | omega))))); (try simp only [Rg4.nrm])) | (refine Rg4.w4_skip (Rg4.uw rfl rfl rfl) ?_; (try simp only [Rg4.nrm])) | (refine Rg4.w4_skip (Rg4.un rfl rfl rfl) ?_; (try simp only [Rg4.nrm])))
                  refine Rg4.w4_some (Rg4.want_of 20 34 false rfl rfl rfl) rfl (fun w' hw' hcl' _ => ?_) ?_
                  · refine Rg.relAt_call (by go_simp; exact ⟨rfl, rfl⟩) ?_
                    refine (HLB.out _).mono ?_
                    rintro en w'' ⟨rfl, hx⟩
                    exact ⟨_, by rw [HLT.out], hx, trivial, rfl⟩
                  rintro v ⟨_, _, _, rfl⟩
                  (try simp only [Rg4.nrm])
                  (first | (refine Rg4.w4_any (Rg4.wt rfl rfl rfl) rfl ?_; apply Exists.intro; refine ⟨fun w' => ?_, ?_⟩; (focus (first | (go_simp; done) | (go_simp; first | rfl | (rw [if_neg] <;> first | rfl | omega) | (rw [if_pos] <;> first | rfl | omega)))); (try simp only [Rg4.nrm])) | (refine Rg4.w4_skip (Rg4.uw rfl rfl rfl) ?_; (try simp only [Rg4.nrm])) | (refine Rg4.w4_skip (Rg4.un rfl rfl rfl) ?_; (try simp only [Rg4.nrm])))
                  (refine Rg4.w4_any (Rg4.want_none rfl) rfl ?_; apply Exists.intro; refine ⟨fun w' => ?_, ?_⟩; (focus (first | (go_simp; done) | (go_simp; first | rfl | (rw [if_neg] <;> first | rfl | omega) | (rw [if_pos] <;> first | rfl | omega)))); (try simp only [Rg4.nrm]))
                  refine Rg4.w4_nil (fun w' hw' hcl' _ => ?_); replace st := st.ext hw'; clear hw' hcl'; (try clear hc); have hc := st.facts; (try simp only [nfl, nft, Nat.reduceAdd] at hc)
                  have HB : Hid (pickMin roleLt (cnd roleLt roleR out) (l.take (j + 1)) = pickMin roleLt (cnd roleLt roleR out) (l.take j)) := Lib.hid (by rw [HX.out]; simp [cnd, HLA.out, HZ.out, HR.out.1.1, HP.out, okB_t, HLT.out])
                  go_wp2_with fail
                  have st' := st.keep [0, 1, 2] (by decide) (by simp)
                  go_roundg (n - (j + 1))
                  case measure => omega
                  case rel => exact ⟨j + 1, true, (bo, bd), by omega, by omega, by first | rfl | trivial | go_num, rfl, Lib.hid (by rw [HB.out]; exact HP.out), by simpa [pick, S] using st'⟩
      · obtain rfl : j = n := by omega
        have htk : l.take j = l := List.take_of_length_le (by have := HNL.out.1; omega)
        have hp := HP.out
        rw [htk] at hp
        clear htk HP
        cases ok with
        | false =>
          have HF := Lib.hid (HG.out.1.done (roleOrd roleR) hp)
          clear hp
          go_wp2_with fail
          go_ret
          have hm := HG.out.2.2
          subst hm
          exact ⟨out, va, vc, rfl, HF.out, st.toFresh get1⟩
        | true =>
          have hstep := HG.out.1.step (roleOrd roleR) hp
          have hlen := hstep.len (roleOrd roleR).irr
          have hleft := left_step (roleOrd roleR) hp
          have HF := Lib.hid (And.intro hstep hleft)
          have hol : m + 1 ≤ 2000000 := by have := HNL.out.1; have := HG.out.2.2; simp at hlen; omega
          clear hp hstep hlen hleft
          go_wp2_with (first
              | ((with_reducible refine wl_append ?_ (fun K hK => ?_)); (rfl); (obtain ⟨inf, hinf, hz0, hz1, hz2⟩ := roleInfo); (refine owp_append rfl st 1 get1 Tryz.underlying22 hinf hz0 hz1 hz2 rfl (by decide) rfl rfl ((st.blk (i := 3) get3).flat rfl) (by first | exact cellsL_all _ | simp [Value.oneCell']) (by simp only [maxLen]; omega) (by omega) ?_); (clear hinf hz0 hz1 hz2 inf); (clear st; intro v' w st); (obtain ⟨va', vc', rfl⟩ := own_slice (st.row (i := 1) get1)); (try simp only [nsl, Value.cells, unB] at st); (try simp only [Nat.zero_add] at st); (try clear hc); have hc := st.facts; (try simp only [nfl, nft, Nat.reduceAdd] at hc))
              | ((((with_reducible refine wl_buildSlice ?_ (fun K hK => ?_)); rfl; refine owp_buildSlice (o := ⟨some 47, _, _, _, _, _⟩) rfl st ?_; apply Exists.intro; apply Exists.intro; apply Exists.intro; apply Exists.intro; refine ⟨?_, ?_⟩; (focus (go_simp; (first | done | exact ⟨⟨rfl, rfl⟩, rfl⟩ | rfl))); (clear st; intro b47 w hb st; clear hb))); (try simp only [nsl, Value.cells, unB] at st); (try clear hc); have hc := st.facts; (try simp only [nfl, nft, Nat.reduceAdd] at hc)))
          have st' := st.keep [0, 1] (by decide) (by simp)
          go_roundg (left roleLt roleR l (out ++ [(bo, bd)]))
          case measure => have := HG.out.2.1; have := HF.out.2; omega
          case rel => exact ⟨out ++ [(bo, bd)], m + 1, va', vc', rfl, hol, Lib.hid ⟨HF.out.1, Nat.le_refl _, by simp [HG.out.2.2]⟩, by rw [cellsL_append, cellsL_one', role_cells]; simpa [pick] using st'⟩
theorem refRoleSet_c (a : Option Addr) (n c : Nat) (l : List Role) (W : World) (h : Fl W a n l) (hn : n ≤ 2000000) (hs : ∀ x ∈ l, x.1.length ≤ 1000000000 ∧ x.2.length ≤ 1000000000) :
    Calls Tryz.prog 30 #[.slice a n c] W fun e w' => ∃ va vc, e = .returned (.slice va (roleSet l).length vc) ∧ FreshI W w' (rowI 45 2 (.slice va (roleSet l).length vc) (roleSet l).length (cellsL (roleSet l))) := by
  refine (refRoleSet_any a n c l W h hn hs).mono ?_
  rintro e w' ⟨out, va, vc, rfl, h1, h2⟩
  have := h1.uniq (roleOrd roleR) (roleSet_set l)
  subst this
  exact ⟨va, vc, rfl, h2⟩
end Go.Proofs.YtekngjkjgmplpaaGreat

namespace Go.Proofs.YtekngjkjgmplpaaGreat
set_option linter.unusedSimpArgs false
set_option linter.unusedVariables false
open Go Go.RowKit
set_option maxRecDepth 100000 in
set_option maxHeartbeats 1000000 in
theorem refSgRight_any (x : SgnT) (W : World) (hl : CLenS x.c) : Calls Tryz.prog 31 #[sgV x] W fun e w' => e = .returned (.bool (credR x.c && (x.n == 8))) ∧ Ext W w' := by
  have HCR := Lib.hid (fun W => refCredRight_any x.c W (CLenS.big hl))
  obtain ⟨cr, hcr⟩ : ∃ q, credR x.c = q := ⟨_, rfl⟩
  rw [hcr] at HCR ⊢
  clear hcr hl
  obtain ⟨⟨ck, ⟨ho, hd⟩, cw, ⟨bo, bd⟩, ⟨co, cd⟩, we⟩, a1, n1, m1, xs⟩ := x
  have st := Own.startOld W
  unfold cV S at HCR
  unfold sgV S
  simp only at HCR ⊢
  (try simp only [nsl, Value.cells, unB] at st)
  (try clear hc); have hc := st.facts; (try simp only [nfl, nft, Nat.reduceAdd] at hc)
  cases cr with
  | false =>
    go_enter Tryz.func31, Tryz.ntmps31
    go_wp2_with ((((with_reducible refine wl_box ?_ (fun K hK => ?_)); rfl; refine owp_box (o := ⟨some 1, _, _, _, _, _⟩) rfl st ?_; apply Exists.intro; refine ⟨?_, ?_⟩; (focus (go_simp; try rfl)); (clear st; intro b1 w hb st; clear hb))); (try simp only [nsl, Value.cells, unB] at st); (try clear hc); have hc := st.facts; (try simp only [nfl, nft, Nat.reduceAdd] at hc))
    refine (HCR.out _).mono ?_
    rintro en w ⟨rfl, hx⟩
    replace st := st.ext hx
    clear hx
    (try clear hc); have hc := st.facts; (try simp only [nfl, nft, Nat.reduceAdd] at hc)
    go_wp2_with fail
    go_ret
    exact ⟨rfl, st.ext0⟩
  | true =>
    by_cases h8 : n1 = 8
    · subst h8
      go_enter Tryz.func31, Tryz.ntmps31
      go_wp2_with ((((with_reducible refine wl_box ?_ (fun K hK => ?_)); rfl; refine owp_box (o := ⟨some 1, _, _, _, _, _⟩) rfl st ?_; apply Exists.intro; refine ⟨?_, ?_⟩; (focus (go_simp; try rfl)); (clear st; intro b1 w hb st; clear hb))); (try simp only [nsl, Value.cells, unB] at st); (try clear hc); have hc := st.facts; (try simp only [nfl, nft, Nat.reduceAdd] at hc))
      refine (HCR.out _).mono ?_
      rintro en w ⟨rfl, hx⟩
      replace st := st.ext hx
      clear hx
      (try clear hc); have hc := st.facts; (try simp only [nfl, nft, Nat.reduceAdd] at hc)
      go_wp2_with fail
      go_ret
      exact ⟨rfl, st.ext0⟩
    · have h8b : ((n1 : Int) == 8) = false := by simpa using (by omega : (n1 : Int) ≠ 8)
      have H8 : Hid ((n1 == 8) = false) := Lib.hid (by simpa using h8)
      clear h8
      go_enter Tryz.func31, Tryz.ntmps31
      go_wp2_with ((((with_reducible refine wl_box ?_ (fun K hK => ?_)); rfl; refine owp_box (o := ⟨some 1, _, _, _, _, _⟩) rfl st ?_; apply Exists.intro; refine ⟨?_, ?_⟩; (focus (go_simp; try rfl)); (clear st; intro b1 w hb st; clear hb))); (try simp only [nsl, Value.cells, unB] at st); (try clear hc); have hc := st.facts; (try simp only [nfl, nft, Nat.reduceAdd] at hc))
      refine (HCR.out _).mono ?_
      rintro en w ⟨rfl, hx⟩
      replace st := st.ext hx
      clear hx
      (try clear hc); have hc := st.facts; (try simp only [nfl, nft, Nat.reduceAdd] at hc)
      go_wp2_with fail
      go_ret
      exact ⟨by rw [H8.out]; rfl, st.ext0⟩
set_option maxRecDepth 100000 in
set_option maxHeartbeats 8000000 in
theorem refMsgRight_any (x : MsgT) (W : World) (hx : MgOk W x) (lx : MgL x) : Calls Tryz.prog 8 #[mgV x] W fun e w' => e = .returned (.bool (mgR x)) ∧ Ext W w' := by
  have HX := Lib.hid hx
  have HN := Lib.hid (fun W' => refRight_any x.nm W' (by have := lx.2.2.1; omega))
  have HRS := Lib.hid (fun W' h => refRoleSet_c x.wa x.wn x.wc x.ws W' h (by have := lx.1; omega) (fun y hy => by have := lx.2.2.2.1 y hy; omega))
  have hw1 : x.wn = x.ws.length := hx.1.2.1
  have hs1 : x.sn = x.ss.length := hx.2.1.2.1
  have hsl := roleSet_len x.ws
  have HEQ := Lib.hid (fun va vc W' h1 h2 => refRoleSame_any va (roleSet x.ws).length vc (roleSet x.ws) x.wa x.wn x.wc x.ws W' h1 h2 (by have := lx.1; omega) (by have := lx.1; omega))
  obtain ⟨sq, hsq⟩ : ∃ q, decide (roleSet x.ws = x.ws) = q := ⟨_, rfl⟩
  rw [hsq] at HEQ
  obtain ⟨m, hm⟩ : ∃ m, (roleSet x.ws).length = m := ⟨_, rfl⟩
  rw [hm] at HRS HEQ hsl
  have hmn : m ≤ x.wn := by omega
  have HL := Lib.hid lx.2.2.2.2
  obtain ⟨r, hr⟩ : ∃ r, mgR x = r := ⟨_, rfl⟩
  obtain ⟨nr, hnr⟩ : ∃ b, nameR x.nm = b := ⟨_, rfl⟩
  have HR : Hid (r = (if x.k < 1 ∨ 5 < x.k then false
    else if (x.k ≠ 1 ∧ (x.nm ≠ [] ∨ x.p ≠ 0)) ∨ (x.k ≠ 2 ∧ 0 < x.wn + x.sn) ∨ (x.k ≠ 5 ∧ x.e ≠ 0) then false
    else if x.k = 1 then nr && decide (1 ≤ x.p) && decide (x.p ≤ 2)
    else if x.k = 5 then decide (1 ≤ x.e) && decide (x.e ≤ 99)
    else if 16 < x.wn ∨ 8 < x.sn ∨ sq = false then false
    else (List.range x.ss.length).all (shAt x.ss))) := Lib.hid (by
      rw [← hr, ← hnr, ← hsq, ← refMgR_eq, hw1, hs1]
      unfold refMgR
      simp only [decide_eq_false_iff_not, ne_eq])
  rw [hnr] at HN
  rw [hr]
  have l1 := lx.1
  have l2 := lx.2.1
  have HSL : Hid (x.sn = x.ss.length) := Lib.hid hs1
  have HS0 : Hid (x.sn = 0 → x.ss = []) := Lib.hid (fun q => List.eq_nil_of_length_eq_zero (by omega))
  clear hr hnr lx hx hw1 hs1 hsl hsq hm
  obtain ⟨k, p, e, nm, wa, wn, wc, ws, sa, sn, sc, ss⟩ := x
  unfold MgOk at HX
  simp only at HR HN HX HRS HEQ HL hmn l1 l2 HSL HS0
  have st := Own.startOld W
  unfold S at HN
  unfold mgV S
  (try simp only [nsl, Value.cells, unB] at st)
  (try clear hc); have hc := st.facts; (try simp only [nfl, nft, Nat.reduceAdd] at hc)
  by_cases klo : k < 1
  · have HKK := Lib.hid klo
    have H1 : Hid (r = false) := Lib.hid (by rw [HR.out]; rw [if_pos (.inl HKK.out)])
    go_enter Tryz.func8, Tryz.ntmps8
    go_wp2_with ((((with_reducible refine wl_box ?_ (fun K hK => ?_)); rfl; refine owp_box (o := ⟨some 1, _, _, _, _, _⟩) rfl st ?_; apply Exists.intro; refine ⟨?_, ?_⟩; (focus (go_simp; try rfl)); (clear st; intro b1 w hb st; clear hb))); (try simp only [nsl, Value.cells, unB] at st); (try clear hc); have hc := st.facts; (try simp only [nfl, nft, Nat.reduceAdd] at hc))
    go_ret
    exact ⟨by rw [H1.out]; rfl, st.ext0⟩
  by_cases khi : 5 < k
  · have HKK := Lib.hid khi
    have H1 : Hid (r = false) := Lib.hid (by rw [HR.out]; rw [if_pos (.inr HKK.out)])
    go_enter Tryz.func8, Tryz.ntmps8
    go_wp2_with ((((with_reducible refine wl_box ?_ (fun K hK => ?_)); rfl; refine owp_box (o := ⟨some 1, _, _, _, _, _⟩) rfl st ?_; apply Exists.intro; refine ⟨?_, ?_⟩; (focus (go_simp; try rfl)); (clear st; intro b1 w hb st; clear hb))); (try simp only [nsl, Value.cells, unB] at st); (try clear hc); have hc := st.facts; (try simp only [nfl, nft, Nat.reduceAdd] at hc))
    go_ret
    exact ⟨by rw [H1.out]; rfl, st.ext0⟩
  by_cases k1 : k = 1
  · subst k1
    by_cases hs : 0 < wn + sn
    · have HS1 := Lib.hid hs
      have H1 : Hid (r = false) := Lib.hid (by rw [HR.out]; rw [if_neg (by decide), if_pos (.inr (.inl ⟨(by decide), HS1.out⟩))])
      go_enter Tryz.func8, Tryz.ntmps8
      go_wp2_with ((((with_reducible refine wl_box ?_ (fun K hK => ?_)); rfl; refine owp_box (o := ⟨some 1, _, _, _, _, _⟩) rfl st ?_; apply Exists.intro; refine ⟨?_, ?_⟩; (focus (go_simp; try rfl)); (clear st; intro b1 w hb st; clear hb))); (try simp only [nsl, Value.cells, unB] at st); (try clear hc); have hc := st.facts; (try simp only [nfl, nft, Nat.reduceAdd] at hc))
      go_ret
      exact ⟨by rw [H1.out]; rfl, st.ext0⟩
    · have hw0 : wn = 0 := by omega
      have hs0 : sn = 0 := by omega
      subst hw0 hs0
      clear hs
      by_cases he : e = 0
      · subst he
        have H0 : Hid (r = (nr && decide (1 ≤ p) && decide (p ≤ 2))) := Lib.hid (by rw [HR.out, if_neg (by decide), if_neg (by simp), if_pos rfl])
        cases nr with
        | false =>
          have H1 : Hid (r = false) := Lib.hid (by rw [H0.out]; rfl)
          go_enter Tryz.func8, Tryz.ntmps8
          go_wp2_with ((((with_reducible refine wl_box ?_ (fun K hK => ?_)); rfl; refine owp_box (o := ⟨some 1, _, _, _, _, _⟩) rfl st ?_; apply Exists.intro; refine ⟨?_, ?_⟩; (focus (go_simp; try rfl)); (clear st; intro b1 w hb st; clear hb))); (try simp only [nsl, Value.cells, unB] at st); (try clear hc); have hc := st.facts; (try simp only [nfl, nft, Nat.reduceAdd] at hc))
          refine (HN.out _).mono ?_
          rintro en w ⟨rfl, hx⟩
          replace st := st.ext hx
          clear hx
          (try clear hc); have hc := st.facts; (try simp only [nfl, nft, Nat.reduceAdd] at hc)
          go_wp2_with fail
          go_ret
          exact ⟨by rw [H1.out]; rfl, st.ext0⟩
        | true =>
          by_cases p1 : 1 ≤ p
          · have H1 : Hid (r = decide (p ≤ 2)) := Lib.hid (by rw [H0.out, decide_eq_true p1]; rfl)
            go_enter Tryz.func8, Tryz.ntmps8
            go_wp2_with ((((with_reducible refine wl_box ?_ (fun K hK => ?_)); rfl; refine owp_box (o := ⟨some 1, _, _, _, _, _⟩) rfl st ?_; apply Exists.intro; refine ⟨?_, ?_⟩; (focus (go_simp; try rfl)); (clear st; intro b1 w hb st; clear hb))); (try simp only [nsl, Value.cells, unB] at st); (try clear hc); have hc := st.facts; (try simp only [nfl, nft, Nat.reduceAdd] at hc))
            refine (HN.out _).mono ?_
            rintro en w ⟨rfl, hx⟩
            replace st := st.ext hx
            clear hx
            (try clear hc); have hc := st.facts; (try simp only [nfl, nft, Nat.reduceAdd] at hc)
            go_wp2_with fail
            go_ret
            exact ⟨by rw [H1.out]; rfl, st.ext0⟩
          · have H1 : Hid (r = false) := Lib.hid (by rw [H0.out, decide_eq_false p1]; rfl)
            go_enter Tryz.func8, Tryz.ntmps8
            go_wp2_with ((((with_reducible refine wl_box ?_ (fun K hK => ?_)); rfl; refine owp_box (o := ⟨some 1, _, _, _, _, _⟩) rfl st ?_; apply Exists.intro; refine ⟨?_, ?_⟩; (focus (go_simp; try rfl)); (clear st; intro b1 w hb st; clear hb))); (try simp only [nsl, Value.cells, unB] at st); (try clear hc); have hc := st.facts; (try simp only [nfl, nft, Nat.reduceAdd] at hc))
            refine (HN.out _).mono ?_
            rintro en w ⟨rfl, hx⟩
            replace st := st.ext hx
            clear hx
            (try clear hc); have hc := st.facts; (try simp only [nfl, nft, Nat.reduceAdd] at hc)
            go_wp2_with fail
            go_ret
            exact ⟨by rw [H1.out]; rfl, st.ext0⟩
      · have heb : (e != 0) = true := by simpa using he
        have HE1 := Lib.hid he
        clear he
        have H1 : Hid (r = false) := Lib.hid (by rw [HR.out]; rw [if_neg (by decide), if_pos (.inr (.inr ⟨(by decide), HE1.out⟩))])
        go_enter Tryz.func8, Tryz.ntmps8
        go_wp2_with ((((with_reducible refine wl_box ?_ (fun K hK => ?_)); rfl; refine owp_box (o := ⟨some 1, _, _, _, _, _⟩) rfl st ?_; apply Exists.intro; refine ⟨?_, ?_⟩; (focus (go_simp; try rfl)); (clear st; intro b1 w hb st; clear hb))); (try simp only [nsl, Value.cells, unB] at st); (try clear hc); have hc := st.facts; (try simp only [nfl, nft, Nat.reduceAdd] at hc))
        go_ret
        exact ⟨by rw [H1.out]; rfl, st.ext0⟩
  by_cases k2 : k = 2
  · subst k2
    cases hn : (nm == []) with
    | false =>
      have hn1 : nm ≠ [] := by simpa using hn
      have HN1 := Lib.hid hn1
      clear hn1
      have H1 : Hid (r = false) := Lib.hid (by rw [HR.out]; rw [if_neg (by decide), if_pos (.inl ⟨(by decide), .inl HN1.out⟩)])
      go_enter Tryz.func8, Tryz.ntmps8
      go_wp2_with ((((with_reducible refine wl_box ?_ (fun K hK => ?_)); rfl; refine owp_box (o := ⟨some 1, _, _, _, _, _⟩) rfl st ?_; apply Exists.intro; refine ⟨?_, ?_⟩; (focus (go_simp; try rfl)); (clear st; intro b1 w hb st; clear hb))); (try simp only [nsl, Value.cells, unB] at st); (try clear hc); have hc := st.facts; (try simp only [nfl, nft, Nat.reduceAdd] at hc))
      go_ret
      exact ⟨by rw [H1.out]; rfl, st.ext0⟩
    | true =>
      have HN0 : Hid (¬ nm ≠ []) := Lib.hid (by simpa using hn)
      by_cases hp : p = 0
      · subst hp
        by_cases he : e = 0
        · subst he
          have H0 : Hid (r = if 16 < wn ∨ 8 < sn ∨ sq = false then false else (List.range ss.length).all (shAt ss)) := Lib.hid (by rw [HR.out, if_neg (by decide), if_neg (by simp; simpa using HN0.out), if_neg (by decide), if_neg (by decide)])
          by_cases h16 : 16 < wn
          · have h16b : decide ((16 : Int) < (wn : Int)) = true := by simp; omega
            have H1 : Hid (r = false) := Lib.hid (by rw [H0.out, if_pos (.inl h16)])
            go_enter Tryz.func8, Tryz.ntmps8
            go_wp2_with ((((with_reducible refine wl_box ?_ (fun K hK => ?_)); rfl; refine owp_box (o := ⟨some 1, _, _, _, _, _⟩) rfl st ?_; apply Exists.intro; refine ⟨?_, ?_⟩; (focus (go_simp; try rfl)); (clear st; intro b1 w hb st; clear hb))); (try simp only [nsl, Value.cells, unB] at st); (try clear hc); have hc := st.facts; (try simp only [nfl, nft, Nat.reduceAdd] at hc))
            refine Rg4.wp_region4_eq #[0, 1, 3, 7, 15, 31, 63, 127, 255, 511, 1023, 2047, 4095, 8191, 2047, 18431, 65535, 131071, 262143] [13, 16] [1, 6, 12] (fun W' => Blk W' b1 [.int .i64 2, .int .i64 0, .int .i64 0, .string ⟨nm.toArray⟩, .slice wa wn wc, .slice sa sn sc]) [0, 1, 2, 3, 4, 5, 6, 7, 8, 9, 10, 11, 12, 14, 15, 13, 16, 17, 18] (by kernel_rfl) (by kernel_rfl) (by kernel_rfl) (by kernel_rfl) (show Rg4.PB _ by repeat (first | with_reducible exact Rg4.pb_body | with_reducible exact Rg4.pb_bodyD rfl | with_reducible refine Rg4.pb_then ?_ | with_reducible refine Rg4.pb_inBlock ?_ | with_reducible refine Rg4.pb_noGoto ?_)) (st.drew.blk (i := 1) get1) ?_
            replace st := st.drew
            change Rg4.wp4 _ _ _ _ _ _ _ _ _ (World.drew _) _ _
            generalize World.drew _ = w at st ⊢
            (try clear hc); have hc := st.facts; (try simp only [nfl, nft, Nat.reduceAdd] at hc)
            (refine Rg4.w4_any (Rg4.want_none rfl) rfl ?_; apply Exists.intro; refine ⟨fun w' => ?_, ?_⟩; (focus (first | (go_simp; done) | (go_simp; first | rfl | (rw [if_neg] <;> first | rfl | omega) | (rw [if_pos] <;> first | rfl | omega)))); (try simp only [Rg4.nrm]))
            (refine Rg4.w4_read (Rg4.want_none rfl) rfl rfl ?_; apply Exists.intro; refine ⟨fun w' hw' hcl' => ?_, ?_⟩; focus (subst hw'; (focus (first | (go_simp; done) | (go_simp; first | rfl | (rw [if_neg] <;> first | rfl | omega) | (rw [if_pos] <;> first | rfl | omega))))); (try simp only [Rg4.nrm]))
            iterate 3 (refine Rg4.w4_any (Rg4.want_none rfl) rfl ?_; apply Exists.intro; refine ⟨fun w' => ?_, ?_⟩; (focus (first | (go_simp; done) | (go_simp; first | rfl | (rw [if_neg] <;> first | rfl | omega) | (rw [if_pos] <;> first | rfl | omega)))); (try simp only [Rg4.nrm]))
            (first | (refine Rg4.w4_any (Rg4.wt rfl rfl rfl) rfl ?_; apply Exists.intro; refine ⟨fun w' => ?_, ?_⟩; (focus (first | (go_simp; done) | (go_simp; first | rfl | (rw [if_neg] <;> first | rfl | omega) | (rw [if_pos] <;> first | rfl | omega)))); (try simp only [Rg4.nrm])) | (refine Rg4.w4_skip (Rg4.uw rfl rfl rfl) ?_; (try simp only [Rg4.nrm])) | (refine Rg4.w4_skip (Rg4.un rfl rfl rfl) ?_; (try simp only [Rg4.nrm])))
            (first | (refine Rg4.w4_read (Rg4.wt rfl rfl rfl) rfl rfl ?_; apply Exists.intro; refine ⟨fun w' hw' hcl' => ?_, ?_⟩; focus (subst hw'; (focus (first | (go_simp; done) | (go_simp; first | rfl | (rw [if_neg] <;> first | rfl | omega) | (rw [if_pos] <;> first | rfl | omega))))); (try simp only [Rg4.nrm])) | (refine Rg4.w4_skip (Rg4.uw rfl rfl rfl) ?_; (try simp only [Rg4.nrm])) | (refine Rg4.w4_skip (Rg4.un rfl rfl rfl) ?_; (try simp only [Rg4.nrm])))
            iterate 2 (first | (refine Rg4.w4_any (Rg4.wt rfl rfl rfl) rfl ?_; apply Exists.intro; refine ⟨fun w' => ?_, ?_⟩; (focus (first | (go_simp; done) | (go_simp; first | rfl | (rw [if_neg] <;> first | rfl | omega) | (rw [if_pos] <;> first | rfl | omega)))); (try simp only [Rg4.nrm])) | (refine Rg4.w4_skip (Rg4.uw rfl rfl rfl) ?_; (try simp only [Rg4.nrm])) | (refine Rg4.w4_skip (Rg4.un rfl rfl rfl) ?_; (try simp only [Rg4.nrm])))
            iterate 2 (refine Rg4.w4_any (Rg4.want_none rfl) rfl ?_; apply Exists.intro; refine ⟨fun w' => ?_, ?_⟩; (focus (first | (go_simp; done) | (go_simp; first | rfl | (rw [if_neg] <;> first | rfl | omega) | (rw [if_pos] <;> first | rfl | omega)))); (try simp only [Rg4.nrm]))
            (first | (refine Rg4.w4_any (Rg4.wt rfl rfl rfl) rfl ?_; apply Exists.intro; refine ⟨fun w' => ?_, ?_⟩; (focus (first | (go_simp; done) | (go_simp; first | rfl | (rw [if_neg] <;> first | rfl | omega) | (rw [if_pos] <;> first | rfl | omega)))); (try simp only [Rg4.nrm])) | (refine Rg4.w4_skip (Rg4.uw rfl rfl rfl) ?_; (try simp only [Rg4.nrm])) | (refine Rg4.w4_skip (Rg4.un rfl rfl rfl) ?_; (try simp only [Rg4.nrm])))
            (first | (refine Rg4.w4_read (Rg4.wt rfl rfl rfl) rfl rfl ?_; apply Exists.intro; refine ⟨fun w' hw' hcl' => ?_, ?_⟩; focus (subst hw'; (focus (first | (go_simp; done) | (go_simp; first | rfl | (rw [if_neg] <;> first | rfl | omega) | (rw [if_pos] <;> first | rfl | omega))))); (try simp only [Rg4.nrm])) | (refine Rg4.w4_skip (Rg4.uw rfl rfl rfl) ?_; (try simp only [Rg4.nrm])) | (refine Rg4.w4_skip (Rg4.un rfl rfl rfl) ?_; (try simp only [Rg4.nrm])))
            (first | (refine Rg4.w4_any (Rg4.wt rfl rfl rfl) rfl ?_; apply Exists.intro; refine ⟨fun w' => ?_, ?_⟩; (focus (first | (go_simp; done) | (go_simp; first | rfl | (rw [if_neg] <;> first | rfl | omega) | (rw [if_pos] <;> first | rfl | omega)))); (try simp only [Rg4.nrm])) | (refine Rg4.w4_skip (Rg4.uw rfl rfl rfl) ?_; (try simp only [Rg4.nrm])) | (refine Rg4.w4_skip (Rg4.un rfl rfl rfl) ?_; (try simp only [Rg4.nrm])))
            (first | (refine Rg4.w4_cl (Rg4.wt rfl rfl rfl) rfl ?_; apply Exists.intro; refine ⟨fun w' hcl => ?_, ?_⟩; (focus (have q4 := Blk.cell hcl 4; (try simp at q4); (focus (first | (go_simp; done) | (go_simp; first | rfl | (rw [if_neg] <;> first | rfl | omega) | (rw [if_pos] <;> first | rfl | omega)))))); (try simp only [Rg4.nrm])) | (refine Rg4.w4_skip (Rg4.uw rfl rfl rfl) ?_; (try simp only [Rg4.nrm])) | (refine Rg4.w4_skip (Rg4.un rfl rfl rfl) ?_; (try simp only [Rg4.nrm])))
            first | refine Rg4.w4_skip (Rg4.uw rfl rfl rfl) ?_ | refine Rg4.w4_skip (Rg4.un rfl rfl rfl) ?_
            (try simp only [Rg4.nrm])

            first | refine Rg4.w4_skip (Rg4.uw rfl rfl rfl) ?_ | refine Rg4.w4_skip (Rg4.un rfl rfl rfl) ?_
            (try simp only [Rg4.nrm])
            (first | (refine Rg4.w4_any (Rg4.wt rfl rfl rfl) rfl ?_; apply Exists.intro; refine ⟨fun w' => ?_, ?_⟩; (focus (first | (go_simp; done) | (go_simp; first | rfl | (rw [if_neg] <;> first | rfl | omega) | (rw [if_pos] <;> first | rfl | omega)))); (try simp only [Rg4.nrm])) | (refine Rg4.w4_skip (Rg4.uw rfl rfl rfl) ?_; (try simp only [Rg4.nrm])) | (refine Rg4.w4_skip (Rg4.un rfl rfl rfl) ?_; (try simp only [Rg4.nrm])))
            (refine Rg4.w4_any (Rg4.want_none rfl) rfl ?_; apply Exists.intro; refine ⟨fun w' => ?_, ?_⟩; (focus (first | (go_simp; done) | (go_simp; first | rfl | (rw [if_neg] <;> first | rfl | omega) | (rw [if_pos] <;> first | rfl | omega)))); (try simp only [Rg4.nrm]))
            refine Rg4.w4_nil (fun w' hw' hcl' _ => ?_); subst hw'; clear hcl'
            go_wp2_with fail
            go_ret
            exact ⟨by rw [H1.out]; rfl, st.ext0⟩
          have h16b : decide ((16 : Int) < (wn : Int)) = false := by simp; omega
          by_cases h8 : 8 < sn
          · have h8b : decide ((8 : Int) < (sn : Int)) = true := by simp; omega
            have H1 : Hid (r = false) := Lib.hid (by rw [H0.out, if_pos (.inr (.inl h8))])
            go_enter Tryz.func8, Tryz.ntmps8
            go_wp2_with ((((with_reducible refine wl_box ?_ (fun K hK => ?_)); rfl; refine owp_box (o := ⟨some 1, _, _, _, _, _⟩) rfl st ?_; apply Exists.intro; refine ⟨?_, ?_⟩; (focus (go_simp; try rfl)); (clear st; intro b1 w hb st; clear hb))); (try simp only [nsl, Value.cells, unB] at st); (try clear hc); have hc := st.facts; (try simp only [nfl, nft, Nat.reduceAdd] at hc))
            refine Rg4.wp_region4_eq #[0, 1, 3, 7, 15, 31, 63, 127, 255, 511, 1023, 2047, 4095, 8191, 2047, 18431, 65535, 131071, 262143] [13, 16] [1, 6, 12] (fun W' => Blk W' b1 [.int .i64 2, .int .i64 0, .int .i64 0, .string ⟨nm.toArray⟩, .slice wa wn wc, .slice sa sn sc]) [0, 1, 2, 3, 4, 5, 6, 7, 8, 9, 10, 11, 12, 14, 15, 13, 16, 17, 18] (by kernel_rfl) (by kernel_rfl) (by kernel_rfl) (by kernel_rfl) (show Rg4.PB _ by repeat (first | with_reducible exact Rg4.pb_body | with_reducible exact Rg4.pb_bodyD rfl | with_reducible refine Rg4.pb_then ?_ | with_reducible refine Rg4.pb_inBlock ?_ | with_reducible refine Rg4.pb_noGoto ?_)) (st.drew.blk (i := 1) get1) ?_
            replace st := st.drew
            change Rg4.wp4 _ _ _ _ _ _ _ _ _ (World.drew _) _ _
            generalize World.drew _ = w at st ⊢
            (try clear hc); have hc := st.facts; (try simp only [nfl, nft, Nat.reduceAdd] at hc)
            (refine Rg4.w4_any (Rg4.want_none rfl) rfl ?_; apply Exists.intro; refine ⟨fun w' => ?_, ?_⟩; (focus (first | (go_simp; done) | (go_simp; first | rfl | (rw [if_neg] <;> first | rfl | omega) | (rw [if_pos] <;> first | rfl | omega)))); (try simp only [Rg4.nrm]))
            (refine Rg4.w4_read (Rg4.want_none rfl) rfl rfl ?_; apply Exists.intro; refine ⟨fun w' hw' hcl' => ?_, ?_⟩; focus (subst hw'; (focus (first | (go_simp; done) | (go_simp; first | rfl | (rw [if_neg] <;> first | rfl | omega) | (rw [if_pos] <;> first | rfl | omega))))); (try simp only [Rg4.nrm]))
            iterate 3 (refine Rg4.w4_any (Rg4.want_none rfl) rfl ?_; apply Exists.intro; refine ⟨fun w' => ?_, ?_⟩; (focus (first | (go_simp; done) | (go_simp; first | rfl | (rw [if_neg] <;> first | rfl | omega) | (rw [if_pos] <;> first | rfl | omega)))); (try simp only [Rg4.nrm]))
            (first | (refine Rg4.w4_any (Rg4.wt rfl rfl rfl) rfl ?_; apply Exists.intro; refine ⟨fun w' => ?_, ?_⟩; (focus (first | (go_simp; done) | (go_simp; first | rfl | (rw [if_neg] <;> first | rfl | omega) | (rw [if_pos] <;> first | rfl | omega)))); (try simp only [Rg4.nrm])) | (refine Rg4.w4_skip (Rg4.uw rfl rfl rfl) ?_; (try simp only [Rg4.nrm])) | (refine Rg4.w4_skip (Rg4.un rfl rfl rfl) ?_; (try simp only [Rg4.nrm])))
            (first | (refine Rg4.w4_read (Rg4.wt rfl rfl rfl) rfl rfl ?_; apply Exists.intro; refine ⟨fun w' hw' hcl' => ?_, ?_⟩; focus (subst hw'; (focus (first | (go_simp; done) | (go_simp; first | rfl | (rw [if_neg] <;> first | rfl | omega) | (rw [if_pos] <;> first | rfl | omega))))); (try simp only [Rg4.nrm])) | (refine Rg4.w4_skip (Rg4.uw rfl rfl rfl) ?_; (try simp only [Rg4.nrm])) | (refine Rg4.w4_skip (Rg4.un rfl rfl rfl) ?_; (try simp only [Rg4.nrm])))
            iterate 2 (first | (refine Rg4.w4_any (Rg4.wt rfl rfl rfl) rfl ?_; apply Exists.intro; refine ⟨fun w' => ?_, ?_⟩; (focus (first | (go_simp; done) | (go_simp; first | rfl | (rw [if_neg] <;> first | rfl | omega) | (rw [if_pos] <;> first | rfl | omega)))); (try simp only [Rg4.nrm])) | (refine Rg4.w4_skip (Rg4.uw rfl rfl rfl) ?_; (try simp only [Rg4.nrm])) | (refine Rg4.w4_skip (Rg4.un rfl rfl rfl) ?_; (try simp only [Rg4.nrm])))
            iterate 2 (refine Rg4.w4_any (Rg4.want_none rfl) rfl ?_; apply Exists.intro; refine ⟨fun w' => ?_, ?_⟩; (focus (first | (go_simp; done) | (go_simp; first | rfl | (rw [if_neg] <;> first | rfl | omega) | (rw [if_pos] <;> first | rfl | omega)))); (try simp only [Rg4.nrm]))
            (first | (refine Rg4.w4_any (Rg4.wt rfl rfl rfl) rfl ?_; apply Exists.intro; refine ⟨fun w' => ?_, ?_⟩; (focus (first | (go_simp; done) | (go_simp; first | rfl | (rw [if_neg] <;> first | rfl | omega) | (rw [if_pos] <;> first | rfl | omega)))); (try simp only [Rg4.nrm])) | (refine Rg4.w4_skip (Rg4.uw rfl rfl rfl) ?_; (try simp only [Rg4.nrm])) | (refine Rg4.w4_skip (Rg4.un rfl rfl rfl) ?_; (try simp only [Rg4.nrm])))
            (first | (refine Rg4.w4_read (Rg4.wt rfl rfl rfl) rfl rfl ?_; apply Exists.intro; refine ⟨fun w' hw' hcl' => ?_, ?_⟩; focus (subst hw'; (focus (first | (go_simp; done) | (go_simp; first | rfl | (rw [if_neg] <;> first | rfl | omega) | (rw [if_pos] <;> first | rfl | omega))))); (try simp only [Rg4.nrm])) | (refine Rg4.w4_skip (Rg4.uw rfl rfl rfl) ?_; (try simp only [Rg4.nrm])) | (refine Rg4.w4_skip (Rg4.un rfl rfl rfl) ?_; (try simp only [Rg4.nrm])))
            (first | (refine Rg4.w4_any (Rg4.wt rfl rfl rfl) rfl ?_; apply Exists.intro; refine ⟨fun w' => ?_, ?_⟩; (focus (first | (go_simp; done) | (go_simp; first | rfl | (rw [if_neg] <;> first | rfl | omega) | (rw [if_pos] <;> first | rfl | omega)))); (try simp only [Rg4.nrm])) | (refine Rg4.w4_skip (Rg4.uw rfl rfl rfl) ?_; (try simp only [Rg4.nrm])) | (refine Rg4.w4_skip (Rg4.un rfl rfl rfl) ?_; (try simp only [Rg4.nrm])))
            (first | (refine Rg4.w4_cl (Rg4.wt rfl rfl rfl) rfl ?_; apply Exists.intro; refine ⟨fun w' hcl => ?_, ?_⟩; (focus (have q4 := Blk.cell hcl 4; (try simp at q4); (focus (first | (go_simp; done) | (go_simp; first | rfl | (rw [if_neg] <;> first | rfl | omega) | (rw [if_pos] <;> first | rfl | omega)))))); (try simp only [Rg4.nrm])) | (refine Rg4.w4_skip (Rg4.uw rfl rfl rfl) ?_; (try simp only [Rg4.nrm])) | (refine Rg4.w4_skip (Rg4.un rfl rfl rfl) ?_; (try simp only [Rg4.nrm])))
            first | refine Rg4.w4_skip (Rg4.uw rfl rfl rfl) ?_ | refine Rg4.w4_skip (Rg4.un rfl rfl rfl) ?_
            (try simp only [Rg4.nrm])

            first | refine Rg4.w4_skip (Rg4.uw rfl rfl rfl) ?_ | refine Rg4.w4_skip (Rg4.un rfl rfl rfl) ?_
            (try simp only [Rg4.nrm])
            (first | (refine Rg4.w4_any (Rg4.wt rfl rfl rfl) rfl ?_; apply Exists.intro; refine ⟨fun w' => ?_, ?_⟩; (focus (first | (go_simp; done) | (go_simp; first | rfl | (rw [if_neg] <;> first | rfl | omega) | (rw [if_pos] <;> first | rfl | omega)))); (try simp only [Rg4.nrm])) | (refine Rg4.w4_skip (Rg4.uw rfl rfl rfl) ?_; (try simp only [Rg4.nrm])) | (refine Rg4.w4_skip (Rg4.un rfl rfl rfl) ?_; (try simp only [Rg4.nrm])))
            (refine Rg4.w4_any (Rg4.want_none rfl) rfl ?_; apply Exists.intro; refine ⟨fun w' => ?_, ?_⟩; (focus (first | (go_simp; done) | (go_simp; first | rfl | (rw [if_neg] <;> first | rfl | omega) | (rw [if_pos] <;> first | rfl | omega)))); (try simp only [Rg4.nrm]))
            refine Rg4.w4_nil (fun w' hw' hcl' _ => ?_); subst hw'; clear hcl'
            go_wp2_with fail
            go_ret
            exact ⟨by rw [H1.out]; rfl, st.ext0⟩
          have h8b : decide ((8 : Int) < (sn : Int)) = false := by simp; omega
          cases sq with
          | false =>
            have H1 : Hid (r = false) := Lib.hid (by rw [H0.out, if_pos (.inr (.inr rfl))])
            go_enter Tryz.func8, Tryz.ntmps8
            go_wp2_with ((((with_reducible refine wl_box ?_ (fun K hK => ?_)); rfl; refine owp_box (o := ⟨some 1, _, _, _, _, _⟩) rfl st ?_; apply Exists.intro; refine ⟨?_, ?_⟩; (focus (go_simp; try rfl)); (clear st; intro b1 w hb st; clear hb))); (try simp only [nsl, Value.cells, unB] at st); (try clear hc); have hc := st.facts; (try simp only [nfl, nft, Nat.reduceAdd] at hc))
            refine Rg4.wp_region4_eq #[0, 1, 3, 7, 15, 31, 63, 127, 255, 511, 1023, 2047, 4095, 8191, 2047, 18431, 65535, 131071, 262143] [13, 16] [1, 6, 12] (fun W' => Blk W' b1 [.int .i64 2, .int .i64 0, .int .i64 0, .string ⟨nm.toArray⟩, .slice wa wn wc, .slice sa sn sc]) [0, 1, 2, 3, 4, 5, 6, 7, 8, 9, 10, 11, 12, 14, 15, 13, 16, 17, 18] (by kernel_rfl) (by kernel_rfl) (by kernel_rfl) (by kernel_rfl) (show Rg4.PB _ by repeat (first | with_reducible exact Rg4.pb_body | with_reducible exact Rg4.pb_bodyD rfl | with_reducible refine Rg4.pb_then ?_ | with_reducible refine Rg4.pb_inBlock ?_ | with_reducible refine Rg4.pb_noGoto ?_)) (st.drew.blk (i := 1) get1) ?_
            replace st := st.drew
            change Rg4.wp4 _ _ _ _ _ _ _ _ _ (World.drew _) _ _
            generalize World.drew _ = w at st ⊢
            (try clear hc); have hc := st.facts; (try simp only [nfl, nft, Nat.reduceAdd] at hc)
            (refine Rg4.w4_any (Rg4.want_none rfl) rfl ?_; apply Exists.intro; refine ⟨fun w' => ?_, ?_⟩; (focus (first | (go_simp; done) | (go_simp; first | rfl | (rw [if_neg] <;> first | rfl | omega) | (rw [if_pos] <;> first | rfl | omega)))); (try simp only [Rg4.nrm]))
            (refine Rg4.w4_read (Rg4.want_none rfl) rfl rfl ?_; apply Exists.intro; refine ⟨fun w' hw' hcl' => ?_, ?_⟩; focus (subst hw'; (focus (first | (go_simp; done) | (go_simp; first | rfl | (rw [if_neg] <;> first | rfl | omega) | (rw [if_pos] <;> first | rfl | omega))))); (try simp only [Rg4.nrm]))
            iterate 3 (refine Rg4.w4_any (Rg4.want_none rfl) rfl ?_; apply Exists.intro; refine ⟨fun w' => ?_, ?_⟩; (focus (first | (go_simp; done) | (go_simp; first | rfl | (rw [if_neg] <;> first | rfl | omega) | (rw [if_pos] <;> first | rfl | omega)))); (try simp only [Rg4.nrm]))
            (first | (refine Rg4.w4_any (Rg4.wt rfl rfl rfl) rfl ?_; apply Exists.intro; refine ⟨fun w' => ?_, ?_⟩; (focus (first | (go_simp; done) | (go_simp; first | rfl | (rw [if_neg] <;> first | rfl | omega) | (rw [if_pos] <;> first | rfl | omega)))); (try simp only [Rg4.nrm])) | (refine Rg4.w4_skip (Rg4.uw rfl rfl rfl) ?_; (try simp only [Rg4.nrm])) | (refine Rg4.w4_skip (Rg4.un rfl rfl rfl) ?_; (try simp only [Rg4.nrm])))
            (first | (refine Rg4.w4_read (Rg4.wt rfl rfl rfl) rfl rfl ?_; apply Exists.intro; refine ⟨fun w' hw' hcl' => ?_, ?_⟩; focus (subst hw'; (focus (first | (go_simp; done) | (go_simp; first | rfl | (rw [if_neg] <;> first | rfl | omega) | (rw [if_pos] <;> first | rfl | omega))))); (try simp only [Rg4.nrm])) | (refine Rg4.w4_skip (Rg4.uw rfl rfl rfl) ?_; (try simp only [Rg4.nrm])) | (refine Rg4.w4_skip (Rg4.un rfl rfl rfl) ?_; (try simp only [Rg4.nrm])))
            iterate 2 (first | (refine Rg4.w4_any (Rg4.wt rfl rfl rfl) rfl ?_; apply Exists.intro; refine ⟨fun w' => ?_, ?_⟩; (focus (first | (go_simp; done) | (go_simp; first | rfl | (rw [if_neg] <;> first | rfl | omega) | (rw [if_pos] <;> first | rfl | omega)))); (try simp only [Rg4.nrm])) | (refine Rg4.w4_skip (Rg4.uw rfl rfl rfl) ?_; (try simp only [Rg4.nrm])) | (refine Rg4.w4_skip (Rg4.un rfl rfl rfl) ?_; (try simp only [Rg4.nrm])))
            iterate 2 (refine Rg4.w4_any (Rg4.want_none rfl) rfl ?_; apply Exists.intro; refine ⟨fun w' => ?_, ?_⟩; (focus (first | (go_simp; done) | (go_simp; first | rfl | (rw [if_neg] <;> first | rfl | omega) | (rw [if_pos] <;> first | rfl | omega)))); (try simp only [Rg4.nrm]))
            (first | (refine Rg4.w4_any (Rg4.wt rfl rfl rfl) rfl ?_; apply Exists.intro; refine ⟨fun w' => ?_, ?_⟩; (focus (first | (go_simp; done) | (go_simp; first | rfl | (rw [if_neg] <;> first | rfl | omega) | (rw [if_pos] <;> first | rfl | omega)))); (try simp only [Rg4.nrm])) | (refine Rg4.w4_skip (Rg4.uw rfl rfl rfl) ?_; (try simp only [Rg4.nrm])) | (refine Rg4.w4_skip (Rg4.un rfl rfl rfl) ?_; (try simp only [Rg4.nrm])))
            (first | (refine Rg4.w4_read (Rg4.wt rfl rfl rfl) rfl rfl ?_; apply Exists.intro; refine ⟨fun w' hw' hcl' => ?_, ?_⟩; focus (subst hw'; (focus (first | (go_simp; done) | (go_simp; first | rfl | (rw [if_neg] <;> first | rfl | omega) | (rw [if_pos] <;> first | rfl | omega))))); (try simp only [Rg4.nrm])) | (refine Rg4.w4_skip (Rg4.uw rfl rfl rfl) ?_; (try simp only [Rg4.nrm])) | (refine Rg4.w4_skip (Rg4.un rfl rfl rfl) ?_; (try simp only [Rg4.nrm])))
            (first | (refine Rg4.w4_any (Rg4.wt rfl rfl rfl) rfl ?_; apply Exists.intro; refine ⟨fun w' => ?_, ?_⟩; (focus (first | (go_simp; done) | (go_simp; first | rfl | (rw [if_neg] <;> first | rfl | omega) | (rw [if_pos] <;> first | rfl | omega)))); (try simp only [Rg4.nrm])) | (refine Rg4.w4_skip (Rg4.uw rfl rfl rfl) ?_; (try simp only [Rg4.nrm])) | (refine Rg4.w4_skip (Rg4.un rfl rfl rfl) ?_; (try simp only [Rg4.nrm])))
            (first | (refine Rg4.w4_cl (Rg4.wt rfl rfl rfl) rfl ?_; apply Exists.intro; refine ⟨fun w' hcl => ?_, ?_⟩; (focus (have q4 := Blk.cell hcl 4; (try simp at q4); (focus (first | (go_simp; done) | (go_simp; first | rfl | (rw [if_neg] <;> first | rfl | omega) | (rw [if_pos] <;> first | rfl | omega)))))); (try simp only [Rg4.nrm])) | (refine Rg4.w4_skip (Rg4.uw rfl rfl rfl) ?_; (try simp only [Rg4.nrm])) | (refine Rg4.w4_skip (Rg4.un rfl rfl rfl) ?_; (try simp only [Rg4.nrm])))
            refine Rg4.w4_bar (Rg4.want_of 10 84 false rfl rfl rfl) rfl (fun w' hw' hcl _ K hK => ?_)
            subst hw'
            go_wp2_with fail
            refine (HRS.out _ (st.oldFl (i := 0) get0 HX.out.1.2)).mono ?_
            rintro en w ⟨va, vc, rfl, hfr⟩
            replace st := st.fresh hfr
            clear hfr
            (try simp only [nsl, Value.cells, unB] at st)
            (try clear hc); have hc := st.facts; (try simp only [nfl, nft, Nat.reduceAdd] at hc)
            refine hK _ _ ⟨st.blk (i := 1) get1, ?_⟩
            clear hK
            (try simp only [Rg4.nrm])

            refine Rg4.w4_bar (Rg4.want_of 10 84 false rfl rfl rfl) rfl (fun w' hw' hcl _ K hK => ?_)
            subst hw'
            go_wp2_with fail
            refine (HEQ.out _ _ _ (rowFl' (α := Role) st (i := 2) get2).2 (st.oldFl (i := 0) get0 HX.out.1.2)).mono ?_
            rintro en w ⟨rfl, hx⟩
            replace st := st.ext hx
            clear hx
            (try clear hc); have hc := st.facts; (try simp only [nfl, nft, Nat.reduceAdd] at hc)
            refine hK _ _ ⟨st.blk (i := 1) get1, ?_⟩
            clear hK
            (try simp only [Rg4.nrm])
            (first | (refine Rg4.w4_any (Rg4.wt rfl rfl rfl) rfl ?_; apply Exists.intro; refine ⟨fun w' => ?_, ?_⟩; (focus (first | (go_simp; done) | (go_simp; first | rfl | (rw [if_neg] <;> first | rfl | omega) | (rw [if_pos] <;> first | rfl | omega)))); (try simp only [Rg4.nrm])) | (refine Rg4.w4_skip (Rg4.uw rfl rfl rfl) ?_; (try simp only [Rg4.nrm])) | (refine Rg4.w4_skip (Rg4.un rfl rfl rfl) ?_; (try simp only [Rg4.nrm])))
            (refine Rg4.w4_any (Rg4.want_none rfl) rfl ?_; apply Exists.intro; refine ⟨fun w' => ?_, ?_⟩; (focus (first | (go_simp; done) | (go_simp; first | rfl | (rw [if_neg] <;> first | rfl | omega) | (rw [if_pos] <;> first | rfl | omega)))); (try simp only [Rg4.nrm]))
            refine Rg4.w4_nil (fun w' hw' hcl' _ => ?_); subst hw'; clear hcl'
            go_wp2_with fail
            go_ret
            exact ⟨by rw [H1.out]; rfl, st.ext0⟩
          | true =>
            have HA : Hid (r = (List.range ss.length).all (shAt ss)) := Lib.hid (by rw [H0.out, if_neg (by simp; omega)])
            go_enter Tryz.func8, Tryz.ntmps8
            go_wp2_with ((((with_reducible refine wl_box ?_ (fun K hK => ?_)); rfl; refine owp_box (o := ⟨some 1, _, _, _, _, _⟩) rfl st ?_; apply Exists.intro; refine ⟨?_, ?_⟩; (focus (go_simp; try rfl)); (clear st; intro b1 w hb st; clear hb))); (try simp only [nsl, Value.cells, unB] at st); (try clear hc); have hc := st.facts; (try simp only [nfl, nft, Nat.reduceAdd] at hc))
            refine Rg4.wp_region4_eq #[0, 1, 3, 7, 15, 31, 63, 127, 255, 511, 1023, 2047, 4095, 8191, 2047, 18431, 65535, 131071, 262143] [13, 16] [1, 6, 12] (fun W' => Blk W' b1 [.int .i64 2, .int .i64 0, .int .i64 0, .string ⟨nm.toArray⟩, .slice wa wn wc, .slice sa sn sc]) [0, 1, 2, 3, 4, 5, 6, 7, 8, 9, 10, 11, 12, 14, 15, 13, 16, 17, 18] (by kernel_rfl) (by kernel_rfl) (by kernel_rfl) (by kernel_rfl) (show Rg4.PB _ by repeat (first | with_reducible exact Rg4.pb_body | with_reducible exact Rg4.pb_bodyD rfl | with_reducible refine Rg4.pb_then ?_ | with_reducible refine Rg4.pb_inBlock ?_ | with_reducible refine Rg4.pb_noGoto ?_)) (st.drew.blk (i := 1) get1) ?_
            replace st := st.drew
            change Rg4.wp4 _ _ _ _ _ _ _ _ _ (World.drew _) _ _
            generalize World.drew _ = w at st ⊢
            (try clear hc); have hc := st.facts; (try simp only [nfl, nft, Nat.reduceAdd] at hc)
            (refine Rg4.w4_any (Rg4.want_none rfl) rfl ?_; apply Exists.intro; refine ⟨fun w' => ?_, ?_⟩; (focus (first | (go_simp; done) | (go_simp; first | rfl | (rw [if_neg] <;> first | rfl | omega) | (rw [if_pos] <;> first | rfl | omega)))); (try simp only [Rg4.nrm]))
            (refine Rg4.w4_read (Rg4.want_none rfl) rfl rfl ?_; apply Exists.intro; refine ⟨fun w' hw' hcl' => ?_, ?_⟩; focus (subst hw'; (focus (first | (go_simp; done) | (go_simp; first | rfl | (rw [if_neg] <;> first | rfl | omega) | (rw [if_pos] <;> first | rfl | omega))))); (try simp only [Rg4.nrm]))
            iterate 3 (refine Rg4.w4_any (Rg4.want_none rfl) rfl ?_; apply Exists.intro; refine ⟨fun w' => ?_, ?_⟩; (focus (first | (go_simp; done) | (go_simp; first | rfl | (rw [if_neg] <;> first | rfl | omega) | (rw [if_pos] <;> first | rfl | omega)))); (try simp only [Rg4.nrm]))
            (first | (refine Rg4.w4_any (Rg4.wt rfl rfl rfl) rfl ?_; apply Exists.intro; refine ⟨fun w' => ?_, ?_⟩; (focus (first | (go_simp; done) | (go_simp; first | rfl | (rw [if_neg] <;> first | rfl | omega) | (rw [if_pos] <;> first | rfl | omega)))); (try simp only [Rg4.nrm])) | (refine Rg4.w4_skip (Rg4.uw rfl rfl rfl) ?_; (try simp only [Rg4.nrm])) | (refine Rg4.w4_skip (Rg4.un rfl rfl rfl) ?_; (try simp only [Rg4.nrm])))
            (first | (refine Rg4.w4_read (Rg4.wt rfl rfl rfl) rfl rfl ?_; apply Exists.intro; refine ⟨fun w' hw' hcl' => ?_, ?_⟩; focus (subst hw'; (focus (first | (go_simp; done) | (go_simp; first | rfl | (rw [if_neg] <;> first | rfl | omega) | (rw [if_pos] <;> first | rfl | omega))))); (try simp only [Rg4.nrm])) | (refine Rg4.w4_skip (Rg4.uw rfl rfl rfl) ?_; (try simp only [Rg4.nrm])) | (refine Rg4.w4_skip (Rg4.un rfl rfl rfl) ?_; (try simp only [Rg4.nrm])))
            iterate 2 (first | (refine Rg4.w4_any (Rg4.wt rfl rfl rfl) rfl ?_; apply Exists.intro; refine ⟨fun w' => ?_, ?_⟩; (focus (first | (go_simp; done) | (go_simp; first | rfl | (rw [if_neg] <;> first | rfl | omega) | (rw [if_pos] <;> first | rfl | omega)))); (try simp only [Rg4.nrm])) | (refine Rg4.w4_skip (Rg4.uw rfl rfl rfl) ?_; (try simp only [Rg4.nrm])) | (refine Rg4.w4_skip (Rg4.un rfl rfl rfl) ?_; (try simp only [Rg4.nrm])))
            iterate 2 (refine Rg4.w4_any (Rg4.want_none rfl) rfl ?_; apply Exists.intro; refine ⟨fun w' => ?_, ?_⟩; (focus (first | (go_simp; done) | (go_simp; first | rfl | (rw [if_neg] <;> first | rfl | omega) | (rw [if_pos] <;> first | rfl | omega)))); (try simp only [Rg4.nrm]))
            (first | (refine Rg4.w4_any (Rg4.wt rfl rfl rfl) rfl ?_; apply Exists.intro; refine ⟨fun w' => ?_, ?_⟩; (focus (first | (go_simp; done) | (go_simp; first | rfl | (rw [if_neg] <;> first | rfl | omega) | (rw [if_pos] <;> first | rfl | omega)))); (try simp only [Rg4.nrm])) | (refine Rg4.w4_skip (Rg4.uw rfl rfl rfl) ?_; (try simp only [Rg4.nrm])) | (refine Rg4.w4_skip (Rg4.un rfl rfl rfl) ?_; (try simp only [Rg4.nrm])))
            (first | (refine Rg4.w4_read (Rg4.wt rfl rfl rfl) rfl rfl ?_; apply Exists.intro; refine ⟨fun w' hw' hcl' => ?_, ?_⟩; focus (subst hw'; (focus (first | (go_simp; done) | (go_simp; first | rfl | (rw [if_neg] <;> first | rfl | omega) | (rw [if_pos] <;> first | rfl | omega))))); (try simp only [Rg4.nrm])) | (refine Rg4.w4_skip (Rg4.uw rfl rfl rfl) ?_; (try simp only [Rg4.nrm])) | (refine Rg4.w4_skip (Rg4.un rfl rfl rfl) ?_; (try simp only [Rg4.nrm])))
            (first | (refine Rg4.w4_any (Rg4.wt rfl rfl rfl) rfl ?_; apply Exists.intro; refine ⟨fun w' => ?_, ?_⟩; (focus (first | (go_simp; done) | (go_simp; first | rfl | (rw [if_neg] <;> first | rfl | omega) | (rw [if_pos] <;> first | rfl | omega)))); (try simp only [Rg4.nrm])) | (refine Rg4.w4_skip (Rg4.uw rfl rfl rfl) ?_; (try simp only [Rg4.nrm])) | (refine Rg4.w4_skip (Rg4.un rfl rfl rfl) ?_; (try simp only [Rg4.nrm])))
            (first | (refine Rg4.w4_cl (Rg4.wt rfl rfl rfl) rfl ?_; apply Exists.intro; refine ⟨fun w' hcl => ?_, ?_⟩; (focus (have q4 := Blk.cell hcl 4; (try simp at q4); (focus (first | (go_simp; done) | (go_simp; first | rfl | (rw [if_neg] <;> first | rfl | omega) | (rw [if_pos] <;> first | rfl | omega)))))); (try simp only [Rg4.nrm])) | (refine Rg4.w4_skip (Rg4.uw rfl rfl rfl) ?_; (try simp only [Rg4.nrm])) | (refine Rg4.w4_skip (Rg4.un rfl rfl rfl) ?_; (try simp only [Rg4.nrm])))
            refine Rg4.w4_bar (Rg4.want_of 10 84 false rfl rfl rfl) rfl (fun w' hw' hcl _ K hK => ?_)
            subst hw'
            go_wp2_with fail
            refine (HRS.out _ (st.oldFl (i := 0) get0 HX.out.1.2)).mono ?_
            rintro en w ⟨va, vc, rfl, hfr⟩
            replace st := st.fresh hfr
            clear hfr
            (try simp only [nsl, Value.cells, unB] at st)
            (try clear hc); have hc := st.facts; (try simp only [nfl, nft, Nat.reduceAdd] at hc)
            refine hK _ _ ⟨st.blk (i := 1) get1, ?_⟩
            clear hK
            (try simp only [Rg4.nrm])

            refine Rg4.w4_bar (Rg4.want_of 10 84 false rfl rfl rfl) rfl (fun w' hw' hcl _ K hK => ?_)
            subst hw'
            go_wp2_with fail
            refine (HEQ.out _ _ _ (rowFl' (α := Role) st (i := 2) get2).2 (st.oldFl (i := 0) get0 HX.out.1.2)).mono ?_
            rintro en w ⟨rfl, hx⟩
            replace st := st.ext hx
            clear hx
            (try clear hc); have hc := st.facts; (try simp only [nfl, nft, Nat.reduceAdd] at hc)
            refine hK _ _ ⟨st.blk (i := 1) get1, ?_⟩
            clear hK
            (try simp only [Rg4.nrm])
            (first | (refine Rg4.w4_any (Rg4.wt rfl rfl rfl) rfl ?_; apply Exists.intro; refine ⟨fun w' => ?_, ?_⟩; (focus (first | (go_simp; done) | (go_simp; first | rfl | (rw [if_neg] <;> first | rfl | omega) | (rw [if_pos] <;> first | rfl | omega)))); (try simp only [Rg4.nrm])) | (refine Rg4.w4_skip (Rg4.uw rfl rfl rfl) ?_; (try simp only [Rg4.nrm])) | (refine Rg4.w4_skip (Rg4.un rfl rfl rfl) ?_; (try simp only [Rg4.nrm])))
            (refine Rg4.w4_any (Rg4.want_none rfl) rfl ?_; apply Exists.intro; refine ⟨fun w' => ?_, ?_⟩; (focus (first | (go_simp; done) | (go_simp; first | rfl | (rw [if_neg] <;> first | rfl | omega) | (rw [if_pos] <;> first | rfl | omega)))); (try simp only [Rg4.nrm]))
            refine Rg4.w4_nil (fun w' hw' hcl' _ => ?_); subst hw'; clear hcl'
            go_wp2_with fail
            go_loopg [96] sn (fun kk i wr => ∃ (j : Nat), j ≤ sn ∧ kk = sn - j ∧ i = .int .i64 (j : Int) ∧ Hid (∀ i, i < j → shAt ss i = true) ∧ Own (fun _ => False) (fun _ => True) W [oldI W, blkI b1 [.int .i64 2, .int .i64 0, .int .i64 0, .string ⟨nm.toArray⟩, .slice wa wn wc, .slice sa sn sc]] wr)
            case atStart => exact ⟨0, by omega, by omega, rfl, Lib.hid (fun i hi => by omega), by simpa [pick] using st.keep [0, 1] (by decide) (by simp)⟩
            case round =>
              obtain ⟨j, hj, rfl, rfl, HT, st'⟩ := hrel
              clear st hc
              have st := st'
              clear st'
              (try simp only [nsl, Value.cells, unB] at st)
              (try clear hc); have hc := st.facts; (try simp only [nfl, nft, Nat.reduceAdd] at hc)
              by_cases hjn : j < sn
              · obtain ⟨b, off, ha, hcell⟩ := HX.out.2.1.2.sgn (by omega)
                have hjl : j < ss.length := by have := HSL.out; omega
                have HBD : Hid (shAt ss j = false → r = false) := Lib.hid (fun q => by rw [HA.out, List.all_eq_false]; exact ⟨j, by simpa using hjl, by rw [q]; decide⟩)
                have hcx := hcell j ss[j] (List.getElem?_eq_getElem hjl)
                have hlx := HL.out ss[j] (List.getElem_mem hjl)
                cases j with
                | zero =>
                  have HSA : Hid (shAt ss 0 = (credR ss[0].c && (ss[0].n == 8))) := Lib.hid (shAt_0 hjl)
                  clear hcell
                  generalize ss[0] = x at *
                  have HCR := Lib.hid (fun W => refSgRight_any x W hlx.2)
                  obtain ⟨cr, hcr⟩ : ∃ q, (credR x.c && (x.n == 8)) = q := ⟨_, rfl⟩
                  rw [hcr] at HCR HSA
                  clear hcr
                  obtain ⟨⟨ck, ⟨ho, hd⟩, cw, ⟨bo, bd⟩, ⟨co, cd⟩, we⟩, a1, n1, m1, xs⟩ := x
                  simp only [Nat.zero_mul, Nat.add_zero, Nat.zero_add] at hcx
                  obtain ⟨r0, r1, r2, r3, r4, r5, r6, r7, r8, r9⟩ := hcx
                  replace r0 := st.oldCell (i := 0) get0 r0
                  replace r1 := st.oldCell (i := 0) get0 r1
                  replace r2 := st.oldCell (i := 0) get0 r2
                  replace r3 := st.oldCell (i := 0) get0 r3
                  replace r4 := st.oldCell (i := 0) get0 r4
                  replace r5 := st.oldCell (i := 0) get0 r5
                  replace r6 := st.oldCell (i := 0) get0 r6
                  replace r7 := st.oldCell (i := 0) get0 r7
                  replace r8 := st.oldCell (i := 0) get0 r8
                  replace r9 := st.oldCell (i := 0) get0 r9
                  subst ha
                  unfold S at r1 r2 r3 r4 r5 r6 r7 r8
                  unfold sgV S at HCR
                  simp only at HCR
                  clear hlx hjl
                  go_wp2_with ((first
                        | ((with_reducible refine wl_alloc ?_ (fun K hK => ?_)); rfl; refine owp_alloc (o := ⟨some 5, _, _, _, _, _⟩) rfl st ?_; apply Exists.intro; apply Exists.intro; refine ⟨?_, ?_⟩; (focus (first | (go_simp; done) | (go_simp; rfl))); (clear st; intro b5 w hb st; clear hb))
                        | ((with_reducible refine wl_store ?_ (fun K hK => ?_)); rfl; refine owp_store rfl st ?_; apply Exists.intro; apply Exists.intro; refine ⟨?_, ?_, ?_⟩; (focus (go_simp; try rfl)); (focus (go_simp; try rfl)); (with_reducible refine ⟨2, _, _, _, _, get2, rfl, rfl, ?_, ?_, ?_, ?_⟩); (kernel_rfl); (simp [Value.cells]); (rfl); (clear st; intro w st))); (try simp only [nsl, Value.cells, unB] at st); (try clear hc); have hc := st.facts; (try simp only [nfl, nft, Nat.reduceAdd] at hc))
                  clear r0 r1 r2 r3 r4 r5 r6 r7 r8 r9
                  cases cr with
                  | false =>
                    have HF : Hid (r = false) := Lib.hid (HBD.out (by rw [HSA.out]; skip))
                    refine Rg4.wp_region4_eq #[0, 1, 3, 7, 15, 31, 63, 127, 255, 127, 639, 2047, 4095, 8191, 127, 16511, 65535, 131071, 262143, 524287] [1, 16] [0, 8, 13, 15] (fun _ => True) [0, 1, 2, 3, 4, 5, 6, 7, 8, 9, 10, 11, 12, 13, 14, 15, 16, 17, 18, 19] (by kernel_rfl) (by kernel_rfl) (by kernel_rfl) (by kernel_rfl) (show Rg4.PB _ by repeat (first | with_reducible exact Rg4.pb_body | with_reducible exact Rg4.pb_bodyD rfl | with_reducible refine Rg4.pb_then ?_ | with_reducible refine Rg4.pb_inBlock ?_ | with_reducible refine Rg4.pb_noGoto ?_)) (trivial) ?_
                    replace st := st.drew
                    change Rg4.wp4 _ _ _ _ _ _ _ _ _ (World.drew _) _ _
                    generalize World.drew _ = w at st ⊢
                    (try clear hc); have hc := st.facts; (try simp only [nfl, nft, Nat.reduceAdd] at hc)
                    (refine Rg4.w4_read (Rg4.want_none rfl) rfl rfl ?_; apply Exists.intro; refine ⟨fun w' hw' hcl' => ?_, ?_⟩; focus (subst hw'; (focus (first | (go_simp; done) | (go_simp; first | rfl | (rw [if_neg] <;> first | rfl | omega) | (rw [if_pos] <;> first | rfl | omega))))); (try simp only [Rg4.nrm]))
                    refine Rg4.w4_bar (Rg4.want_none rfl) rfl (fun w' hw' hcl _ K hK => ?_)
                    subst hw'
                    go_wp2_with fail
                    refine (HCR.out _).mono ?_
                    rintro en w ⟨rfl, hx⟩
                    replace st := st.ext hx
                    clear hx
                    (try clear hc); have hc := st.facts; (try simp only [nfl, nft, Nat.reduceAdd] at hc)
                    refine hK _ _ ⟨trivial, ?_⟩
                    clear hK
                    (try simp only [Rg4.nrm])
                    iterate 2 (refine Rg4.w4_any (Rg4.want_none rfl) rfl ?_; apply Exists.intro; refine ⟨fun w' => ?_, ?_⟩; (focus (first | (go_simp; done) | (go_simp; first | rfl | (rw [if_neg] <;> first | rfl | omega) | (rw [if_pos] <;> first | rfl | omega)))); (try simp only [Rg4.nrm]))
                    iterate 4 (first | (refine Rg4.w4_any (Rg4.wt rfl rfl rfl) rfl ?_; apply Exists.intro; refine ⟨fun w' => ?_, ?_⟩; (focus (first | (go_simp; done) | (go_simp; first | rfl | (rw [if_neg] <;> first | rfl | omega) | (rw [if_pos] <;> first | rfl | omega)))); (try simp only [Rg4.nrm])) | (refine Rg4.w4_skip (Rg4.uw rfl rfl rfl) ?_; (try simp only [Rg4.nrm])) | (refine Rg4.w4_skip (Rg4.un rfl rfl rfl) ?_; (try simp only [Rg4.nrm])))
                    (first | (refine Rg4.w4_read (Rg4.wt rfl rfl rfl) rfl rfl ?_; apply Exists.intro; refine ⟨fun w' hw' hcl' => ?_, ?_⟩; focus (subst hw'; (focus (first | (go_simp; done) | (go_simp; first | rfl | (rw [if_neg] <;> first | rfl | omega) | (rw [if_pos] <;> first | rfl | omega))))); (try simp only [Rg4.nrm])) | (refine Rg4.w4_skip (Rg4.uw rfl rfl rfl) ?_; (try simp only [Rg4.nrm])) | (refine Rg4.w4_skip (Rg4.un rfl rfl rfl) ?_; (try simp only [Rg4.nrm])))
                    iterate 4 (first | (refine Rg4.w4_any (Rg4.wt rfl rfl rfl) rfl ?_; apply Exists.intro; refine ⟨fun w' => ?_, ?_⟩; (focus (first | (go_simp; done) | (go_simp; first | rfl | (rw [if_neg] <;> first | rfl | omega) | (rw [if_pos] <;> first | rfl | omega)))); (try simp only [Rg4.nrm])) | (refine Rg4.w4_skip (Rg4.uw rfl rfl rfl) ?_; (try simp only [Rg4.nrm])) | (refine Rg4.w4_skip (Rg4.un rfl rfl rfl) ?_; (try simp only [Rg4.nrm])))
                    (first | (refine Rg4.w4_read (Rg4.wt rfl rfl rfl) rfl rfl ?_; apply Exists.intro; refine ⟨fun w' hw' hcl' => ?_, ?_⟩; focus (subst hw'; (focus (first | (go_simp; done) | (go_simp; first | rfl | (rw [if_neg] <;> first | rfl | omega) | (rw [if_pos] <;> first | rfl | omega))))); (try simp only [Rg4.nrm])) | (refine Rg4.w4_skip (Rg4.uw rfl rfl rfl) ?_; (try simp only [Rg4.nrm])) | (refine Rg4.w4_skip (Rg4.un rfl rfl rfl) ?_; (try simp only [Rg4.nrm])))
                    (first | (refine Rg4.w4_any (Rg4.wt rfl rfl rfl) rfl ?_; apply Exists.intro; refine ⟨fun w' => ?_, ?_⟩; (focus (first | (go_simp; done) | (go_simp; first | rfl | (rw [if_neg] <;> first | rfl | omega) | (rw [if_pos] <;> first | rfl | omega)))); (try simp only [Rg4.nrm])) | (refine Rg4.w4_skip (Rg4.uw rfl rfl rfl) ?_; (try simp only [Rg4.nrm])) | (refine Rg4.w4_skip (Rg4.un rfl rfl rfl) ?_; (try simp only [Rg4.nrm])))
                    (first | (refine Rg4.w4_read (Rg4.wt rfl rfl rfl) rfl rfl ?_; apply Exists.intro; refine ⟨fun w' hw' hcl' => ?_, ?_⟩; focus (subst hw'; (focus (first | (go_simp; done) | (go_simp; first | rfl | (rw [if_neg] <;> first | rfl | omega) | (rw [if_pos] <;> first | rfl | omega))))); (try simp only [Rg4.nrm])) | (refine Rg4.w4_skip (Rg4.uw rfl rfl rfl) ?_; (try simp only [Rg4.nrm])) | (refine Rg4.w4_skip (Rg4.un rfl rfl rfl) ?_; (try simp only [Rg4.nrm])))
                    first | refine Rg4.w4_skip (Rg4.uw rfl rfl rfl) ?_ | refine Rg4.w4_skip (Rg4.un rfl rfl rfl) ?_
                    (try simp only [Rg4.nrm])
                    iterate 2 (first | (refine Rg4.w4_any (Rg4.wt rfl rfl rfl) rfl ?_; apply Exists.intro; refine ⟨fun w' => ?_, ?_⟩; (focus (first | (go_simp; done) | (go_simp; first | rfl | (rw [if_neg] <;> first | rfl | omega) | (rw [if_pos] <;> first | rfl | omega)))); (try simp only [Rg4.nrm])) | (refine Rg4.w4_skip (Rg4.uw rfl rfl rfl) ?_; (try simp only [Rg4.nrm])) | (refine Rg4.w4_skip (Rg4.un rfl rfl rfl) ?_; (try simp only [Rg4.nrm])))
                    (refine Rg4.w4_any (Rg4.want_none rfl) rfl ?_; apply Exists.intro; refine ⟨fun w' => ?_, ?_⟩; (focus (first | (go_simp; done) | (go_simp; first | rfl | (rw [if_neg] <;> first | rfl | omega) | (rw [if_pos] <;> first | rfl | omega)))); (try simp only [Rg4.nrm]))
                    refine Rg4.w4_nil (fun w' hw' hcl' _ => ?_); subst hw'; clear hcl'
                    go_wp2_with fail
                    go_ret
                    exact ⟨by rw [HF.out]; rfl, st.ext0⟩
                  | true =>
                    refine Rg4.wp_region4_eq #[0, 1, 3, 7, 15, 31, 63, 127, 255, 127, 639, 2047, 4095, 8191, 127, 16511, 65535, 131071, 262143, 524287] [1, 16] [0, 8, 13, 15] (fun _ => True) [0, 1, 2, 3, 4, 5, 6, 7, 8, 9, 10, 11, 12, 13, 14, 15, 16, 17, 18, 19] (by kernel_rfl) (by kernel_rfl) (by kernel_rfl) (by kernel_rfl) (show Rg4.PB _ by repeat (first | with_reducible exact Rg4.pb_body | with_reducible exact Rg4.pb_bodyD rfl | with_reducible refine Rg4.pb_then ?_ | with_reducible refine Rg4.pb_inBlock ?_ | with_reducible refine Rg4.pb_noGoto ?_)) (trivial) ?_
                    replace st := st.drew
                    change Rg4.wp4 _ _ _ _ _ _ _ _ _ (World.drew _) _ _
                    generalize World.drew _ = w at st ⊢
                    (try clear hc); have hc := st.facts; (try simp only [nfl, nft, Nat.reduceAdd] at hc)
                    (refine Rg4.w4_read (Rg4.want_none rfl) rfl rfl ?_; apply Exists.intro; refine ⟨fun w' hw' hcl' => ?_, ?_⟩; focus (subst hw'; (focus (first | (go_simp; done) | (go_simp; first | rfl | (rw [if_neg] <;> first | rfl | omega) | (rw [if_pos] <;> first | rfl | omega))))); (try simp only [Rg4.nrm]))
                    refine Rg4.w4_bar (Rg4.want_none rfl) rfl (fun w' hw' hcl _ K hK => ?_)
                    subst hw'
                    go_wp2_with fail
                    refine (HCR.out _).mono ?_
                    rintro en w ⟨rfl, hx⟩
                    replace st := st.ext hx
                    clear hx
                    (try clear hc); have hc := st.facts; (try simp only [nfl, nft, Nat.reduceAdd] at hc)
                    refine hK _ _ ⟨trivial, ?_⟩
                    clear hK
                    (try simp only [Rg4.nrm])
                    iterate 2 (refine Rg4.w4_any (Rg4.want_none rfl) rfl ?_; apply Exists.intro; refine ⟨fun w' => ?_, ?_⟩; (focus (first | (go_simp; done) | (go_simp; first | rfl | (rw [if_neg] <;> first | rfl | omega) | (rw [if_pos] <;> first | rfl | omega)))); (try simp only [Rg4.nrm]))
                    iterate 4 (first | (refine Rg4.w4_any (Rg4.wt rfl rfl rfl) rfl ?_; apply Exists.intro; refine ⟨fun w' => ?_, ?_⟩; (focus (first | (go_simp; done) | (go_simp; first | rfl | (rw [if_neg] <;> first | rfl | omega) | (rw [if_pos] <;> first | rfl | omega)))); (try simp only [Rg4.nrm])) | (refine Rg4.w4_skip (Rg4.uw rfl rfl rfl) ?_; (try simp only [Rg4.nrm])) | (refine Rg4.w4_skip (Rg4.un rfl rfl rfl) ?_; (try simp only [Rg4.nrm])))
                    (first | (refine Rg4.w4_read (Rg4.wt rfl rfl rfl) rfl rfl ?_; apply Exists.intro; refine ⟨fun w' hw' hcl' => ?_, ?_⟩; focus (subst hw'; (focus (first | (go_simp; done) | (go_simp; first | rfl | (rw [if_neg] <;> first | rfl | omega) | (rw [if_pos] <;> first | rfl | omega))))); (try simp only [Rg4.nrm])) | (refine Rg4.w4_skip (Rg4.uw rfl rfl rfl) ?_; (try simp only [Rg4.nrm])) | (refine Rg4.w4_skip (Rg4.un rfl rfl rfl) ?_; (try simp only [Rg4.nrm])))
                    iterate 4 (first | (refine Rg4.w4_any (Rg4.wt rfl rfl rfl) rfl ?_; apply Exists.intro; refine ⟨fun w' => ?_, ?_⟩; (focus (first | (go_simp; done) | (go_simp; first | rfl | (rw [if_neg] <;> first | rfl | omega) | (rw [if_pos] <;> first | rfl | omega)))); (try simp only [Rg4.nrm])) | (refine Rg4.w4_skip (Rg4.uw rfl rfl rfl) ?_; (try simp only [Rg4.nrm])) | (refine Rg4.w4_skip (Rg4.un rfl rfl rfl) ?_; (try simp only [Rg4.nrm])))
                    (first | (refine Rg4.w4_read (Rg4.wt rfl rfl rfl) rfl rfl ?_; apply Exists.intro; refine ⟨fun w' hw' hcl' => ?_, ?_⟩; focus (subst hw'; (focus (first | (go_simp; done) | (go_simp; first | rfl | (rw [if_neg] <;> first | rfl | omega) | (rw [if_pos] <;> first | rfl | omega))))); (try simp only [Rg4.nrm])) | (refine Rg4.w4_skip (Rg4.uw rfl rfl rfl) ?_; (try simp only [Rg4.nrm])) | (refine Rg4.w4_skip (Rg4.un rfl rfl rfl) ?_; (try simp only [Rg4.nrm])))
                    (first | (refine Rg4.w4_any (Rg4.wt rfl rfl rfl) rfl ?_; apply Exists.intro; refine ⟨fun w' => ?_, ?_⟩; (focus (first | (go_simp; done) | (go_simp; first | rfl | (rw [if_neg] <;> first | rfl | omega) | (rw [if_pos] <;> first | rfl | omega)))); (try simp only [Rg4.nrm])) | (refine Rg4.w4_skip (Rg4.uw rfl rfl rfl) ?_; (try simp only [Rg4.nrm])) | (refine Rg4.w4_skip (Rg4.un rfl rfl rfl) ?_; (try simp only [Rg4.nrm])))
                    (first | (refine Rg4.w4_read (Rg4.wt rfl rfl rfl) rfl rfl ?_; apply Exists.intro; refine ⟨fun w' hw' hcl' => ?_, ?_⟩; focus (subst hw'; (focus (first | (go_simp; done) | (go_simp; first | rfl | (rw [if_neg] <;> first | rfl | omega) | (rw [if_pos] <;> first | rfl | omega))))); (try simp only [Rg4.nrm])) | (refine Rg4.w4_skip (Rg4.uw rfl rfl rfl) ?_; (try simp only [Rg4.nrm])) | (refine Rg4.w4_skip (Rg4.un rfl rfl rfl) ?_; (try simp only [Rg4.nrm])))
                    first | refine Rg4.w4_skip (Rg4.uw rfl rfl rfl) ?_ | refine Rg4.w4_skip (Rg4.un rfl rfl rfl) ?_
                    (try simp only [Rg4.nrm])
                    iterate 2 (first | (refine Rg4.w4_any (Rg4.wt rfl rfl rfl) rfl ?_; apply Exists.intro; refine ⟨fun w' => ?_, ?_⟩; (focus (first | (go_simp; done) | (go_simp; first | rfl | (rw [if_neg] <;> first | rfl | omega) | (rw [if_pos] <;> first | rfl | omega)))); (try simp only [Rg4.nrm])) | (refine Rg4.w4_skip (Rg4.uw rfl rfl rfl) ?_; (try simp only [Rg4.nrm])) | (refine Rg4.w4_skip (Rg4.un rfl rfl rfl) ?_; (try simp only [Rg4.nrm])))
                    (refine Rg4.w4_any (Rg4.want_none rfl) rfl ?_; apply Exists.intro; refine ⟨fun w' => ?_, ?_⟩; (focus (first | (go_simp; done) | (go_simp; first | rfl | (rw [if_neg] <;> first | rfl | omega) | (rw [if_pos] <;> first | rfl | omega)))); (try simp only [Rg4.nrm]))
                    refine Rg4.w4_nil (fun w' hw' hcl' _ => ?_); subst hw'; clear hcl'
                    have HF : Hid (∀ i, i < 0 + 1 → shAt ss i = true) := Lib.hid (fun i hi => by
                      rcases Nat.lt_succ_iff_lt_or_eq.1 hi with z | z
                      · exact HT.out i z
                      · rw [z, HSA.out]; skip)
                    go_wp2_with fail
                    have st' := st.keep [0, 1] (by decide) (by simp)
                    go_roundg (sn - (0 + 1))
                    case measure => omega
                    case rel => exact ⟨0 + 1, by omega, by omega, by go_num, HF, by simpa [pick] using st'⟩
                | succ j =>
                  have HSA : Hid (shAt ss (j + 1) = (credR ss[j + 1].c && (ss[j + 1].n == 8) && decide (credCmp ss[j].c ss[j + 1].c < 0))) := Lib.hid (shAt_s hjl)
                  have hcy := hcell j ss[j] (List.getElem?_eq_getElem (by omega))
                  have hly := HL.out ss[j] (List.getElem_mem (by omega))
                  clear hcell
                  generalize ss[j + 1] = x at *
                  generalize ss[j]'(by omega) = y at *
                  have HCR := Lib.hid (fun W => refSgRight_any x W hlx.2)
                  have HCC := Lib.hid (fun W => refCredCompare_any y.c x.c W hly.2.L hlx.2.L)
                  obtain ⟨cr, hcr⟩ : ∃ q, (credR x.c && (x.n == 8)) = q := ⟨_, rfl⟩
                  rw [hcr] at HCR HSA
                  obtain ⟨cc, hcc⟩ : ∃ q, credCmp y.c x.c = q := ⟨_, rfl⟩
                  rw [hcc] at HCC HSA
                  clear hcr hcc
                  obtain ⟨⟨ck, ⟨ho, hd⟩, cw, ⟨bo, bd⟩, ⟨co, cd⟩, we⟩, a1, n1, m1, xs⟩ := x
                  obtain ⟨⟨ck', ⟨ho', hd'⟩, cw', ⟨bo', bd'⟩, ⟨co', cd'⟩, we'⟩, a2, n2, m2, ys⟩ := y
                  obtain ⟨r0, r1, r2, r3, r4, r5, r6, r7, r8, r9⟩ := hcx
                  replace r0 := st.oldCell (i := 0) get0 r0
                  replace r1 := st.oldCell (i := 0) get0 r1
                  replace r2 := st.oldCell (i := 0) get0 r2
                  replace r3 := st.oldCell (i := 0) get0 r3
                  replace r4 := st.oldCell (i := 0) get0 r4
                  replace r5 := st.oldCell (i := 0) get0 r5
                  replace r6 := st.oldCell (i := 0) get0 r6
                  replace r7 := st.oldCell (i := 0) get0 r7
                  replace r8 := st.oldCell (i := 0) get0 r8
                  replace r9 := st.oldCell (i := 0) get0 r9
                  subst ha
                  simp only at r0 r1 r2 r3 r4 r5 r6 r7 r8 r9 hcy
                  unfold S at r1 r2 r3 r4 r5 r6 r7 r8 hcy
                  unfold cV S at HCC
                  unfold sgV S at HCR
                  simp only at HCR HCC
                  have HCY := Lib.hid hcy
                  clear hlx hly hjl hcy
                  have hwj : IntKind.i64.wrap (j : Int) = (j : Int) := IntWalk.i64_in _ ⟨by omega, by omega⟩
                  go_wp2_with ((first
                        | ((with_reducible refine wl_alloc ?_ (fun K hK => ?_)); rfl; refine owp_alloc (o := ⟨some 5, _, _, _, _, _⟩) rfl st ?_; apply Exists.intro; apply Exists.intro; refine ⟨?_, ?_⟩; (focus (first | (go_simp; done) | (go_simp; rfl))); (clear st; intro b5 w hb st; clear hb))
                        | ((with_reducible refine wl_store ?_ (fun K hK => ?_)); rfl; refine owp_store rfl st ?_; apply Exists.intro; apply Exists.intro; refine ⟨?_, ?_, ?_⟩; (focus (go_simp; try rfl)); (focus (go_simp; try rfl)); (with_reducible refine ⟨2, _, _, _, _, get2, rfl, rfl, ?_, ?_, ?_, ?_⟩); (kernel_rfl); (simp [Value.cells]); (rfl); (clear st; intro w st))); (try simp only [nsl, Value.cells, unB] at st); (try clear hc); have hc := st.facts; (try simp only [nfl, nft, Nat.reduceAdd] at hc))
                  clear r0 r1 r2 r3 r4 r5 r6 r7 r8 r9
                  cases cr with
                  | false =>
                    have HF : Hid (r = false) := Lib.hid (HBD.out (by rw [HSA.out]; rw [Bool.false_and]))
                    refine Rg4.wp_region4_eq #[0, 1, 3, 7, 15, 31, 63, 127, 255, 127, 639, 2047, 4095, 8191, 127, 16511, 65535, 131071, 262143, 524287] [1, 16] [0, 8, 13, 15] (fun _ => True) [0, 1, 2, 3, 4, 5, 6, 7, 8, 9, 10, 11, 12, 13, 14, 15, 16, 17, 18, 19] (by kernel_rfl) (by kernel_rfl) (by kernel_rfl) (by kernel_rfl) (show Rg4.PB _ by repeat (first | with_reducible exact Rg4.pb_body | with_reducible exact Rg4.pb_bodyD rfl | with_reducible refine Rg4.pb_then ?_ | with_reducible refine Rg4.pb_inBlock ?_ | with_reducible refine Rg4.pb_noGoto ?_)) (trivial) ?_
                    replace st := st.drew
                    change Rg4.wp4 _ _ _ _ _ _ _ _ _ (World.drew _) _ _
                    generalize World.drew _ = w at st ⊢
                    (try clear hc); have hc := st.facts; (try simp only [nfl, nft, Nat.reduceAdd] at hc)
                    (refine Rg4.w4_read (Rg4.want_none rfl) rfl rfl ?_; apply Exists.intro; refine ⟨fun w' hw' hcl' => ?_, ?_⟩; focus (subst hw'; (focus (first | (go_simp; done) | (go_simp; first | rfl | (rw [if_neg] <;> first | rfl | omega) | (rw [if_pos] <;> first | rfl | omega))))); (try simp only [Rg4.nrm]))
                    refine Rg4.w4_bar (Rg4.want_none rfl) rfl (fun w' hw' hcl _ K hK => ?_)
                    subst hw'
                    go_wp2_with fail
                    refine (HCR.out _).mono ?_
                    rintro en w ⟨rfl, hx⟩
                    replace st := st.ext hx
                    clear hx
                    (try clear hc); have hc := st.facts; (try simp only [nfl, nft, Nat.reduceAdd] at hc)
                    refine hK _ _ ⟨trivial, ?_⟩
                    clear hK
                    (try simp only [Rg4.nrm])
                    iterate 2 (refine Rg4.w4_any (Rg4.want_none rfl) rfl ?_; apply Exists.intro; refine ⟨fun w' => ?_, ?_⟩; (focus (first | (go_simp; done) | (go_simp; first | rfl | (rw [if_neg] <;> first | rfl | omega) | (rw [if_pos] <;> first | rfl | omega)))); (try simp only [Rg4.nrm]))
                    iterate 4 (first | (refine Rg4.w4_any (Rg4.wt rfl rfl rfl) rfl ?_; apply Exists.intro; refine ⟨fun w' => ?_, ?_⟩; (focus (first | (go_simp; done) | (go_simp; first | rfl | (rw [if_neg] <;> first | rfl | omega) | (rw [if_pos] <;> first | rfl | omega)))); (try simp only [Rg4.nrm])) | (refine Rg4.w4_skip (Rg4.uw rfl rfl rfl) ?_; (try simp only [Rg4.nrm])) | (refine Rg4.w4_skip (Rg4.un rfl rfl rfl) ?_; (try simp only [Rg4.nrm])))
                    (first | (refine Rg4.w4_read (Rg4.wt rfl rfl rfl) rfl rfl ?_; apply Exists.intro; refine ⟨fun w' hw' hcl' => ?_, ?_⟩; focus (subst hw'; (focus (first | (go_simp; done) | (go_simp; first | rfl | (rw [if_neg] <;> first | rfl | omega) | (rw [if_pos] <;> first | rfl | omega))))); (try simp only [Rg4.nrm])) | (refine Rg4.w4_skip (Rg4.uw rfl rfl rfl) ?_; (try simp only [Rg4.nrm])) | (refine Rg4.w4_skip (Rg4.un rfl rfl rfl) ?_; (try simp only [Rg4.nrm])))
                    iterate 4 (first | (refine Rg4.w4_any (Rg4.wt rfl rfl rfl) rfl ?_; apply Exists.intro; refine ⟨fun w' => ?_, ?_⟩; (focus (first | (go_simp; done) | (go_simp; first | rfl | (rw [if_neg] <;> first | rfl | omega) | (rw [if_pos] <;> first | rfl | omega)))); (try simp only [Rg4.nrm])) | (refine Rg4.w4_skip (Rg4.uw rfl rfl rfl) ?_; (try simp only [Rg4.nrm])) | (refine Rg4.w4_skip (Rg4.un rfl rfl rfl) ?_; (try simp only [Rg4.nrm])))
                    (first | (refine Rg4.w4_read (Rg4.wt rfl rfl rfl) rfl rfl ?_; apply Exists.intro; refine ⟨fun w' hw' hcl' => ?_, ?_⟩; focus (subst hw'; (focus (first | (go_simp; done) | (go_simp; first | rfl | (rw [if_neg] <;> first | rfl | omega) | (rw [if_pos] <;> first | rfl | omega))))); (try simp only [Rg4.nrm])) | (refine Rg4.w4_skip (Rg4.uw rfl rfl rfl) ?_; (try simp only [Rg4.nrm])) | (refine Rg4.w4_skip (Rg4.un rfl rfl rfl) ?_; (try simp only [Rg4.nrm])))
                    (first | (refine Rg4.w4_any (Rg4.wt rfl rfl rfl) rfl ?_; apply Exists.intro; refine ⟨fun w' => ?_, ?_⟩; (focus (first | (go_simp; done) | (go_simp; first | rfl | (rw [if_neg] <;> first | rfl | omega) | (rw [if_pos] <;> first | rfl | omega)))); (try simp only [Rg4.nrm])) | (refine Rg4.w4_skip (Rg4.uw rfl rfl rfl) ?_; (try simp only [Rg4.nrm])) | (refine Rg4.w4_skip (Rg4.un rfl rfl rfl) ?_; (try simp only [Rg4.nrm])))
                    (first | (refine Rg4.w4_read (Rg4.wt rfl rfl rfl) rfl rfl ?_; apply Exists.intro; refine ⟨fun w' hw' hcl' => ?_, ?_⟩; focus (subst hw'; (focus (first | (go_simp; done) | (go_simp; first | rfl | (rw [if_neg] <;> first | rfl | omega) | (rw [if_pos] <;> first | rfl | omega))))); (try simp only [Rg4.nrm])) | (refine Rg4.w4_skip (Rg4.uw rfl rfl rfl) ?_; (try simp only [Rg4.nrm])) | (refine Rg4.w4_skip (Rg4.un rfl rfl rfl) ?_; (try simp only [Rg4.nrm])))
                    first | refine Rg4.w4_skip (Rg4.uw rfl rfl rfl) ?_ | refine Rg4.w4_skip (Rg4.un rfl rfl rfl) ?_
                    (try simp only [Rg4.nrm])
                    iterate 2 (first | (refine Rg4.w4_any (Rg4.wt rfl rfl rfl) rfl ?_; apply Exists.intro; refine ⟨fun w' => ?_, ?_⟩; (focus (first | (go_simp; done) | (go_simp; first | rfl | (rw [if_neg] <;> first | rfl | omega) | (rw [if_pos] <;> first | rfl | omega)))); (try simp only [Rg4.nrm])) | (refine Rg4.w4_skip (Rg4.uw rfl rfl rfl) ?_; (try simp only [Rg4.nrm])) | (refine Rg4.w4_skip (Rg4.un rfl rfl rfl) ?_; (try simp only [Rg4.nrm])))
                    (refine Rg4.w4_any (Rg4.want_none rfl) rfl ?_; apply Exists.intro; refine ⟨fun w' => ?_, ?_⟩; (focus (first | (go_simp; done) | (go_simp; first | rfl | (rw [if_neg] <;> first | rfl | omega) | (rw [if_pos] <;> first | rfl | omega)))); (try simp only [Rg4.nrm]))
                    refine Rg4.w4_nil (fun w' hw' hcl' _ => ?_); subst hw'; clear hcl'
                    go_wp2_with fail
                    go_ret
                    exact ⟨by rw [HF.out]; rfl, st.ext0⟩
                  | true =>
                    by_cases hlt : cc < 0
                    · have HCL := Lib.hid hlt
                      have hge : decide (cc ≥ 0) = false := by simpa using hlt
                      clear hlt
                      refine Rg4.wp_region4_eq #[0, 1, 3, 7, 15, 31, 63, 127, 255, 127, 639, 2047, 4095, 8191, 127, 16511, 65535, 131071, 262143, 524287] [1, 16] [0, 8, 13, 15] (fun _ => True) [0, 1, 2, 3, 4, 5, 6, 7, 8, 9, 10, 11, 12, 13, 14, 15, 16, 17, 18, 19] (by kernel_rfl) (by kernel_rfl) (by kernel_rfl) (by kernel_rfl) (show Rg4.PB _ by repeat (first | with_reducible exact Rg4.pb_body | with_reducible exact Rg4.pb_bodyD rfl | with_reducible refine Rg4.pb_then ?_ | with_reducible refine Rg4.pb_inBlock ?_ | with_reducible refine Rg4.pb_noGoto ?_)) (trivial) ?_
                      replace st := st.drew
                      change Rg4.wp4 _ _ _ _ _ _ _ _ _ (World.drew _) _ _
                      generalize World.drew _ = w at st ⊢
                      (try clear hc); have hc := st.facts; (try simp only [nfl, nft, Nat.reduceAdd] at hc)
                      (refine Rg4.w4_read (Rg4.want_none rfl) rfl rfl ?_; apply Exists.intro; refine ⟨fun w' hw' hcl' => ?_, ?_⟩; focus (subst hw'; obtain ⟨p0, p1, p2, p3, p4, p5, p6, p7, p8, p9⟩ := HCY.out; replace p0 := st.oldCell (i := 0) get0 p0; replace p1 := st.oldCell (i := 0) get0 p1; replace p2 := st.oldCell (i := 0) get0 p2; replace p3 := st.oldCell (i := 0) get0 p3; replace p4 := st.oldCell (i := 0) get0 p4; replace p5 := st.oldCell (i := 0) get0 p5; replace p6 := st.oldCell (i := 0) get0 p6; replace p7 := st.oldCell (i := 0) get0 p7; replace p8 := st.oldCell (i := 0) get0 p8; (focus (first | (go_simp; done) | (go_simp; first | rfl | (rw [if_neg] <;> first | rfl | omega) | (rw [if_pos] <;> first | rfl | omega))))); (try simp only [Rg4.nrm]))
                      refine Rg4.w4_bar (Rg4.want_none rfl) rfl (fun w' hw' hcl _ K hK => ?_)
                      subst hw'
                      go_wp2_with fail
                      refine (HCR.out _).mono ?_
                      rintro en w ⟨rfl, hx⟩
                      replace st := st.ext hx
                      clear hx
                      (try clear hc); have hc := st.facts; (try simp only [nfl, nft, Nat.reduceAdd] at hc)
                      refine hK _ _ ⟨trivial, ?_⟩
                      clear hK
                      (try simp only [Rg4.nrm])
                      iterate 2 (refine Rg4.w4_any (Rg4.want_none rfl) rfl ?_; apply Exists.intro; refine ⟨fun w' => ?_, ?_⟩; (focus (first | (go_simp; done) | (go_simp; first | rfl | (rw [if_neg] <;> first | rfl | omega) | (rw [if_pos] <;> first | rfl | omega)))); (try simp only [Rg4.nrm]))
                      iterate 4 (first | (refine Rg4.w4_any (Rg4.wt rfl rfl rfl) rfl ?_; apply Exists.intro; refine ⟨fun w' => ?_, ?_⟩; (focus (first | (go_simp; done) | (go_simp; first | rfl | (rw [if_neg] <;> first | rfl | omega) | (rw [if_pos] <;> first | rfl | omega)))); (try simp only [Rg4.nrm])) | (refine Rg4.w4_skip (Rg4.uw rfl rfl rfl) ?_; (try simp only [Rg4.nrm])) | (refine Rg4.w4_skip (Rg4.un rfl rfl rfl) ?_; (try simp only [Rg4.nrm])))
                      (first | (refine Rg4.w4_read (Rg4.wt rfl rfl rfl) rfl rfl ?_; apply Exists.intro; refine ⟨fun w' hw' hcl' => ?_, ?_⟩; focus (subst hw'; obtain ⟨p0, p1, p2, p3, p4, p5, p6, p7, p8, p9⟩ := HCY.out; replace p0 := st.oldCell (i := 0) get0 p0; replace p1 := st.oldCell (i := 0) get0 p1; replace p2 := st.oldCell (i := 0) get0 p2; replace p3 := st.oldCell (i := 0) get0 p3; replace p4 := st.oldCell (i := 0) get0 p4; replace p5 := st.oldCell (i := 0) get0 p5; replace p6 := st.oldCell (i := 0) get0 p6; replace p7 := st.oldCell (i := 0) get0 p7; replace p8 := st.oldCell (i := 0) get0 p8; (focus (first | (go_simp; done) | (go_simp; first | rfl | (rw [if_neg] <;> first | rfl | omega) | (rw [if_pos] <;> first | rfl | omega))))); (try simp only [Rg4.nrm])) | (refine Rg4.w4_skip (Rg4.uw rfl rfl rfl) ?_; (try simp only [Rg4.nrm])) | (refine Rg4.w4_skip (Rg4.un rfl rfl rfl) ?_; (try simp only [Rg4.nrm])))
                      iterate 4 (first | (refine Rg4.w4_any (Rg4.wt rfl rfl rfl) rfl ?_; apply Exists.intro; refine ⟨fun w' => ?_, ?_⟩; (focus (first | (go_simp; done) | (go_simp; first | rfl | (rw [if_neg] <;> first | rfl | omega) | (rw [if_pos] <;> first | rfl | omega)))); (try simp only [Rg4.nrm])) | (refine Rg4.w4_skip (Rg4.uw rfl rfl rfl) ?_; (try simp only [Rg4.nrm])) | (refine Rg4.w4_skip (Rg4.un rfl rfl rfl) ?_; (try simp only [Rg4.nrm])))
                      (first | (refine Rg4.w4_read (Rg4.wt rfl rfl rfl) rfl rfl ?_; apply Exists.intro; refine ⟨fun w' hw' hcl' => ?_, ?_⟩; focus (subst hw'; obtain ⟨p0, p1, p2, p3, p4, p5, p6, p7, p8, p9⟩ := HCY.out; replace p0 := st.oldCell (i := 0) get0 p0; replace p1 := st.oldCell (i := 0) get0 p1; replace p2 := st.oldCell (i := 0) get0 p2; replace p3 := st.oldCell (i := 0) get0 p3; replace p4 := st.oldCell (i := 0) get0 p4; replace p5 := st.oldCell (i := 0) get0 p5; replace p6 := st.oldCell (i := 0) get0 p6; replace p7 := st.oldCell (i := 0) get0 p7; replace p8 := st.oldCell (i := 0) get0 p8; (focus (first | (go_simp; done) | (go_simp; first | rfl | (rw [if_neg] <;> first | rfl | omega) | (rw [if_pos] <;> first | rfl | omega))))); (try simp only [Rg4.nrm])) | (refine Rg4.w4_skip (Rg4.uw rfl rfl rfl) ?_; (try simp only [Rg4.nrm])) | (refine Rg4.w4_skip (Rg4.un rfl rfl rfl) ?_; (try simp only [Rg4.nrm])))
                      (first | (refine Rg4.w4_any (Rg4.wt rfl rfl rfl) rfl ?_; apply Exists.intro; refine ⟨fun w' => ?_, ?_⟩; (focus (first | (go_simp; done) | (go_simp; first | rfl | (rw [if_neg] <;> first | rfl | omega) | (rw [if_pos] <;> first | rfl | omega)))); (try simp only [Rg4.nrm])) | (refine Rg4.w4_skip (Rg4.uw rfl rfl rfl) ?_; (try simp only [Rg4.nrm])) | (refine Rg4.w4_skip (Rg4.un rfl rfl rfl) ?_; (try simp only [Rg4.nrm])))
                      (first | (refine Rg4.w4_read (Rg4.wt rfl rfl rfl) rfl rfl ?_; apply Exists.intro; refine ⟨fun w' hw' hcl' => ?_, ?_⟩; focus (subst hw'; obtain ⟨p0, p1, p2, p3, p4, p5, p6, p7, p8, p9⟩ := HCY.out; replace p0 := st.oldCell (i := 0) get0 p0; replace p1 := st.oldCell (i := 0) get0 p1; replace p2 := st.oldCell (i := 0) get0 p2; replace p3 := st.oldCell (i := 0) get0 p3; replace p4 := st.oldCell (i := 0) get0 p4; replace p5 := st.oldCell (i := 0) get0 p5; replace p6 := st.oldCell (i := 0) get0 p6; replace p7 := st.oldCell (i := 0) get0 p7; replace p8 := st.oldCell (i := 0) get0 p8; (focus (first | (go_simp; done) | (go_simp; first | rfl | (rw [if_neg] <;> first | rfl | omega) | (rw [if_pos] <;> first | rfl | omega))))); (try simp only [Rg4.nrm])) | (refine Rg4.w4_skip (Rg4.uw rfl rfl rfl) ?_; (try simp only [Rg4.nrm])) | (refine Rg4.w4_skip (Rg4.un rfl rfl rfl) ?_; (try simp only [Rg4.nrm])))
                      refine Rg4.w4_bar (Rg4.want_of 6 107 true rfl rfl rfl) rfl (fun w' hw' hcl _ K hK => ?_)
                      subst hw'
                      go_wp2_with fail
                      refine (HCC.out _).mono ?_
                      rintro en w ⟨rfl, hx⟩
                      replace st := st.ext hx
                      clear hx
                      (try clear hc); have hc := st.facts; (try simp only [nfl, nft, Nat.reduceAdd] at hc)
                      refine hK _ _ ⟨trivial, ?_⟩
                      clear hK
                      (try simp only [Rg4.nrm])
                      iterate 2 (first | (refine Rg4.w4_any (Rg4.wt rfl rfl rfl) rfl ?_; apply Exists.intro; refine ⟨fun w' => ?_, ?_⟩; (focus (first | (go_simp; done) | (go_simp; first | rfl | (rw [if_neg] <;> first | rfl | omega) | (rw [if_pos] <;> first | rfl | omega)))); (try simp only [Rg4.nrm])) | (refine Rg4.w4_skip (Rg4.uw rfl rfl rfl) ?_; (try simp only [Rg4.nrm])) | (refine Rg4.w4_skip (Rg4.un rfl rfl rfl) ?_; (try simp only [Rg4.nrm])))
                      (refine Rg4.w4_any (Rg4.want_none rfl) rfl ?_; apply Exists.intro; refine ⟨fun w' => ?_, ?_⟩; (focus (first | (go_simp; done) | (go_simp; first | rfl | (rw [if_neg] <;> first | rfl | omega) | (rw [if_pos] <;> first | rfl | omega)))); (try simp only [Rg4.nrm]))
                      refine Rg4.w4_nil (fun w' hw' hcl' _ => ?_); subst hw'; clear hcl'
                      have HF : Hid (∀ i, i < (j + 1) + 1 → shAt ss i = true) := Lib.hid (fun i hi => by
                        rcases Nat.lt_succ_iff_lt_or_eq.1 hi with z | z
                        · exact HT.out i z
                        · rw [z, HSA.out]; rw [decide_eq_true HCL.out]; rfl)
                      go_wp2_with fail
                      have st' := st.keep [0, 1] (by decide) (by simp)
                      go_roundg (sn - ((j + 1) + 1))
                      case measure => omega
                      case rel => exact ⟨(j + 1) + 1, by omega, by omega, by go_num, HF, by simpa [pick] using st'⟩
                    · have HCL := Lib.hid hlt
                      have hge : decide (cc ≥ 0) = true := by simp; omega
                      clear hlt
                      have HF : Hid (r = false) := Lib.hid (HBD.out (by rw [HSA.out]; rw [decide_eq_false HCL.out]; rfl))
                      refine Rg4.wp_region4_eq #[0, 1, 3, 7, 15, 31, 63, 127, 255, 127, 639, 2047, 4095, 8191, 127, 16511, 65535, 131071, 262143, 524287] [1, 16] [0, 8, 13, 15] (fun _ => True) [0, 1, 2, 3, 4, 5, 6, 7, 8, 9, 10, 11, 12, 13, 14, 15, 16, 17, 18, 19] (by kernel_rfl) (by kernel_rfl) (by kernel_rfl) (by kernel_rfl) (show Rg4.PB _ by repeat (first | with_reducible exact Rg4.pb_body | with_reducible exact Rg4.pb_bodyD rfl | with_reducible refine Rg4.pb_then ?_ | with_reducible refine Rg4.pb_inBlock ?_ | with_reducible refine Rg4.pb_noGoto ?_)) (trivial) ?_
                      replace st := st.drew
                      change Rg4.wp4 _ _ _ _ _ _ _ _ _ (World.drew _) _ _
                      generalize World.drew _ = w at st ⊢
                      (try clear hc); have hc := st.facts; (try simp only [nfl, nft, Nat.reduceAdd] at hc)
                      (refine Rg4.w4_read (Rg4.want_none rfl) rfl rfl ?_; apply Exists.intro; refine ⟨fun w' hw' hcl' => ?_, ?_⟩; focus (subst hw'; obtain ⟨p0, p1, p2, p3, p4, p5, p6, p7, p8, p9⟩ := HCY.out; replace p0 := st.oldCell (i := 0) get0 p0; replace p1 := st.oldCell (i := 0) get0 p1; replace p2 := st.oldCell (i := 0) get0 p2; replace p3 := st.oldCell (i := 0) get0 p3; replace p4 := st.oldCell (i := 0) get0 p4; replace p5 := st.oldCell (i := 0) get0 p5; replace p6 := st.oldCell (i := 0) get0 p6; replace p7 := st.oldCell (i := 0) get0 p7; replace p8 := st.oldCell (i := 0) get0 p8; (focus (first | (go_simp; done) | (go_simp; first | rfl | (rw [if_neg] <;> first | rfl | omega) | (rw [if_pos] <;> first | rfl | omega))))); (try simp only [Rg4.nrm]))
                      refine Rg4.w4_bar (Rg4.want_none rfl) rfl (fun w' hw' hcl _ K hK => ?_)
                      subst hw'
                      go_wp2_with fail
                      refine (HCR.out _).mono ?_
                      rintro en w ⟨rfl, hx⟩
                      replace st := st.ext hx
                      clear hx
                      (try clear hc); have hc := st.facts; (try simp only [nfl, nft, Nat.reduceAdd] at hc)
                      refine hK _ _ ⟨trivial, ?_⟩
                      clear hK
                      (try simp only [Rg4.nrm])
                      iterate 2 (refine Rg4.w4_any (Rg4.want_none rfl) rfl ?_; apply Exists.intro; refine ⟨fun w' => ?_, ?_⟩; (focus (first | (go_simp; done) | (go_simp; first | rfl | (rw [if_neg] <;> first | rfl | omega) | (rw [if_pos] <;> first | rfl | omega)))); (try simp only [Rg4.nrm]))
                      iterate 4 (first | (refine Rg4.w4_any (Rg4.wt rfl rfl rfl) rfl ?_; apply Exists.intro; refine ⟨fun w' => ?_, ?_⟩; (focus (first | (go_simp; done) | (go_simp; first | rfl | (rw [if_neg] <;> first | rfl | omega) | (rw [if_pos] <;> first | rfl | omega)))); (try simp only [Rg4.nrm])) | (refine Rg4.w4_skip (Rg4.uw rfl rfl rfl) ?_; (try simp only [Rg4.nrm])) | (refine Rg4.w4_skip (Rg4.un rfl rfl rfl) ?_; (try simp only [Rg4.nrm])))
                      (first | (refine Rg4.w4_read (Rg4.wt rfl rfl rfl) rfl rfl ?_; apply Exists.intro; refine ⟨fun w' hw' hcl' => ?_, ?_⟩; focus (subst hw'; obtain ⟨p0, p1, p2, p3, p4, p5, p6, p7, p8, p9⟩ := HCY.out; replace p0 := st.oldCell (i := 0) get0 p0; replace p1 := st.oldCell (i := 0) get0 p1; replace p2 := st.oldCell (i := 0) get0 p2; replace p3 := st.oldCell (i := 0) get0 p3; replace p4 := st.oldCell (i := 0) get0 p4; replace p5 := st.oldCell (i := 0) get0 p5; replace p6 := st.oldCell (i := 0) get0 p6; replace p7 := st.oldCell (i := 0) get0 p7; replace p8 := st.oldCell (i := 0) get0 p8; (focus (first | (go_simp; done) | (go_simp; first | rfl | (rw [if_neg] <;> first | rfl | omega) | (rw [if_pos] <;> first | rfl | omega))))); (try simp only [Rg4.nrm])) | (refine Rg4.w4_skip (Rg4.uw rfl rfl rfl) ?_; (try simp only [Rg4.nrm])) | (refine Rg4.w4_skip (Rg4.un rfl rfl rfl) ?_; (try simp only [Rg4.nrm])))
                      iterate 4 (first | (refine Rg4.w4_any (Rg4.wt rfl rfl rfl) rfl ?_; apply Exists.intro; refine ⟨fun w' => ?_, ?_⟩; (focus (first | (go_simp; done) | (go_simp; first | rfl | (rw [if_neg] <;> first | rfl | omega) | (rw [if_pos] <;> first | rfl | omega)))); (try simp only [Rg4.nrm])) | (refine Rg4.w4_skip (Rg4.uw rfl rfl rfl) ?_; (try simp only [Rg4.nrm])) | (refine Rg4.w4_skip (Rg4.un rfl rfl rfl) ?_; (try simp only [Rg4.nrm])))
                      (first | (refine Rg4.w4_read (Rg4.wt rfl rfl rfl) rfl rfl ?_; apply Exists.intro; refine ⟨fun w' hw' hcl' => ?_, ?_⟩; focus (subst hw'; obtain ⟨p0, p1, p2, p3, p4, p5, p6, p7, p8, p9⟩ := HCY.out; replace p0 := st.oldCell (i := 0) get0 p0; replace p1 := st.oldCell (i := 0) get0 p1; replace p2 := st.oldCell (i := 0) get0 p2; replace p3 := st.oldCell (i := 0) get0 p3; replace p4 := st.oldCell (i := 0) get0 p4; replace p5 := st.oldCell (i := 0) get0 p5; replace p6 := st.oldCell (i := 0) get0 p6; replace p7 := st.oldCell (i := 0) get0 p7; replace p8 := st.oldCell (i := 0) get0 p8; (focus (first | (go_simp; done) | (go_simp; first | rfl | (rw [if_neg] <;> first | rfl | omega) | (rw [if_pos] <;> first | rfl | omega))))); (try simp only [Rg4.nrm])) | (refine Rg4.w4_skip (Rg4.uw rfl rfl rfl) ?_; (try simp only [Rg4.nrm])) | (refine Rg4.w4_skip (Rg4.un rfl rfl rfl) ?_; (try simp only [Rg4.nrm])))
                      (first | (refine Rg4.w4_any (Rg4.wt rfl rfl rfl) rfl ?_; apply Exists.intro; refine ⟨fun w' => ?_, ?_⟩; (focus (first | (go_simp; done) | (go_simp; first | rfl | (rw [if_neg] <;> first | rfl | omega) | (rw [if_pos] <;> first | rfl | omega)))); (try simp only [Rg4.nrm])) | (refine Rg4.w4_skip (Rg4.uw rfl rfl rfl) ?_; (try simp only [Rg4.nrm])) | (refine Rg4.w4_skip (Rg4.un rfl rfl rfl) ?_; (try simp only [Rg4.nrm])))
                      (first | (refine Rg4.w4_read (Rg4.wt rfl rfl rfl) rfl rfl ?_; apply Exists.intro; refine ⟨fun w' hw' hcl' => ?_, ?_⟩; focus (subst hw'; obtain ⟨p0, p1, p2, p3, p4, p5, p6, p7, p8, p9⟩ := HCY.out; replace p0 := st.oldCell (i := 0) get0 p0; replace p1 := st.oldCell (i := 0) get0 p1; replace p2 := st.oldCell (i := 0) get0 p2; replace p3 := st.oldCell (i := 0) get0 p3; replace p4 := st.oldCell (i := 0) get0 p4; replace p5 := st.oldCell (i := 0) get0 p5; replace p6 := st.oldCell (i := 0) get0 p6; replace p7 := st.oldCell (i := 0) get0 p7; replace p8 := st.oldCell (i := 0) get0 p8; (focus (first | (go_simp; done) | (go_simp; first | rfl | (rw [if_neg] <;> first | rfl | omega) | (rw [if_pos] <;> first | rfl | omega))))); (try simp only [Rg4.nrm])) | (refine Rg4.w4_skip (Rg4.uw rfl rfl rfl) ?_; (try simp only [Rg4.nrm])) | (refine Rg4.w4_skip (Rg4.un rfl rfl rfl) ?_; (try simp only [Rg4.nrm])))
                      refine Rg4.w4_bar (Rg4.want_of 6 107 true rfl rfl rfl) rfl (fun w' hw' hcl _ K hK => ?_)
                      subst hw'
                      go_wp2_with fail
                      refine (HCC.out _).mono ?_
                      rintro en w ⟨rfl, hx⟩
                      replace st := st.ext hx
                      clear hx
                      (try clear hc); have hc := st.facts; (try simp only [nfl, nft, Nat.reduceAdd] at hc)
                      refine hK _ _ ⟨trivial, ?_⟩
                      clear hK
                      (try simp only [Rg4.nrm])
                      iterate 2 (first | (refine Rg4.w4_any (Rg4.wt rfl rfl rfl) rfl ?_; apply Exists.intro; refine ⟨fun w' => ?_, ?_⟩; (focus (first | (go_simp; done) | (go_simp; first | rfl | (rw [if_neg] <;> first | rfl | omega) | (rw [if_pos] <;> first | rfl | omega)))); (try simp only [Rg4.nrm])) | (refine Rg4.w4_skip (Rg4.uw rfl rfl rfl) ?_; (try simp only [Rg4.nrm])) | (refine Rg4.w4_skip (Rg4.un rfl rfl rfl) ?_; (try simp only [Rg4.nrm])))
                      (refine Rg4.w4_any (Rg4.want_none rfl) rfl ?_; apply Exists.intro; refine ⟨fun w' => ?_, ?_⟩; (focus (first | (go_simp; done) | (go_simp; first | rfl | (rw [if_neg] <;> first | rfl | omega) | (rw [if_pos] <;> first | rfl | omega)))); (try simp only [Rg4.nrm]))
                      refine Rg4.w4_nil (fun w' hw' hcl' _ => ?_); subst hw'; clear hcl'
                      go_wp2_with fail
                      go_ret
                      exact ⟨by rw [HF.out]; rfl, st.ext0⟩
              · obtain rfl : j = sn := by omega
                have H1 : Hid (r = true) := Lib.hid (by rw [HA.out]; exact List.all_eq_true.2 fun i hi => HT.out i (by have := HSL.out; simp at hi; omega))
                go_wp2_with fail
                go_ret
                exact ⟨by rw [H1.out]; rfl, st.ext0⟩
        · have heb : (e != 0) = true := by simpa using he
          have HE1 := Lib.hid he
          clear he
          have H1 : Hid (r = false) := Lib.hid (by rw [HR.out]; rw [if_neg (by decide), if_pos (.inr (.inr ⟨(by decide), HE1.out⟩))])
          go_enter Tryz.func8, Tryz.ntmps8
          go_wp2_with ((((with_reducible refine wl_box ?_ (fun K hK => ?_)); rfl; refine owp_box (o := ⟨some 1, _, _, _, _, _⟩) rfl st ?_; apply Exists.intro; refine ⟨?_, ?_⟩; (focus (go_simp; try rfl)); (clear st; intro b1 w hb st; clear hb))); (try simp only [nsl, Value.cells, unB] at st); (try clear hc); have hc := st.facts; (try simp only [nfl, nft, Nat.reduceAdd] at hc))
          go_ret
          exact ⟨by rw [H1.out]; rfl, st.ext0⟩
      · have hpb : (p != 0) = true := by simpa using hp
        have HP1 := Lib.hid hp
        clear hp
        have H1 : Hid (r = false) := Lib.hid (by rw [HR.out]; rw [if_neg (by decide), if_pos (.inl ⟨(by decide), .inr HP1.out⟩)])
        go_enter Tryz.func8, Tryz.ntmps8
        go_wp2_with ((((with_reducible refine wl_box ?_ (fun K hK => ?_)); rfl; refine owp_box (o := ⟨some 1, _, _, _, _, _⟩) rfl st ?_; apply Exists.intro; refine ⟨?_, ?_⟩; (focus (go_simp; try rfl)); (clear st; intro b1 w hb st; clear hb))); (try simp only [nsl, Value.cells, unB] at st); (try clear hc); have hc := st.facts; (try simp only [nfl, nft, Nat.reduceAdd] at hc))
        go_ret
        exact ⟨by rw [H1.out]; rfl, st.ext0⟩
  by_cases k5 : k = 5
  · subst k5
    cases hn : (nm == []) with
    | false =>
      have hn1 : nm ≠ [] := by simpa using hn
      have HN1 := Lib.hid hn1
      clear hn1
      have H1 : Hid (r = false) := Lib.hid (by rw [HR.out]; rw [if_neg (by decide), if_pos (.inl ⟨(by decide), .inl HN1.out⟩)])
      go_enter Tryz.func8, Tryz.ntmps8
      go_wp2_with ((((with_reducible refine wl_box ?_ (fun K hK => ?_)); rfl; refine owp_box (o := ⟨some 1, _, _, _, _, _⟩) rfl st ?_; apply Exists.intro; refine ⟨?_, ?_⟩; (focus (go_simp; try rfl)); (clear st; intro b1 w hb st; clear hb))); (try simp only [nsl, Value.cells, unB] at st); (try clear hc); have hc := st.facts; (try simp only [nfl, nft, Nat.reduceAdd] at hc))
      go_ret
      exact ⟨by rw [H1.out]; rfl, st.ext0⟩
    | true =>
      have HN0 : Hid (¬ nm ≠ []) := Lib.hid (by simpa using hn)
      by_cases hp : p = 0
      · subst hp
        by_cases hs : 0 < wn + sn
        · have HS1 := Lib.hid hs
          have H1 : Hid (r = false) := Lib.hid (by rw [HR.out]; rw [if_neg (by decide), if_pos (.inr (.inl ⟨(by decide), HS1.out⟩))])
          go_enter Tryz.func8, Tryz.ntmps8
          go_wp2_with ((((with_reducible refine wl_box ?_ (fun K hK => ?_)); rfl; refine owp_box (o := ⟨some 1, _, _, _, _, _⟩) rfl st ?_; apply Exists.intro; refine ⟨?_, ?_⟩; (focus (go_simp; try rfl)); (clear st; intro b1 w hb st; clear hb))); (try simp only [nsl, Value.cells, unB] at st); (try clear hc); have hc := st.facts; (try simp only [nfl, nft, Nat.reduceAdd] at hc))
          go_ret
          exact ⟨by rw [H1.out]; rfl, st.ext0⟩
        · have hw0 : wn = 0 := by omega
          have hs0 : sn = 0 := by omega
          subst hw0 hs0
          clear hs
          have H0 : Hid (r = (decide (1 ≤ e) && decide (e ≤ 99))) := Lib.hid (by rw [HR.out, if_neg (by decide), if_neg (by simp; simpa using HN0.out), if_neg (by decide), if_pos rfl])
          by_cases e1 : 1 ≤ e
          · have H1 : Hid (r = decide (e ≤ 99)) := Lib.hid (by rw [H0.out, decide_eq_true e1]; rfl)
            go_enter Tryz.func8, Tryz.ntmps8
            go_wp2_with ((((with_reducible refine wl_box ?_ (fun K hK => ?_)); rfl; refine owp_box (o := ⟨some 1, _, _, _, _, _⟩) rfl st ?_; apply Exists.intro; refine ⟨?_, ?_⟩; (focus (go_simp; try rfl)); (clear st; intro b1 w hb st; clear hb))); (try simp only [nsl, Value.cells, unB] at st); (try clear hc); have hc := st.facts; (try simp only [nfl, nft, Nat.reduceAdd] at hc))
            go_ret
            exact ⟨by rw [H1.out]; rfl, st.ext0⟩
          · have H1 : Hid (r = false) := Lib.hid (by rw [H0.out, decide_eq_false e1]; rfl)
            go_enter Tryz.func8, Tryz.ntmps8
            go_wp2_with ((((with_reducible refine wl_box ?_ (fun K hK => ?_)); rfl; refine owp_box (o := ⟨some 1, _, _, _, _, _⟩) rfl st ?_; apply Exists.intro; refine ⟨?_, ?_⟩; (focus (go_simp; try rfl)); (clear st; intro b1 w hb st; clear hb))); (try simp only [nsl, Value.cells, unB] at st); (try clear hc); have hc := st.facts; (try simp only [nfl, nft, Nat.reduceAdd] at hc))
            go_ret
            exact ⟨by rw [H1.out]; rfl, st.ext0⟩
      · have hpb : (p != 0) = true := by simpa using hp
        have HP1 := Lib.hid hp
        clear hp
        have H1 : Hid (r = false) := Lib.hid (by rw [HR.out]; rw [if_neg (by decide), if_pos (.inl ⟨(by decide), .inr HP1.out⟩)])
        go_enter Tryz.func8, Tryz.ntmps8
        go_wp2_with ((((with_reducible refine wl_box ?_ (fun K hK => ?_)); rfl; refine owp_box (o := ⟨some 1, _, _, _, _, _⟩) rfl st ?_; apply Exists.intro; refine ⟨?_, ?_⟩; (focus (go_simp; try rfl)); (clear st; intro b1 w hb st; clear hb))); (try simp only [nsl, Value.cells, unB] at st); (try clear hc); have hc := st.facts; (try simp only [nfl, nft, Nat.reduceAdd] at hc))
        go_ret
        exact ⟨by rw [H1.out]; rfl, st.ext0⟩
  have k1b : (k != 1) = true := by simpa using k1
  have k1c : (k == 1) = false := by simpa using k1
  have k2b : (k != 2) = true := by simpa using k2
  have k5b : (k != 5) = true := by simpa using k5
  have k5c : (k == 5) = false := by simpa using k5
  have HK := Lib.hid (And.intro (show ¬ (k < 1 ∨ 5 < k) by omega) (And.intro k1 (And.intro k2 k5)))
  clear k1 k2 k5
  cases hn : (nm == []) with
  | false =>
    have hn1 : nm ≠ [] := by simpa using hn
    have HN1 := Lib.hid hn1
    clear hn1
    have H1 : Hid (r = false) := Lib.hid (by rw [HR.out]; rw [if_neg HK.out.1, if_pos (.inl ⟨HK.out.2.1, .inl HN1.out⟩)])
    go_enter Tryz.func8, Tryz.ntmps8
    go_wp2_with ((((with_reducible refine wl_box ?_ (fun K hK => ?_)); rfl; refine owp_box (o := ⟨some 1, _, _, _, _, _⟩) rfl st ?_; apply Exists.intro; refine ⟨?_, ?_⟩; (focus (go_simp; try rfl)); (clear st; intro b1 w hb st; clear hb))); (try simp only [nsl, Value.cells, unB] at st); (try clear hc); have hc := st.facts; (try simp only [nfl, nft, Nat.reduceAdd] at hc))
    go_ret
    exact ⟨by rw [H1.out]; rfl, st.ext0⟩
  | true =>
    have HN0 : Hid (¬ nm ≠ []) := Lib.hid (by simpa using hn)
    by_cases hp : p = 0
    · subst hp
      by_cases hs : 0 < wn + sn
      · have HS1 := Lib.hid hs
        have H1 : Hid (r = false) := Lib.hid (by rw [HR.out]; rw [if_neg HK.out.1, if_pos (.inr (.inl ⟨HK.out.2.2.1, HS1.out⟩))])
        go_enter Tryz.func8, Tryz.ntmps8
        go_wp2_with ((((with_reducible refine wl_box ?_ (fun K hK => ?_)); rfl; refine owp_box (o := ⟨some 1, _, _, _, _, _⟩) rfl st ?_; apply Exists.intro; refine ⟨?_, ?_⟩; (focus (go_simp; try rfl)); (clear st; intro b1 w hb st; clear hb))); (try simp only [nsl, Value.cells, unB] at st); (try clear hc); have hc := st.facts; (try simp only [nfl, nft, Nat.reduceAdd] at hc))
        go_ret
        exact ⟨by rw [H1.out]; rfl, st.ext0⟩
      · have hw0 : wn = 0 := by omega
        have hs0 : sn = 0 := by omega
        subst hw0 hs0
        clear hs
        by_cases he : e = 0
        · subst he
          have HSS := Lib.hid (HS0.out rfl)
          have H0 : Hid (r = if sq = false then false else true) := Lib.hid (by
            rw [HR.out, if_neg HK.out.1, if_neg (by simp; exact fun _ => by simpa using HN0.out), if_neg HK.out.2.1, if_neg HK.out.2.2.2, HSS.out]
            cases sq <;> simp)
          cases sq with
          | false =>
            have H1 : Hid (r = false) := Lib.hid (by rw [H0.out]; rfl)
            go_enter Tryz.func8, Tryz.ntmps8
            go_wp2_with ((((with_reducible refine wl_box ?_ (fun K hK => ?_)); rfl; refine owp_box (o := ⟨some 1, _, _, _, _, _⟩) rfl st ?_; apply Exists.intro; refine ⟨?_, ?_⟩; (focus (go_simp; try rfl)); (clear st; intro b1 w hb st; clear hb))); (try simp only [nsl, Value.cells, unB] at st); (try clear hc); have hc := st.facts; (try simp only [nfl, nft, Nat.reduceAdd] at hc))
            refine Rg4.wp_region4_eq #[0, 1, 3, 7, 15, 31, 63, 127, 255, 511, 1023, 2047, 4095, 8191, 2047, 18431, 65535, 131071, 262143] [13, 16] [1, 6, 12] (fun W' => Blk W' b1 [.int .i64 k, .int .i64 0, .int .i64 0, .string ⟨nm.toArray⟩, .slice wa 0 wc, .slice sa 0 sc]) [0, 1, 2, 3, 4, 5, 6, 7, 8, 9, 10, 11, 12, 14, 15, 13, 16, 17, 18] (by kernel_rfl) (by kernel_rfl) (by kernel_rfl) (by kernel_rfl) (show Rg4.PB _ by repeat (first | with_reducible exact Rg4.pb_body | with_reducible exact Rg4.pb_bodyD rfl | with_reducible refine Rg4.pb_then ?_ | with_reducible refine Rg4.pb_inBlock ?_ | with_reducible refine Rg4.pb_noGoto ?_)) (st.drew.blk (i := 1) get1) ?_
            replace st := st.drew
            change Rg4.wp4 _ _ _ _ _ _ _ _ _ (World.drew _) _ _
            generalize World.drew _ = w at st ⊢
            (try clear hc); have hc := st.facts; (try simp only [nfl, nft, Nat.reduceAdd] at hc)
            (refine Rg4.w4_any (Rg4.want_none rfl) rfl ?_; apply Exists.intro; refine ⟨fun w' => ?_, ?_⟩; (focus (first | (go_simp; done) | (go_simp; first | rfl | (rw [if_neg] <;> first | rfl | omega) | (rw [if_pos] <;> first | rfl | omega)))); (try simp only [Rg4.nrm]))
            (refine Rg4.w4_read (Rg4.want_none rfl) rfl rfl ?_; apply Exists.intro; refine ⟨fun w' hw' hcl' => ?_, ?_⟩; focus (subst hw'; (focus (first | (go_simp; done) | (go_simp; first | rfl | (rw [if_neg] <;> first | rfl | omega) | (rw [if_pos] <;> first | rfl | omega))))); (try simp only [Rg4.nrm]))
            iterate 3 (refine Rg4.w4_any (Rg4.want_none rfl) rfl ?_; apply Exists.intro; refine ⟨fun w' => ?_, ?_⟩; (focus (first | (go_simp; done) | (go_simp; first | rfl | (rw [if_neg] <;> first | rfl | omega) | (rw [if_pos] <;> first | rfl | omega)))); (try simp only [Rg4.nrm]))
            (first | (refine Rg4.w4_any (Rg4.wt rfl rfl rfl) rfl ?_; apply Exists.intro; refine ⟨fun w' => ?_, ?_⟩; (focus (first | (go_simp; done) | (go_simp; first | rfl | (rw [if_neg] <;> first | rfl | omega) | (rw [if_pos] <;> first | rfl | omega)))); (try simp only [Rg4.nrm])) | (refine Rg4.w4_skip (Rg4.uw rfl rfl rfl) ?_; (try simp only [Rg4.nrm])) | (refine Rg4.w4_skip (Rg4.un rfl rfl rfl) ?_; (try simp only [Rg4.nrm])))
            (first | (refine Rg4.w4_read (Rg4.wt rfl rfl rfl) rfl rfl ?_; apply Exists.intro; refine ⟨fun w' hw' hcl' => ?_, ?_⟩; focus (subst hw'; (focus (first | (go_simp; done) | (go_simp; first | rfl | (rw [if_neg] <;> first | rfl | omega) | (rw [if_pos] <;> first | rfl | omega))))); (try simp only [Rg4.nrm])) | (refine Rg4.w4_skip (Rg4.uw rfl rfl rfl) ?_; (try simp only [Rg4.nrm])) | (refine Rg4.w4_skip (Rg4.un rfl rfl rfl) ?_; (try simp only [Rg4.nrm])))
            iterate 2 (first | (refine Rg4.w4_any (Rg4.wt rfl rfl rfl) rfl ?_; apply Exists.intro; refine ⟨fun w' => ?_, ?_⟩; (focus (first | (go_simp; done) | (go_simp; first | rfl | (rw [if_neg] <;> first | rfl | omega) | (rw [if_pos] <;> first | rfl | omega)))); (try simp only [Rg4.nrm])) | (refine Rg4.w4_skip (Rg4.uw rfl rfl rfl) ?_; (try simp only [Rg4.nrm])) | (refine Rg4.w4_skip (Rg4.un rfl rfl rfl) ?_; (try simp only [Rg4.nrm])))
            iterate 2 (refine Rg4.w4_any (Rg4.want_none rfl) rfl ?_; apply Exists.intro; refine ⟨fun w' => ?_, ?_⟩; (focus (first | (go_simp; done) | (go_simp; first | rfl | (rw [if_neg] <;> first | rfl | omega) | (rw [if_pos] <;> first | rfl | omega)))); (try simp only [Rg4.nrm]))
            (first | (refine Rg4.w4_any (Rg4.wt rfl rfl rfl) rfl ?_; apply Exists.intro; refine ⟨fun w' => ?_, ?_⟩; (focus (first | (go_simp; done) | (go_simp; first | rfl | (rw [if_neg] <;> first | rfl | omega) | (rw [if_pos] <;> first | rfl | omega)))); (try simp only [Rg4.nrm])) | (refine Rg4.w4_skip (Rg4.uw rfl rfl rfl) ?_; (try simp only [Rg4.nrm])) | (refine Rg4.w4_skip (Rg4.un rfl rfl rfl) ?_; (try simp only [Rg4.nrm])))
            (first | (refine Rg4.w4_read (Rg4.wt rfl rfl rfl) rfl rfl ?_; apply Exists.intro; refine ⟨fun w' hw' hcl' => ?_, ?_⟩; focus (subst hw'; (focus (first | (go_simp; done) | (go_simp; first | rfl | (rw [if_neg] <;> first | rfl | omega) | (rw [if_pos] <;> first | rfl | omega))))); (try simp only [Rg4.nrm])) | (refine Rg4.w4_skip (Rg4.uw rfl rfl rfl) ?_; (try simp only [Rg4.nrm])) | (refine Rg4.w4_skip (Rg4.un rfl rfl rfl) ?_; (try simp only [Rg4.nrm])))
            (first | (refine Rg4.w4_any (Rg4.wt rfl rfl rfl) rfl ?_; apply Exists.intro; refine ⟨fun w' => ?_, ?_⟩; (focus (first | (go_simp; done) | (go_simp; first | rfl | (rw [if_neg] <;> first | rfl | omega) | (rw [if_pos] <;> first | rfl | omega)))); (try simp only [Rg4.nrm])) | (refine Rg4.w4_skip (Rg4.uw rfl rfl rfl) ?_; (try simp only [Rg4.nrm])) | (refine Rg4.w4_skip (Rg4.un rfl rfl rfl) ?_; (try simp only [Rg4.nrm])))
            (first | (refine Rg4.w4_cl (Rg4.wt rfl rfl rfl) rfl ?_; apply Exists.intro; refine ⟨fun w' hcl => ?_, ?_⟩; (focus (have q4 := Blk.cell hcl 4; (try simp at q4); (focus (first | (go_simp; done) | (go_simp; first | rfl | (rw [if_neg] <;> first | rfl | omega) | (rw [if_pos] <;> first | rfl | omega)))))); (try simp only [Rg4.nrm])) | (refine Rg4.w4_skip (Rg4.uw rfl rfl rfl) ?_; (try simp only [Rg4.nrm])) | (refine Rg4.w4_skip (Rg4.un rfl rfl rfl) ?_; (try simp only [Rg4.nrm])))
            refine Rg4.w4_bar (Rg4.want_of 10 84 false rfl rfl rfl) rfl (fun w' hw' hcl _ K hK => ?_)
            subst hw'
            go_wp2_with fail
            refine (HRS.out _ (st.oldFl (i := 0) get0 HX.out.1.2)).mono ?_
            rintro en w ⟨va, vc, rfl, hfr⟩
            replace st := st.fresh hfr
            clear hfr
            (try simp only [nsl, Value.cells, unB] at st)
            (try clear hc); have hc := st.facts; (try simp only [nfl, nft, Nat.reduceAdd] at hc)
            refine hK _ _ ⟨st.blk (i := 1) get1, ?_⟩
            clear hK
            (try simp only [Rg4.nrm])

            refine Rg4.w4_bar (Rg4.want_of 10 84 false rfl rfl rfl) rfl (fun w' hw' hcl _ K hK => ?_)
            subst hw'
            go_wp2_with fail
            refine (HEQ.out _ _ _ (rowFl' (α := Role) st (i := 2) get2).2 (st.oldFl (i := 0) get0 HX.out.1.2)).mono ?_
            rintro en w ⟨rfl, hx⟩
            replace st := st.ext hx
            clear hx
            (try clear hc); have hc := st.facts; (try simp only [nfl, nft, Nat.reduceAdd] at hc)
            refine hK _ _ ⟨st.blk (i := 1) get1, ?_⟩
            clear hK
            (try simp only [Rg4.nrm])
            (first | (refine Rg4.w4_any (Rg4.wt rfl rfl rfl) rfl ?_; apply Exists.intro; refine ⟨fun w' => ?_, ?_⟩; (focus (first | (go_simp; done) | (go_simp; first | rfl | (rw [if_neg] <;> first | rfl | omega) | (rw [if_pos] <;> first | rfl | omega)))); (try simp only [Rg4.nrm])) | (refine Rg4.w4_skip (Rg4.uw rfl rfl rfl) ?_; (try simp only [Rg4.nrm])) | (refine Rg4.w4_skip (Rg4.un rfl rfl rfl) ?_; (try simp only [Rg4.nrm])))
            (refine Rg4.w4_any (Rg4.want_none rfl) rfl ?_; apply Exists.intro; refine ⟨fun w' => ?_, ?_⟩; (focus (first | (go_simp; done) | (go_simp; first | rfl | (rw [if_neg] <;> first | rfl | omega) | (rw [if_pos] <;> first | rfl | omega)))); (try simp only [Rg4.nrm]))
            refine Rg4.w4_nil (fun w' hw' hcl' _ => ?_); subst hw'; clear hcl'
            go_wp2_with fail
            go_ret
            exact ⟨by rw [H1.out]; rfl, st.ext0⟩
          | true =>
            have H1 : Hid (r = true) := Lib.hid (by rw [H0.out]; rfl)
            go_enter Tryz.func8, Tryz.ntmps8
            go_wp2_with ((((with_reducible refine wl_box ?_ (fun K hK => ?_)); rfl; refine owp_box (o := ⟨some 1, _, _, _, _, _⟩) rfl st ?_; apply Exists.intro; refine ⟨?_, ?_⟩; (focus (go_simp; try rfl)); (clear st; intro b1 w hb st; clear hb))); (try simp only [nsl, Value.cells, unB] at st); (try clear hc); have hc := st.facts; (try simp only [nfl, nft, Nat.reduceAdd] at hc))
            refine Rg4.wp_region4_eq #[0, 1, 3, 7, 15, 31, 63, 127, 255, 511, 1023, 2047, 4095, 8191, 2047, 18431, 65535, 131071, 262143] [13, 16] [1, 6, 12] (fun W' => Blk W' b1 [.int .i64 k, .int .i64 0, .int .i64 0, .string ⟨nm.toArray⟩, .slice wa 0 wc, .slice sa 0 sc]) [0, 1, 2, 3, 4, 5, 6, 7, 8, 9, 10, 11, 12, 14, 15, 13, 16, 17, 18] (by kernel_rfl) (by kernel_rfl) (by kernel_rfl) (by kernel_rfl) (show Rg4.PB _ by repeat (first | with_reducible exact Rg4.pb_body | with_reducible exact Rg4.pb_bodyD rfl | with_reducible refine Rg4.pb_then ?_ | with_reducible refine Rg4.pb_inBlock ?_ | with_reducible refine Rg4.pb_noGoto ?_)) (st.drew.blk (i := 1) get1) ?_
            replace st := st.drew
            change Rg4.wp4 _ _ _ _ _ _ _ _ _ (World.drew _) _ _
            generalize World.drew _ = w at st ⊢
            (try clear hc); have hc := st.facts; (try simp only [nfl, nft, Nat.reduceAdd] at hc)
            (refine Rg4.w4_any (Rg4.want_none rfl) rfl ?_; apply Exists.intro; refine ⟨fun w' => ?_, ?_⟩; (focus (first | (go_simp; done) | (go_simp; first | rfl | (rw [if_neg] <;> first | rfl | omega) | (rw [if_pos] <;> first | rfl | omega)))); (try simp only [Rg4.nrm]))
            (refine Rg4.w4_read (Rg4.want_none rfl) rfl rfl ?_; apply Exists.intro; refine ⟨fun w' hw' hcl' => ?_, ?_⟩; focus (subst hw'; (focus (first | (go_simp; done) | (go_simp; first | rfl | (rw [if_neg] <;> first | rfl | omega) | (rw [if_pos] <;> first | rfl | omega))))); (try simp only [Rg4.nrm]))
            iterate 3 (refine Rg4.w4_any (Rg4.want_none rfl) rfl ?_; apply Exists.intro; refine ⟨fun w' => ?_, ?_⟩; (focus (first | (go_simp; done) | (go_simp; first | rfl | (rw [if_neg] <;> first | rfl | omega) | (rw [if_pos] <;> first | rfl | omega)))); (try simp only [Rg4.nrm]))
            (first | (refine Rg4.w4_any (Rg4.wt rfl rfl rfl) rfl ?_; apply Exists.intro; refine ⟨fun w' => ?_, ?_⟩; (focus (first | (go_simp; done) | (go_simp; first | rfl | (rw [if_neg] <;> first | rfl | omega) | (rw [if_pos] <;> first | rfl | omega)))); (try simp only [Rg4.nrm])) | (refine Rg4.w4_skip (Rg4.uw rfl rfl rfl) ?_; (try simp only [Rg4.nrm])) | (refine Rg4.w4_skip (Rg4.un rfl rfl rfl) ?_; (try simp only [Rg4.nrm])))
            (first | (refine Rg4.w4_read (Rg4.wt rfl rfl rfl) rfl rfl ?_; apply Exists.intro; refine ⟨fun w' hw' hcl' => ?_, ?_⟩; focus (subst hw'; (focus (first | (go_simp; done) | (go_simp; first | rfl | (rw [if_neg] <;> first | rfl | omega) | (rw [if_pos] <;> first | rfl | omega))))); (try simp only [Rg4.nrm])) | (refine Rg4.w4_skip (Rg4.uw rfl rfl rfl) ?_; (try simp only [Rg4.nrm])) | (refine Rg4.w4_skip (Rg4.un rfl rfl rfl) ?_; (try simp only [Rg4.nrm])))
            iterate 2 (first | (refine Rg4.w4_any (Rg4.wt rfl rfl rfl) rfl ?_; apply Exists.intro; refine ⟨fun w' => ?_, ?_⟩; (focus (first | (go_simp; done) | (go_simp; first | rfl | (rw [if_neg] <;> first | rfl | omega) | (rw [if_pos] <;> first | rfl | omega)))); (try simp only [Rg4.nrm])) | (refine Rg4.w4_skip (Rg4.uw rfl rfl rfl) ?_; (try simp only [Rg4.nrm])) | (refine Rg4.w4_skip (Rg4.un rfl rfl rfl) ?_; (try simp only [Rg4.nrm])))
            iterate 2 (refine Rg4.w4_any (Rg4.want_none rfl) rfl ?_; apply Exists.intro; refine ⟨fun w' => ?_, ?_⟩; (focus (first | (go_simp; done) | (go_simp; first | rfl | (rw [if_neg] <;> first | rfl | omega) | (rw [if_pos] <;> first | rfl | omega)))); (try simp only [Rg4.nrm]))
            (first | (refine Rg4.w4_any (Rg4.wt rfl rfl rfl) rfl ?_; apply Exists.intro; refine ⟨fun w' => ?_, ?_⟩; (focus (first | (go_simp; done) | (go_simp; first | rfl | (rw [if_neg] <;> first | rfl | omega) | (rw [if_pos] <;> first | rfl | omega)))); (try simp only [Rg4.nrm])) | (refine Rg4.w4_skip (Rg4.uw rfl rfl rfl) ?_; (try simp only [Rg4.nrm])) | (refine Rg4.w4_skip (Rg4.un rfl rfl rfl) ?_; (try simp only [Rg4.nrm])))
            (first | (refine Rg4.w4_read (Rg4.wt rfl rfl rfl) rfl rfl ?_; apply Exists.intro; refine ⟨fun w' hw' hcl' => ?_, ?_⟩; focus (subst hw'; (focus (first | (go_simp; done) | (go_simp; first | rfl | (rw [if_neg] <;> first | rfl | omega) | (rw [if_pos] <;> first | rfl | omega))))); (try simp only [Rg4.nrm])) | (refine Rg4.w4_skip (Rg4.uw rfl rfl rfl) ?_; (try simp only [Rg4.nrm])) | (refine Rg4.w4_skip (Rg4.un rfl rfl rfl) ?_; (try simp only [Rg4.nrm])))
            (first | (refine Rg4.w4_any (Rg4.wt rfl rfl rfl) rfl ?_; apply Exists.intro; refine ⟨fun w' => ?_, ?_⟩; (focus (first | (go_simp; done) | (go_simp; first | rfl | (rw [if_neg] <;> first | rfl | omega) | (rw [if_pos] <;> first | rfl | omega)))); (try simp only [Rg4.nrm])) | (refine Rg4.w4_skip (Rg4.uw rfl rfl rfl) ?_; (try simp only [Rg4.nrm])) | (refine Rg4.w4_skip (Rg4.un rfl rfl rfl) ?_; (try simp only [Rg4.nrm])))
            (first | (refine Rg4.w4_cl (Rg4.wt rfl rfl rfl) rfl ?_; apply Exists.intro; refine ⟨fun w' hcl => ?_, ?_⟩; (focus (have q4 := Blk.cell hcl 4; (try simp at q4); (focus (first | (go_simp; done) | (go_simp; first | rfl | (rw [if_neg] <;> first | rfl | omega) | (rw [if_pos] <;> first | rfl | omega)))))); (try simp only [Rg4.nrm])) | (refine Rg4.w4_skip (Rg4.uw rfl rfl rfl) ?_; (try simp only [Rg4.nrm])) | (refine Rg4.w4_skip (Rg4.un rfl rfl rfl) ?_; (try simp only [Rg4.nrm])))
            refine Rg4.w4_bar (Rg4.want_of 10 84 false rfl rfl rfl) rfl (fun w' hw' hcl _ K hK => ?_)
            subst hw'
            go_wp2_with fail
            refine (HRS.out _ (st.oldFl (i := 0) get0 HX.out.1.2)).mono ?_
            rintro en w ⟨va, vc, rfl, hfr⟩
            replace st := st.fresh hfr
            clear hfr
            (try simp only [nsl, Value.cells, unB] at st)
            (try clear hc); have hc := st.facts; (try simp only [nfl, nft, Nat.reduceAdd] at hc)
            refine hK _ _ ⟨st.blk (i := 1) get1, ?_⟩
            clear hK
            (try simp only [Rg4.nrm])

            refine Rg4.w4_bar (Rg4.want_of 10 84 false rfl rfl rfl) rfl (fun w' hw' hcl _ K hK => ?_)
            subst hw'
            go_wp2_with fail
            refine (HEQ.out _ _ _ (rowFl' (α := Role) st (i := 2) get2).2 (st.oldFl (i := 0) get0 HX.out.1.2)).mono ?_
            rintro en w ⟨rfl, hx⟩
            replace st := st.ext hx
            clear hx
            (try clear hc); have hc := st.facts; (try simp only [nfl, nft, Nat.reduceAdd] at hc)
            refine hK _ _ ⟨st.blk (i := 1) get1, ?_⟩
            clear hK
            (try simp only [Rg4.nrm])
            (first | (refine Rg4.w4_any (Rg4.wt rfl rfl rfl) rfl ?_; apply Exists.intro; refine ⟨fun w' => ?_, ?_⟩; (focus (first | (go_simp; done) | (go_simp; first | rfl | (rw [if_neg] <;> first | rfl | omega) | (rw [if_pos] <;> first | rfl | omega)))); (try simp only [Rg4.nrm])) | (refine Rg4.w4_skip (Rg4.uw rfl rfl rfl) ?_; (try simp only [Rg4.nrm])) | (refine Rg4.w4_skip (Rg4.un rfl rfl rfl) ?_; (try simp only [Rg4.nrm])))
            (refine Rg4.w4_any (Rg4.want_none rfl) rfl ?_; apply Exists.intro; refine ⟨fun w' => ?_, ?_⟩; (focus (first | (go_simp; done) | (go_simp; first | rfl | (rw [if_neg] <;> first | rfl | omega) | (rw [if_pos] <;> first | rfl | omega)))); (try simp only [Rg4.nrm]))
            refine Rg4.w4_nil (fun w' hw' hcl' _ => ?_); subst hw'; clear hcl'
            go_wp2_with fail
            go_loopg [96] 0 (fun kk i wr => i = .int .i64 0 ∧ Own (fun _ => False) (fun _ => True) W [oldI W] wr)
            case atStart => exact ⟨rfl, by simpa [pick] using st.keep [0] (by decide) (by simp)⟩
            case round =>
              obtain ⟨rfl, st'⟩ := hrel
              clear st hc
              have st := st'
              clear st'
              (try simp only [nsl, Value.cells, unB] at st)
              (try clear hc); have hc := st.facts; (try simp only [nfl, nft, Nat.reduceAdd] at hc)
              go_wp2_with fail
              go_ret
              exact ⟨by rw [H1.out]; rfl, st.ext0⟩
        · have heb : (e != 0) = true := by simpa using he
          have HE1 := Lib.hid he
          clear he
          have H1 : Hid (r = false) := Lib.hid (by rw [HR.out]; rw [if_neg HK.out.1, if_pos (.inr (.inr ⟨HK.out.2.2.2, HE1.out⟩))])
          go_enter Tryz.func8, Tryz.ntmps8
          go_wp2_with ((((with_reducible refine wl_box ?_ (fun K hK => ?_)); rfl; refine owp_box (o := ⟨some 1, _, _, _, _, _⟩) rfl st ?_; apply Exists.intro; refine ⟨?_, ?_⟩; (focus (go_simp; try rfl)); (clear st; intro b1 w hb st; clear hb))); (try simp only [nsl, Value.cells, unB] at st); (try clear hc); have hc := st.facts; (try simp only [nfl, nft, Nat.reduceAdd] at hc))
          go_ret
          exact ⟨by rw [H1.out]; rfl, st.ext0⟩
    · have hpb : (p != 0) = true := by simpa using hp
      have HP1 := Lib.hid hp
      clear hp
      have H1 : Hid (r = false) := Lib.hid (by rw [HR.out]; rw [if_neg HK.out.1, if_pos (.inl ⟨HK.out.2.1, .inr HP1.out⟩)])
      go_enter Tryz.func8, Tryz.ntmps8
      go_wp2_with ((((with_reducible refine wl_box ?_ (fun K hK => ?_)); rfl; refine owp_box (o := ⟨some 1, _, _, _, _, _⟩) rfl st ?_; apply Exists.intro; refine ⟨?_, ?_⟩; (focus (go_simp; try rfl)); (clear st; intro b1 w hb st; clear hb))); (try simp only [nsl, Value.cells, unB] at st); (try clear hc); have hc := st.facts; (try simp only [nfl, nft, Nat.reduceAdd] at hc))
      go_ret
      exact ⟨by rw [H1.out]; rfl, st.ext0⟩
end Go.Proofs.YtekngjkjgmplpaaGreat

namespace Go.Proofs.YtekngjkjgmplpaaGreat
set_option linter.unusedSimpArgs false
set_option linter.unusedVariables false
open Go Go.RowKit
/-- The frame of any number and message, and of any body. -/
def frMk (v : Int) (x : MsgT) : List UInt8 := if 1 ≤ v ∧ v ≤ 1099511627776 ∧ mgR x = true then frameB v.toNat (mgB x) else []
theorem frMake_all (v : Int) (x : MsgT) (W : World) (hx : MgOk W x) (lx : MgL x) :
    Calls Tryz.prog 11 #[.int .i64 v, mgV x] W fun e w' => ∃ a c, e = .returned (.slice a (frMk v x).length c) ∧ FreshI W w' (rowI 5 1 (.slice a (frMk v x).length c) (frMk v x).length ((frMk v x).map B)) := by
  unfold frMk
  by_cases h : 1 ≤ v ∧ v ≤ 1099511627776 ∧ mgR x = true
  · obtain ⟨n, rfl⟩ : ∃ n : Nat, v = n := ⟨v.toNat, by omega⟩
    rw [if_pos h, Int.toNat_natCast]
    exact frMake_yes n x W hx lx h.2.2 (by omega) (by omega)
  · rw [if_neg h]
    refine (frMake_no v x W hx lx ?_).mono ?_
    · cases hr : mgR x with
      | false => exact .inl rfl
      | true => rw [hr] at h; simp at h; omega
    · rintro e w' ⟨rfl, hx⟩
      exact ⟨none, 0, rfl, (FreshI.nilRow W _ _).post hx⟩
end Go.Proofs.YtekngjkjgmplpaaGreat
