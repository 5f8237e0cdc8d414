/- Keys and requests for tickets that came in. -/
import Derived.Test.YtdkemfimhdjdiaaOpenF
import Derived.Test.YtdkemfimhdjdiaaTickJ
namespace Go.Proofs.Ytdkemfimhdjdiaa
set_option linter.unusedSimpArgs false
set_option linter.unusedVariables false
open Go Go.RowKit Go.ChangeShapes Go.WideShapes Go.ChangeAt
def bulkK (x : KeyT) : Nat := 2 + x.who.length + x.n
theorem kwt_bulk (x : KeyT) : kwt x ≤ 5 * bulkK x := by unfold kwt bulkK; omega
theorem weightK_bulk : ∀ l : List KeyT, weightK l ≤ 5 * (l.map bulkK).sum
  | [] => by simp [weightK]
  | x :: l => by have := weightK_bulk l; have := kwt_bulk x; rw [weightK_cons]; simp only [List.map_cons, List.sum_cons]; omega
section
variable {H : Type} {enc : TypeId × Value → H} {w : World} {base : Nat} {held : Bool}
set_option maxRecDepth 100000 in
theorem trod_by {fuel : Nat} {cs : List Value} {x : DataW H × List MemPlace} (h : DataW.trod enc Try.prog w base (fun _ => true) held fuel 30 cs = some x) : ∃ a n c xs, cs = [.slice a n c] ∧ By w a n xs ∧ (n ≤ c ∧ c ≤ maxLen) ∧ n ≤ Rows.uptoBulk x.1 := by
  rcases open_ints Try.underlying30 Try.underlying5 (by kernel_rfl) h with ⟨rfl, _⟩ | ⟨a, l, c, zs, rfl, _, hl, hm, hz, hx, hcell, hwz⟩
  · exact ⟨none, 0, 0, [], rfl, By.nil _ _, ⟨Nat.le_refl _, by simp [maxLen]⟩, Nat.zero_le _⟩
  · have hz2 : zs.length = c := by simpa using hz
    obtain ⟨xs, h1, h2, h3⟩ := By.of_row (w := w) (a := some a) (len := l) (cap := c) (zs := zs) (.inr ⟨_, rfl, hl, hm, hz2, hcell, hwz⟩)
    refine ⟨some a, l, c, xs, rfl, h1, ⟨hl, hm⟩, ?_⟩
    rw [hx]
    simp only [Rows.uptoBulk]
    have := bulk_len (H := H) (lits .u8 (zs.take l))
    have hlen : (lits (H := H) .u8 (zs.take l)).length = l := by simp [lits, hz2, hl]
    omega
set_option maxRecDepth 100000 in
theorem trod_key {fuel : Nat} {cs : List Value} {x : DataW H × List MemPlace} (h : DataW.trod enc Try.prog w base (fun _ => true) held fuel 127 cs = some x) : ∃ y : KeyT, cs = Flt.cells y ∧ bulkK y ≤ Rows.uptoBulk x.1 ∧ KOk w y := by
  have hS := Try.underlying127
  obtain ⟨xs, n, hx, hl, hlen, hf⟩ := trod_fields hS h
  rw [show Try.prog.cellsOf 127 = 2 from by kernel_rfl] at hl
  obtain ⟨y0, e0, h0⟩ := hf 0 _ rfl
  obtain ⟨y1, e1, h1⟩ := hf 1 _ rfl
  change DataW.trod enc Try.prog w base (fun _ => true) held n 9 ((cs.drop 0).take (Try.prog.cellsOf 9)) = some y0 at h0
  change DataW.trod enc Try.prog w base (fun _ => true) held n 30 ((cs.drop 1).take (Try.prog.cellsOf 30)) = some y1 at h1
  have k1 : Try.prog.cellsOf 9 = 1 := by kernel_rfl
  have k2 : Try.prog.cellsOf 30 = 1 := by kernel_rfl
  rw [k1] at h0
  rw [k2] at h1
  simp at hlen
  match xs, hlen, cs, hl with
  | [z0, z1], _, [c0, c1], _ =>
    simp at e0 e1
    subst e0 e1
    simp only [List.drop_succ_cons, List.drop_zero, List.take_succ_cons, List.take_zero] at h0 h1
    obtain ⟨s0, q0, rfl, _⟩ := DataW.trod_string Try.underlying9 h0
    obtain ⟨a, m, c, ys, q1, hb, hc, hk⟩ := trod_by h1
    simp at q0 q1
    obtain ⟨⟨s0⟩⟩ := s0
    refine ⟨⟨s0, a, m, c, ys⟩, ?_, ?_, hc, hb⟩
    · rw [q0, q1]; rfl
    · rw [hx]
      simp only [List.map_cons, List.map_nil, Rows.uptoBulk, Rows.uptoBulkAll, bulkK]
      simp [Rows.uptoBulk, ByteArray.size]
      omega
set_option maxRecDepth 100000 in
theorem trod_tick {fuel : Nat} {cs : List Value} {x : DataW H × List MemPlace} (h : DataW.trod enc Try.prog w base (fun _ => true) held fuel 66 cs = some x) : ∃ y : TickT, cs = Flt.cells y ∧ y.o.length + y.cl.length + y.n + 3 ≤ Rows.uptoBulk x.1 ∧ TOk w y := by
  have hS := Try.underlying66
  obtain ⟨xs, n, hx, hl, hlen, hf⟩ := trod_fields hS h
  rw [show Try.prog.cellsOf 66 = 4 from by kernel_rfl] at hl
  obtain ⟨y0, e0, h0⟩ := hf 0 _ rfl
  obtain ⟨y1, e1, h1⟩ := hf 1 _ rfl
  obtain ⟨y2, e2, h2⟩ := hf 2 _ rfl
  obtain ⟨y3, e3, h3⟩ := hf 3 _ rfl
  change DataW.trod enc Try.prog w base (fun _ => true) held n 9 ((cs.drop 0).take (Try.prog.cellsOf 9)) = some y0 at h0
  change DataW.trod enc Try.prog w base (fun _ => true) held n 9 ((cs.drop 1).take (Try.prog.cellsOf 9)) = some y1 at h1
  change DataW.trod enc Try.prog w base (fun _ => true) held n 3 ((cs.drop 2).take (Try.prog.cellsOf 3)) = some y2 at h2
  change DataW.trod enc Try.prog w base (fun _ => true) held n 30 ((cs.drop 3).take (Try.prog.cellsOf 30)) = some y3 at h3
  have k1 : Try.prog.cellsOf 9 = 1 := by kernel_rfl
  have k2 : Try.prog.cellsOf 30 = 1 := by kernel_rfl
  have k3 : Try.prog.cellsOf 3 = 1 := by kernel_rfl
  rw [k1] at h0 h1
  rw [k3] at h2
  rw [k2] at h3
  simp at hlen
  match xs, hlen, cs, hl with
  | [z0, z1, z2, z3], _, [c0, c1, c2, c3], _ =>
    simp at e0 e1 e2 e3
    subst e0 e1 e2 e3
    simp only [List.drop_succ_cons, List.drop_zero, List.take_succ_cons, List.take_zero] at h0 h1 h2 h3
    obtain ⟨s0, q0, rfl, _⟩ := DataW.trod_string Try.underlying9 h0
    obtain ⟨s1, q1, rfl, _⟩ := DataW.trod_string Try.underlying9 h1
    obtain ⟨i2, q2, rfl, _⟩ := DataW.trod_int Try.underlying3 h2
    obtain ⟨a, m, c, ys, q3, hb, hc, hk⟩ := trod_by h3
    simp at q0 q1 q2 q3
    obtain ⟨⟨s0⟩⟩ := s0
    obtain ⟨⟨s1⟩⟩ := s1
    refine ⟨⟨s0, s1, i2, a, m, c, ys⟩, ?_, ?_, hc, hb⟩
    · rw [q0, q1, q2, q3]; rfl
    · rw [hx]
      simp only [List.map_cons, List.map_nil, Rows.uptoBulk, Rows.uptoBulkAll]
      simp [Rows.uptoBulk]
      omega
set_option maxRecDepth 100000 in
theorem trod_ask {fuel : Nat} {cs : List Value} {x : DataW H × List MemPlace} (h : DataW.trod enc Try.prog w base (fun _ => true) held fuel 69 cs = some x) : ∃ y : AskT, cs = Flt.cells y ∧ askW y ≤ Rows.uptoBulk x.1 ∧ TOk w y.t := by
  have hS := Try.underlying69
  obtain ⟨xs, n, hx, hl, hlen, hf⟩ := trod_fields hS h
  rw [show Try.prog.cellsOf 69 = 8 from by kernel_rfl] at hl
  obtain ⟨y0, e0, h0⟩ := hf 0 _ rfl
  obtain ⟨y1, e1, h1⟩ := hf 1 _ rfl
  obtain ⟨y2, e2, h2⟩ := hf 2 _ rfl
  obtain ⟨y3, e3, h3⟩ := hf 3 _ rfl
  obtain ⟨y4, e4, h4⟩ := hf 4 _ rfl
  change DataW.trod enc Try.prog w base (fun _ => true) held n 66 ((cs.drop 0).take (Try.prog.cellsOf 66)) = some y0 at h0
  change DataW.trod enc Try.prog w base (fun _ => true) held n 9 ((cs.drop 4).take (Try.prog.cellsOf 9)) = some y1 at h1
  change DataW.trod enc Try.prog w base (fun _ => true) held n 9 ((cs.drop 5).take (Try.prog.cellsOf 9)) = some y2 at h2
  change DataW.trod enc Try.prog w base (fun _ => true) held n 3 ((cs.drop 6).take (Try.prog.cellsOf 3)) = some y3 at h3
  change DataW.trod enc Try.prog w base (fun _ => true) held n 3 ((cs.drop 7).take (Try.prog.cellsOf 3)) = some y4 at h4
  have k1 : Try.prog.cellsOf 9 = 1 := by kernel_rfl
  have k2 : Try.prog.cellsOf 66 = 4 := by kernel_rfl
  have k3 : Try.prog.cellsOf 3 = 1 := by kernel_rfl
  rw [k2] at h0
  rw [k1] at h1 h2
  rw [k3] at h3 h4
  simp at hlen
  match xs, hlen, cs, hl with
  | [z0, z1, z2, z3, z4], _, [c0, c1, c2, c3, c4, c5, c6, c7], _ =>
    simp at e0 e1 e2 e3 e4
    subst e0 e1 e2 e3 e4
    simp only [List.drop_succ_cons, List.drop_zero, List.take_succ_cons, List.take_zero] at h0 h1 h2 h3 h4
    obtain ⟨t, q0, b0, ht⟩ := trod_tick h0
    obtain ⟨s1, q1, rfl, _⟩ := DataW.trod_string Try.underlying9 h1
    obtain ⟨s2, q2, rfl, _⟩ := DataW.trod_string Try.underlying9 h2
    obtain ⟨i3, q3, rfl, _⟩ := DataW.trod_int Try.underlying3 h3
    obtain ⟨i4, q4, rfl, _⟩ := DataW.trod_int Try.underlying3 h4
    simp [Flt.cells, tC] at q0
    simp at q1 q2 q3 q4
    obtain ⟨⟨s1⟩⟩ := s1
    obtain ⟨⟨s2⟩⟩ := s2
    refine ⟨⟨t, s1, s2, i3, i4⟩, ?_, ?_, ht⟩
    · rw [q0.1, q0.2.1, q0.2.2.1, q0.2.2.2, q1, q2, q3, q4]; rfl
    · rw [hx]
      simp only [List.map_cons, List.map_nil, Rows.uptoBulk, Rows.uptoBulkAll, askW]
      simp [Rows.uptoBulk]
      omega
end
end Go.Proofs.Ytdkemfimhdjdiaa
