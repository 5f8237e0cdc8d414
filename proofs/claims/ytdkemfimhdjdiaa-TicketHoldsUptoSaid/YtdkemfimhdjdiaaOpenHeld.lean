/- Keys, a request and a turned byte that came in as one. -/
import Derived.Test.YtdkemfimhdjdiaaOpenTick
namespace Go.Proofs.Ytdkemfimhdjdiaa
set_option linter.unusedSimpArgs false
set_option linter.unusedVariables false
open Go Go.RowKit Go.ChangeShapes Go.WideShapes Go.ChangeAt
structure HeldT where
  a : Option Addr
  n : Nat
  c : Nat
  ks : List KeyT
  x : AskT
  at' : Int
  tu : Int
deriving Inhabited
def heldC (h : HeldT) : List Value := [.slice h.a h.n h.c, S h.x.t.o, S h.x.t.cl, .int .i64 h.x.t.t, .slice h.x.t.a h.x.t.n h.x.t.c, S h.x.ow, S h.x.cl, .int .i64 h.x.now, .int .i64 h.x.st, .int .u8 h.at', .int .u8 h.tu]
instance fltHeld : Flt HeldT := ⟨11, heldC, fun _ => rfl, by decide, fun x u hu => by simp [heldC] at hu; rcases hu with rfl | rfl | rfl | rfl | rfl | rfl | rfl | rfl | rfl | rfl | rfl <;> rfl⟩
def HeldR (w : World) (h : HeldT) : Prop := Fl w h.a h.n h.ks ∧ (h.n ≤ h.c ∧ h.c ≤ maxLen) ∧ (∀ k ∈ h.ks, KOk w k) ∧ TOk w h.x.t ∧ (0 ≤ h.at' ∧ h.at' ≤ 255) ∧ (0 ≤ h.tu ∧ h.tu ≤ 255)
def heldW (h : HeldT) : Nat := (h.ks.map bulkK).sum + askW h.x
section
variable {H : Type} {enc : TypeId × Value → H} {w : World} {base : Nat} {held : Bool}
set_option maxRecDepth 100000 in
theorem trod_held {fuel : Nat} {cs : List Value} {x : DataW H × List MemPlace} (h : DataW.trod enc Try.prog w base (fun _ => true) held fuel 89 cs = some x) : ∃ y : HeldT, cs = Flt.cells y ∧ heldW y ≤ Rows.uptoBulk x.1 ∧ HeldR w y := by
  have hS := Try.underlying89
  obtain ⟨xs, n, hx, hl, hlen, hf⟩ := trod_fields hS h
  rw [show Try.prog.cellsOf 89 = 11 from by kernel_rfl] at hl
  obtain ⟨y0, e0, h0⟩ := hf 0 _ rfl
  obtain ⟨y1, e1, h1⟩ := hf 1 _ rfl
  obtain ⟨y2, e2, h2⟩ := hf 2 _ rfl
  obtain ⟨y3, e3, h3⟩ := hf 3 _ rfl
  change DataW.trod enc Try.prog w base (fun _ => true) held n 87 ((cs.drop 0).take (Try.prog.cellsOf 87)) = some y0 at h0
  change DataW.trod enc Try.prog w base (fun _ => true) held n 69 ((cs.drop 1).take (Try.prog.cellsOf 69)) = some y1 at h1
  change DataW.trod enc Try.prog w base (fun _ => true) held n 5 ((cs.drop 9).take (Try.prog.cellsOf 5)) = some y2 at h2
  change DataW.trod enc Try.prog w base (fun _ => true) held n 5 ((cs.drop 10).take (Try.prog.cellsOf 5)) = some y3 at h3
  have k1 : Try.prog.cellsOf 87 = 1 := by kernel_rfl
  have k2 : Try.prog.cellsOf 69 = 8 := by kernel_rfl
  have k3 : Try.prog.cellsOf 5 = 1 := by kernel_rfl
  rw [k1] at h0
  rw [k2] at h1
  rw [k3] at h2 h3
  simp at hlen
  match xs, hlen, cs, hl with
  | [z0, z1, z2, z3], _, [c0, c1, c2, c3, c4, c5, c6, c7, c8, c9, c10], _ =>
    simp at e0 e1 e2 e3
    subst e0 e1 e2 e3
    simp only [List.drop_succ_cons, List.drop_zero, List.take_succ_cons, List.take_zero] at h0 h1 h2 h3
    obtain ⟨a, m, c, ks, q0, hb, hc, hw, hr⟩ := trod_flts (α := KeyT) bulkK (KOk w) Try.underlying87 (by kernel_rfl) (fun _ _ _ h => trod_key h) h0
    obtain ⟨y, q1, b1, ht⟩ := trod_ask h1
    obtain ⟨i2, q2, rfl, b2⟩ := DataW.trod_int Try.underlying5 h2
    obtain ⟨i3, q3, rfl, b3⟩ := DataW.trod_int Try.underlying5 h3
    simp [Flt.cells, askC] at q1
    simp at q0 q2 q3
    refine ⟨⟨a, m, c, ks, y, i2, i3⟩, ?_, ?_, hb, hc, hr, ht, ?_, ?_⟩
    · obtain ⟨r1, r2, r3, r4, r5, r6, r7, r8⟩ := q1
      rw [q0, q2, q3, r1, r2, r3, r4, r5, r6, r7, r8]; rfl
    · rw [hx]
      simp only [List.map_cons, List.map_nil, Rows.uptoBulk, Rows.uptoBulkAll, heldW]
      omega
    · have h := b2; simp [Lit.wf, IntKind.min, IntKind.max, IntKind.signed, IntKind.bits] at h; exact h
    · have h := b3; simp [Lit.wf, IntKind.min, IntKind.max, IntKind.signed, IntKind.bits] at h; exact h
end
end Go.Proofs.Ytdkemfimhdjdiaa
