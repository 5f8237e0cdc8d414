/- A byte slice inside a datum that came in. -/
import Derived.Test.YthdbobnebpoolaaOpenCred
import Derived.Test.YthdbobnebpoolaaVltK
import Derived.Test.YthdbobnebpoolaaVltLa
import Derived.OpenShut
namespace Go.Proofs.Ythdbobnebpoolaa
set_option linter.unusedSimpArgs false
set_option linter.unusedVariables false
open Go Go.RowKit Go.ChangeShapes Go.WideShapes Go.ChangeAt
section
variable {H : Type} {enc : TypeId × Value → H} {w : World} {base : Nat} {held : Bool}
set_option maxRecDepth 100000 in
theorem trod_by {fuel : Nat} {cs : List Value} {x : DataW H × List MemPlace} (h : DataW.trod enc Try.prog w base (fun _ => true) held fuel 33 cs = some x) : ∃ a n c xs, cs = [.slice a n c] ∧ By w a n xs ∧ (n ≤ c ∧ c ≤ maxLen) ∧ n ≤ Rows.uptoBulk x.1 := by
  rcases open_ints Try.underlying33 Try.underlying5 (by kernel_rfl) h with ⟨rfl, _⟩ | ⟨a, l, c, zs, rfl, _, hl, hm, hz, hx, hcell, hwz⟩
  · exact ⟨none, 0, 0, [], rfl, By.nil _ _, ⟨Nat.le_refl _, by simp [maxLen]⟩, Nat.zero_le _⟩
  · have hz2 : zs.length = c := by simpa using hz
    obtain ⟨xs, h1, h2, h3⟩ := By.of_row (w := w) (a := some a) (len := l) (cap := c) (zs := zs) (.inr ⟨_, rfl, hl, hm, hz2, hcell, hwz⟩)
    refine ⟨some a, l, c, xs, rfl, h1, ⟨hl, hm⟩, ?_⟩
    rw [hx]
    simp only [Rows.uptoBulk]
    have := bulk_len (H := H) (lits .u8 (zs.take l))
    have hlen : (lits (H := H) .u8 (zs.take l)).length = l := by simp [lits, hz2, hl]
    omega
end
end Go.Proofs.Ythdbobnebpoolaa

namespace Go.Proofs.Ythdbobnebpoolaa
set_option linter.unusedSimpArgs false
set_option linter.unusedVariables false
open Go Go.RowKit Go.ChangeShapes Go.WideShapes Go.ChangeAt
def bulkSg (x : SgnT) : Nat := bulkC x.c + x.n
section
variable {H : Type} {enc : TypeId × Value → H} {w : World} {base : Nat} {held : Bool}
set_option maxRecDepth 100000 in
theorem trod_sgn {fuel : Nat} {cs : List Value} {x : DataW H × List MemPlace} (h : DataW.trod enc Try.prog w base (fun _ => true) held fuel 35 cs = some x) : ∃ y : SgnT, cs = Flt.cells y ∧ bulkSg y ≤ Rows.uptoBulk x.1 ∧ SgOk w y := by
  have hS := Try.underlying35
  obtain ⟨xs, n, hx, hl, hlen, hf⟩ := trod_fields hS h
  rw [show Try.prog.cellsOf 35 = 10 from by kernel_rfl] at hl
  obtain ⟨y0, e0, h0⟩ := hf 0 _ rfl
  obtain ⟨y1, e1, h1⟩ := hf 1 _ rfl
  change DataW.trod enc Try.prog w base (fun _ => true) held n 32 ((cs.drop 0).take (Try.prog.cellsOf 32)) = some y0 at h0
  change DataW.trod enc Try.prog w base (fun _ => true) held n 33 ((cs.drop 9).take (Try.prog.cellsOf 33)) = some y1 at h1
  have k1 : Try.prog.cellsOf 32 = 9 := by kernel_rfl
  have k2 : Try.prog.cellsOf 33 = 1 := by kernel_rfl
  rw [k1] at h0
  rw [k2] at h1
  have hl2 : xs.length = 2 := hlen
  match cs, hl, xs, hl2 with
  | [c0, c1, c2, c3, c4, c5, c6, c7, c8, c9], _, [z0, z1], _ =>
    simp at e0 e1
    subst e0 e1
    simp only [List.drop_succ_cons, List.drop_zero, List.take_succ_cons, List.take_zero] at h0 h1
    obtain ⟨y, q0, b0, _⟩ := trod_cred h0
    obtain ⟨a, m, c, ys, q1, hb, hc, hk⟩ := trod_by h1
    refine ⟨⟨y, a, m, c, ys⟩, ?_, ?_, hc, hb⟩
    · simp [Flt.cells, cC] at q0
      simp at q1
      obtain ⟨rfl, rfl, rfl, rfl, rfl, rfl, rfl, rfl, rfl⟩ := q0
      subst q1
      rfl
    · rw [hx]
      simp only [List.map_cons, List.map_nil, Rows.uptoBulk, Rows.uptoBulkAll, bulkSg]
      omega
  | [], hl, _, _ => simp at hl
end
end Go.Proofs.Ythdbobnebpoolaa

namespace Go.Proofs.Ythdbobnebpoolaa
set_option linter.unusedSimpArgs false
set_option linter.unusedVariables false
open Go Go.RowKit Go.ChangeShapes Go.WideShapes Go.ChangeAt
instance : Inhabited OpV := ⟨⟨0, zSg⟩⟩
def bulkOpV (x : OpV) : Nat := bulkSg x.s
theorem opv_bulk {l : List OpV} {x : OpV} (h : x ∈ l) : weightSg [x.s] ≤ 20 * (l.map bulkOpV).sum := by
  induction l with
  | nil => simp at h
  | cons y l ih =>
    rw [List.map_cons, List.sum_cons]
    rcases List.mem_cons.1 h with rfl | q
    · rw [weightSg_cons]
      have h1 := wtC_bulk x.s.c
      show wtSg x.s + 0 ≤ _
      unfold wtSg bulkOpV bulkSg
      omega
    · have := ih q
      omega
section
variable {H : Type} {enc : TypeId × Value → H} {w : World} {base : Nat} {held : Bool}
set_option maxRecDepth 100000 in
theorem trod_opv {fuel : Nat} {cs : List Value} {x : DataW H × List MemPlace} (h : DataW.trod enc Try.prog w base (fun _ => true) held fuel 49 cs = some x) : ∃ y : OpV, cs = Flt.cells y ∧ bulkOpV y ≤ Rows.uptoBulk x.1 ∧ SgOk w y.s := by
  have hS := Try.underlying49
  obtain ⟨xs, n, hx, hl, hlen, hf⟩ := trod_fields hS h
  rw [show Try.prog.cellsOf 49 = 11 from by kernel_rfl] at hl
  obtain ⟨y0, e0, h0⟩ := hf 0 _ rfl
  obtain ⟨y1, e1, h1⟩ := hf 1 _ rfl
  change DataW.trod enc Try.prog w base (fun _ => true) held n 3 ((cs.drop 0).take (Try.prog.cellsOf 3)) = some y0 at h0
  change DataW.trod enc Try.prog w base (fun _ => true) held n 35 ((cs.drop 1).take (Try.prog.cellsOf 35)) = some y1 at h1
  have k1 : Try.prog.cellsOf 3 = 1 := by kernel_rfl
  have k2 : Try.prog.cellsOf 35 = 10 := by kernel_rfl
  rw [k1] at h0
  rw [k2] at h1
  have hl2 : xs.length = 2 := hlen
  match cs, hl, xs, hl2 with
  | [c0, c1, c2, c3, c4, c5, c6, c7, c8, c9, c10], _, [z0, z1], _ =>
    simp at e0 e1
    subst e0 e1
    simp only [List.drop_succ_cons, List.drop_zero, List.take_succ_cons, List.take_zero] at h0 h1
    obtain ⟨i0, q0, rfl, _⟩ := DataW.trod_int Try.underlying3 h0
    obtain ⟨y, q1, hb, ho⟩ := trod_sgn h1
    simp at q0
    refine ⟨⟨i0, y⟩, ?_, ?_, ho⟩
    · rw [q0]
      show _ = .int .i64 i0 :: sgC y
      congr 1
    · rw [hx]
      simp only [List.map_cons, List.map_nil, Rows.uptoBulk, Rows.uptoBulkAll, bulkOpV]
      omega
  | [], hl, _, _ => simp at hl
theorem open_str2 {P : Program} {r : Reach} {b0 : Nat} {t e : TypeId} {v : Value} {d : DataW H} {p : List MemPlace} (ht : P.underlying t = some (.array 2 e)) (he : P.underlying e = some .string) (ce : P.cellsOf e = 1) (ct : P.cellsOf t = 2)
    (hv : Value.okWide P w r b0 t v) (h : DataW.Trod enc P w base (fun _ => true) held t v d p) : ∃ x y : List UInt8, v = .agg #[S x, S y] ∧ x.length + y.length ≤ Rows.uptoBulk d := by
  obtain ⟨cs, rfl, hsz⟩ : ∃ cs, v = .agg cs ∧ cs.size = P.cellsOf t := by
    simp only [Value.okWide, ht] at hv
    obtain ⟨cs, h1, h2, _⟩ := hv
    exact ⟨cs, h1, h2⟩
  obtain ⟨fuel, hf⟩ := h
  obtain ⟨ys, n, _, hd, _, hl, hel⟩ := DataW.trod_array ht hf
  rw [ct] at hsz
  obtain ⟨l⟩ := cs
  have hlen : l.length = 2 := by simpa using hsz
  have hd1 : d = .agg (ys.map (·.1)) := by injection hd
  obtain ⟨c0, c1, rfl⟩ : ∃ c0 c1, l = [c0, c1] := by
    match l, hlen with
    | [c0, c1], _ => exact ⟨c0, c1, rfl⟩
  obtain ⟨z0, z1, rfl⟩ : ∃ z0 z1, ys = [z0, z1] := by
    match ys, hl with
    | [z0, z1], _ => exact ⟨z0, z1, rfl⟩
  have h0 := hel 0 (by omega)
  have h1 := hel 1 (by omega)
  rw [ce] at h0 h1
  simp [Value.cells] at h0 h1
  obtain ⟨s0, q0, r0, _⟩ := DataW.trod_string he h0
  obtain ⟨s1, q1, r1, _⟩ := DataW.trod_string he h1
  simp at q0 q1
  obtain ⟨⟨s0⟩⟩ := s0
  obtain ⟨⟨s1⟩⟩ := s1
  subst q0 q1
  refine ⟨s0, s1, rfl, ?_⟩
  rw [hd1, r0, r1]
  simp only [List.map_cons, List.map_nil, Rows.uptoBulk, Rows.uptoBulkAll]
  simp
  omega
end
end Go.Proofs.Ythdbobnebpoolaa

namespace Go.Proofs.Ythdbobnebpoolaa
set_option linter.unusedSimpArgs false
set_option linter.unusedVariables false
open Go Go.RowKit
theorem opv_len : ∀ l : List OpV, l.length ≤ (l.map bulkOpV).sum
  | [] => Nat.le_refl _
  | x :: l => by
    have := opv_len l
    rw [List.map_cons, List.sum_cons, List.length_cons]
    have h1 : 1 ≤ bulkOpV x := by unfold bulkOpV bulkSg bulkC; omega
    omega
theorem vaultPlays_all (i : Int) (a : Option Addr) (n c : Nat) (ops : List OpV) (w1 w2 : List UInt8) (W : World) (h : Fl W a n ops) (hok : ∀ x ∈ ops, SgOk W x.s) (hb : (ops.map bulkOpV).sum ≤ 1048576) (hw : w1.length + w2.length ≤ 1048576) :
    Calls Try.prog 3 #[.int .i64 i, .slice a n c, .agg #[S w1, S w2]] W fun e w' => e = .returned (.bool true) ∧ Ext W w' := by
  by_cases hi : i < 0 ∨ 256 < i
  · exact vaultPlays_no i a n c w1 w2 W hi
  · obtain ⟨room, rfl⟩ : ∃ r : Nat, i = (r : Int) := ⟨i.toNat, by omega⟩
    refine vaultPlays_in room a n c ops w1 w2 W (by omega) h (by have := opv_len ops; have := h.1; omega) hok (fun x hx => by have := opv_bulk hx; omega) (by omega)
end Go.Proofs.Ythdbobnebpoolaa
