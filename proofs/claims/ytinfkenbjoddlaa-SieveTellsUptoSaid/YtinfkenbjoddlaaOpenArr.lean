/- Roles that came in: one, and a slice of them, of a bounded bulk. -/
import Derived.Test.YtinfkenbjoddlaaOpenF
import Derived.Test.YtinfkenbjoddlaaSveD
import Derived.Deep.Slices
import Derived.ChangeSame
import Derived.OpenShut
namespace Go.Proofs.Ytinfkenbjoddlaa
set_option linter.unusedSimpArgs false
set_option linter.unusedVariables false
open Go Go.RowKit Go.ChangeShapes Go.WideShapes Go.ChangeAt
section
variable {H : Type} {enc : TypeId × Value → H} {P : Program} {w : World} {base : Nat} {held : Bool}
theorem trod_role {t : TypeId} {f0 f1 : Field} {fuel : Nat} {cs : List Value} {x : DataW H × List MemPlace} (ht : P.underlying t = some (.struct #[f0, f1])) (ce : P.cellsOf t = 2) (o0 : f0.offset = 0) (o1 : f1.offset = 1) (c0 : P.cellsOf f0.type = 1) (c1 : P.cellsOf f1.type = 1)
    (t0 : P.underlying f0.type = some .string) (t1 : P.underlying f1.type = some .string) (h : DataW.trod enc P w base (fun _ => true) held fuel t cs = some x) : ∃ r : Role, cs = [S r.1, S r.2] ∧ Rows.uptoBulk x.1 = r.1.length + r.2.length + 3 := by
  obtain ⟨y0, y1, n, rfl, hl, h0, h1⟩ := trod_struct2 ht h
  rw [ce] at hl
  rw [o0, c0] at h0
  rw [o1, c1] at h1
  match cs, hl with
  | [u, v], _ =>
    simp at h0 h1
    obtain ⟨s0, q0, rfl, _⟩ := DataW.trod_string t0 h0
    obtain ⟨s1, q1, rfl, _⟩ := DataW.trod_string t1 h1
    simp at q0 q1
    subst q0 q1
    obtain ⟨⟨s0⟩⟩ := s0
    obtain ⟨⟨s1⟩⟩ := s1
    refine ⟨(s0, s1), rfl, ?_⟩
    simp [Rows.uptoBulk, Rows.uptoBulkAll]
    omega
end
end Go.Proofs.Ytinfkenbjoddlaa

namespace Go.Proofs.Ytinfkenbjoddlaa
set_option linter.unusedSimpArgs false
set_option linter.unusedVariables false
open Go Go.RowKit Go.ChangeShapes Go.WideShapes Go.ChangeAt
def bulkC (x : CredT) : Nat := 1 + x.h.1.length + x.h.2.length + x.w.length + x.b.1.length + x.b.2.length + x.c.1.length + x.c.2.length + x.e.length
theorem wtC_bulk (x : CredT) : wtC x ≤ 20 * bulkC x := by unfold wtC bulkC; omega
theorem weightC_bulk : ∀ l : List CredT, weightC l ≤ 20 * (l.map bulkC).sum
  | [] => by simp [weightC]
  | x :: l => by have := weightC_bulk l; have := wtC_bulk x; rw [weightC_cons]; simp only [List.map_cons, List.sum_cons]; omega
section
variable {H : Type} {enc : TypeId × Value → H} {P : Program} {w : World} {base : Nat} {held : Bool}
set_option maxRecDepth 100000 in
theorem trod_cred {fuel : Nat} {cs : List Value} {x : DataW H × List MemPlace} (h : DataW.trod enc Try.prog w base (fun _ => true) held fuel 45 cs = some x) : ∃ y : CredT, cs = Flt.cells y ∧ bulkC y ≤ Rows.uptoBulk x.1 ∧ True := by
  have hS := Try.underlying45
  obtain ⟨xs, n, hx, hl, hlen, hf⟩ := trod_fields hS h
  rw [show Try.prog.cellsOf 45 = 9 from by kernel_rfl] at hl
  obtain ⟨y0, e0, h0⟩ := hf 0 _ rfl
  obtain ⟨y1, e1, h1⟩ := hf 1 _ rfl
  obtain ⟨y2, e2, h2⟩ := hf 2 _ rfl
  obtain ⟨y3, e3, h3⟩ := hf 3 _ rfl
  obtain ⟨y4, e4, h4⟩ := hf 4 _ rfl
  obtain ⟨y5, e5, h5⟩ := hf 5 _ rfl
  change DataW.trod enc Try.prog w base (fun _ => true) held n 3 ((cs.drop 0).take (Try.prog.cellsOf 3)) = some y0 at h0
  change DataW.trod enc Try.prog w base (fun _ => true) held n 43 ((cs.drop 1).take (Try.prog.cellsOf 43)) = some y1 at h1
  change DataW.trod enc Try.prog w base (fun _ => true) held n 9 ((cs.drop 3).take (Try.prog.cellsOf 9)) = some y2 at h2
  change DataW.trod enc Try.prog w base (fun _ => true) held n 43 ((cs.drop 4).take (Try.prog.cellsOf 43)) = some y3 at h3
  change DataW.trod enc Try.prog w base (fun _ => true) held n 43 ((cs.drop 6).take (Try.prog.cellsOf 43)) = some y4 at h4
  change DataW.trod enc Try.prog w base (fun _ => true) held n 9 ((cs.drop 8).take (Try.prog.cellsOf 9)) = some y5 at h5
  have k1 : Try.prog.cellsOf 3 = 1 := by kernel_rfl
  have k2 : Try.prog.cellsOf 43 = 2 := by kernel_rfl
  have k3 : Try.prog.cellsOf 9 = 1 := by kernel_rfl
  rw [k1] at h0
  rw [k2] at h1 h3 h4
  rw [k3] at h2 h5
  have hl6 : xs.length = 6 := hlen
  match cs, hl, xs, hl6 with
  | [c0, c1, c2, c3, c4, c5, c6, c7, c8], _, [z0, z1, z2, z3, z4, z5], _ =>
    simp at e0 e1 e2 e3 e4 e5
    subst e0 e1 e2 e3 e4 e5
    simp only [List.drop_succ_cons, List.drop_zero, List.take_succ_cons, List.take_zero] at h0 h1 h2 h3 h4 h5
    obtain ⟨i0, q0, rfl, _⟩ := DataW.trod_int Try.underlying3 h0
    obtain ⟨r1, q1, b1⟩ := trod_role Try.underlying43 (by kernel_rfl) rfl rfl (by kernel_rfl) (by kernel_rfl) Try.underlying9 Try.underlying9 h1
    obtain ⟨s2, q2, rfl, _⟩ := DataW.trod_string Try.underlying9 h2
    obtain ⟨r3, q3, b3⟩ := trod_role Try.underlying43 (by kernel_rfl) rfl rfl (by kernel_rfl) (by kernel_rfl) Try.underlying9 Try.underlying9 h3
    obtain ⟨r4, q4, b4⟩ := trod_role Try.underlying43 (by kernel_rfl) rfl rfl (by kernel_rfl) (by kernel_rfl) Try.underlying9 Try.underlying9 h4
    obtain ⟨s5, q5, rfl, _⟩ := DataW.trod_string Try.underlying9 h5
    simp at q0 q1 q2 q3 q4 q5
    obtain ⟨⟨s2⟩⟩ := s2
    obtain ⟨⟨s5⟩⟩ := s5
    refine ⟨⟨i0, r1, s2, r3, r4, s5⟩, ?_, ?_, trivial⟩
    · rw [q0, q1.1, q1.2, q2, q3.1, q3.2, q4.1, q4.2, q5]; rfl
    · rw [hx]
      simp only [List.map_cons, List.map_nil, Rows.uptoBulk, Rows.uptoBulkAll, b1, b3, b4, bulkC]
      simp [Rows.uptoBulk]
      omega
  | [], hl, _, _ => simp at hl
end
end Go.Proofs.Ytinfkenbjoddlaa

namespace Go.Proofs.Ytinfkenbjoddlaa
set_option linter.unusedSimpArgs false
set_option linter.unusedVariables false
open Go Go.RowKit Go.ChangeShapes Go.WideShapes Go.ChangeAt
section
variable {H : Type} {enc : TypeId × Value → H} {P : Program} {w : World} {base : Nat} {held : Bool}
theorem open_ints {m : Nat} {r : Reach} {b0 : Nat} {t e : TypeId} {v : Value} {d : DataW H} {p : List MemPlace} (ht : P.underlying t = some (.array m e)) (he : P.underlying e = some (.int .i64)) (ce : P.cellsOf e = 1) (ct : P.cellsOf t = m)
    (hv : Value.okWide P w r b0 t v) (h : DataW.Trod enc P w base (fun _ => true) held t v d p) : ∃ cs : List Value, v = .agg cs.toArray ∧ cs.length = m ∧ ∀ (i : Nat) (c : Value), cs[i]? = some c → ∃ x : Int, c = Value.int .i64 x ∧ (Lit.int .i64 x).wf = true := by
  obtain ⟨cs, rfl, hsz⟩ : ∃ cs, v = .agg cs ∧ cs.size = P.cellsOf t := by
    simp only [Value.okWide, ht] at hv
    obtain ⟨cs, h1, h2, _⟩ := hv
    exact ⟨cs, h1, h2⟩
  obtain ⟨fuel, hf⟩ := h
  obtain ⟨ys, n, _, _, _, hl, hel⟩ := DataW.trod_array ht hf
  rw [ct] at hsz
  obtain ⟨l⟩ := cs
  have hlen : l.length = m := by simpa using hsz
  refine ⟨l, rfl, hlen, fun i c hi => ?_⟩
  have him : i < m := by have := (List.getElem?_eq_some_iff.1 hi).1; omega
  have h1 := hel i him
  rw [ce, Nat.mul_one, List.getElem?_eq_getElem (by omega)] at h1
  have e1 : (((Value.agg ⟨l⟩).cells.toList).drop i).take 1 = [c] := by
    have hil : i < l.length := by omega
    have hc : l[i] = c := by rw [List.getElem?_eq_getElem hil] at hi; injection hi
    simp only [Value.cells]
    rw [List.drop_eq_getElem_cons hil, hc]
    rfl
  rw [e1] at h1
  obtain ⟨x, q, _, hw⟩ := DataW.trod_int he h1
  simp at q
  exact ⟨x, q, hw⟩
theorem open_int2 {r : Reach} {b0 : Nat} {t e : TypeId} {v : Value} {d : DataW H} {p : List MemPlace} (ht : P.underlying t = some (.array 2 e)) (he : P.underlying e = some (.int .i64)) (ce : P.cellsOf e = 1) (ct : P.cellsOf t = 2)
    (hv : Value.okWide P w r b0 t v) (h : DataW.Trod enc P w base (fun _ => true) held t v d p) : ∃ x y, v = .agg #[.int .i64 x, .int .i64 y] ∧ (Lit.int .i64 x).wf = true ∧ (Lit.int .i64 y).wf = true := by
  obtain ⟨cs, rfl, hl, hc⟩ := open_ints ht he ce ct hv h
  match cs, hl with
  | [c0, c1], _ =>
    obtain ⟨x, rfl, hx⟩ := hc 0 c0 rfl
    obtain ⟨y, rfl, hy⟩ := hc 1 c1 rfl
    exact ⟨x, y, rfl, hx, hy⟩
end
end Go.Proofs.Ytinfkenbjoddlaa
