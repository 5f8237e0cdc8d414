/- Roles that came in: one, and a slice of them, of a bounded bulk. -/
import Derived.Test.YtekngjkjgmplpaaOpenF
import Derived.Test.YtekngjkjgmplpaaCredA
import Derived.Deep.Slices
import Derived.ChangeSame
import Derived.Test.YtekngjkjgmplpaaChkS
namespace Go.Proofs.Ytekngjkjgmplpaa
set_option linter.unusedSimpArgs false
set_option linter.unusedVariables false
open Go Go.RowKit Go.ChangeShapes Go.WideShapes Go.ChangeAt
def bulkR (l : List Role) : Nat := (l.map fun r => r.1.length + r.2.length + 3).sum
theorem bulk_list {H : Type} (D : Nat → DataW H) (f : Nat → Role) : ∀ (L : List Nat), (∀ i ∈ L, Rows.uptoBulk (D i) = (f i).1.length + (f i).2.length + 3) → Rows.uptoBulkAll (L.map D) = bulkR (L.map f)
  | [], _ => by simp [Rows.uptoBulkAll, bulkR]
  | i :: L, h => by
    have ih := bulk_list D f L fun j hj => h j (List.mem_cons_of_mem _ hj)
    simp only [List.map_cons, Rows.uptoBulkAll, ih, h i (by simp), bulkR, List.sum_cons]
section
variable {H : Type} {enc : TypeId × Value → H} {P : Program} {w : World} {base : Nat} {held : Bool}
theorem trod_role {t : TypeId} {f0 f1 : Field} {fuel : Nat} {cs : List Value} {x : DataW H × List MemPlace} (ht : P.underlying t = some (.struct #[f0, f1])) (ce : P.cellsOf t = 2) (o0 : f0.offset = 0) (o1 : f1.offset = 1) (c0 : P.cellsOf f0.type = 1) (c1 : P.cellsOf f1.type = 1)
    (t0 : P.underlying f0.type = some .string) (t1 : P.underlying f1.type = some .string) (h : DataW.trod enc P w base (fun _ => true) held fuel t cs = some x) : ∃ r : Role, cs = [S r.1, S r.2] ∧ Rows.uptoBulk x.1 = r.1.length + r.2.length + 3 := by
  obtain ⟨y0, y1, n, rfl, hl, h0, h1⟩ := trod_struct2 ht h
  rw [ce] at hl
  rw [o0, c0] at h0
  rw [o1, c1] at h1
  match cs, hl with
  | [u, v], _ =>
    simp at h0 h1
    obtain ⟨s0, q0, rfl, _⟩ := DataW.trod_string t0 h0
    obtain ⟨s1, q1, rfl, _⟩ := DataW.trod_string t1 h1
    simp at q0 q1
    subst q0 q1
    obtain ⟨⟨s0⟩⟩ := s0
    obtain ⟨⟨s1⟩⟩ := s1
    refine ⟨(s0, s1), rfl, ?_⟩
    simp [Rows.uptoBulk, Rows.uptoBulkAll]
    omega
theorem open_role {r : Reach} {b0 : Nat} {t : TypeId} {f0 f1 : Field} {v : Value} {d : DataW H} {p : List MemPlace} (ht : P.underlying t = some (.struct #[f0, f1])) (ce : P.cellsOf t = 2) (o0 : f0.offset = 0) (o1 : f1.offset = 1) (c0 : P.cellsOf f0.type = 1) (c1 : P.cellsOf f1.type = 1)
    (t0 : P.underlying f0.type = some .string) (t1 : P.underlying f1.type = some .string) (hv : Value.okWide P w r b0 t v) (h : DataW.Trod enc P w base (fun _ => true) held t v d p) : ∃ x : Role, v = rV x ∧ Rows.uptoBulk d = x.1.length + x.2.length + 3 := by
  obtain ⟨cs, rfl, hsz⟩ := okWide_struct ht hv
  obtain ⟨fuel, hf⟩ := h
  obtain ⟨x, h1, h2⟩ := trod_role ht ce o0 o1 c0 c1 t0 t1 hf
  refine ⟨x, ?_, h2⟩
  have : cs.toList = [S x.1, S x.2] := by simpa [Value.cells] using h1
  unfold rV
  congr 1
  apply Array.toList_inj.1
  rw [this]
theorem open_roles {r : Reach} {b0 : Nat} {t e : TypeId} {f0 f1 : Field} {v : Value} {d : DataW H} {p : List MemPlace} (ht : P.underlying t = some (.slice e)) (he : P.underlying e = some (.struct #[f0, f1])) (ce : P.cellsOf e = 2) (o0 : f0.offset = 0) (o1 : f1.offset = 1) (c0 : P.cellsOf f0.type = 1) (c1 : P.cellsOf f1.type = 1)
    (t0 : P.underlying f0.type = some .string) (t1 : P.underlying f1.type = some .string)
    (hv : Value.okWide P w r b0 t v) (h : DataW.Trod enc P w base (fun _ => true) held t v d p) : ∃ a n c xs, v = .slice a n c ∧ Fl w a n (xs : List Role) ∧ (n ≤ c ∧ c ≤ maxLen) ∧ bulkR xs ≤ Rows.uptoBulk d := by
  obtain ⟨a, n, c, rfl⟩ := okWide_slice ht hv
  obtain ⟨fuel, hf⟩ := h
  rcases Go.Deep.open_slice ht hf with ⟨hcs, _⟩ | ⟨a', len, cap, m, n', D, Pl, hcs, hb, hl, hm, hmm, hxe, hx⟩
  · simp [Value.cells] at hcs
    obtain ⟨rfl, rfl, rfl⟩ := hcs
    exact ⟨none, 0, 0, [], rfl, Fl.nil _ _, ⟨Nat.le_refl _, by simp [maxLen]⟩, by simp [bulkR]⟩
  · simp [Value.cells] at hcs
    obtain ⟨rfl, rfl, rfl⟩ := hcs
    rw [ce] at hx
    simp at hmm
    injection hxe with hd hp
    have hel : ∀ i, i < n → ∃ x : Role, (w.cell? (a'.add (i * 2)) = some (S x.1) ∧ w.cell? ((a'.add (i * 2)).add 1) = some (S x.2)) ∧ Rows.uptoBulk (D i) = x.1.length + x.2.length + 3 := fun i hi => by
      obtain ⟨cs', hc, htr⟩ := hx i (by omega)
      obtain ⟨x, h1, h2⟩ := trod_role he ce o0 o1 c0 c1 t0 t1 htr
      subst h1
      refine ⟨x, ?_, h2⟩
      unfold World.cells? at hc
      by_cases hbb : base ≤ (a'.add (i * 2)).block
      · rw [if_pos hbb] at hc
        have hz : (a'.add (i * 2)).add 0 = a'.add (i * 2) := by simp [Addr.add]
        simp only [show List.range 2 = [0, 1] from rfl, List.mapM_cons, List.mapM_nil, hz, Option.pure_def, Option.bind_eq_bind] at hc
        cases q0 : w.cell? (a'.add (i * 2)) with
        | none => rw [q0] at hc; cases hc
        | some y0 =>
          cases q1 : w.cell? ((a'.add (i * 2)).add 1) with
          | none => rw [q0, q1] at hc; cases hc
          | some y1 =>
            rw [q0, q1] at hc
            simp at hc
            obtain ⟨rfl, rfl⟩ := hc
            exact ⟨rfl, rfl⟩
      · rw [if_neg hbb] at hc; cases hc
    obtain ⟨f, hF⟩ : ∃ f : Nat → Role, ∀ i, i < n → (w.cell? (a'.add (i * 2)) = some (S (f i).1) ∧ w.cell? ((a'.add (i * 2)).add 1) = some (S (f i).2)) ∧ Rows.uptoBulk (D i) = (f i).1.length + (f i).2.length + 3 :=
      ⟨fun i => if h : i < n then (hel i h).choose else ([], []), fun i hi => by simp only [hi, dite_true]; exact (hel i hi).choose_spec⟩
    refine ⟨some a', n, c, (List.range n).map f, rfl, ⟨by simp, fun h0 => ?_⟩, ⟨hl, hm⟩, ?_⟩
    · have hx0 : a'.spot = none := by
        have := (hF 0 h0).1.1
        simp only [Addr.add, Nat.zero_mul, if_true] at this
        unfold World.cell? at this
        split at this
        · cases hs : a'.spot with
          | none => rfl
          | some q => simp [hs] at this
        · cases this
      obtain ⟨b, off, sp⟩ := a'
      simp at hx0
      subst hx0
      refine ⟨b, off, rfl, fun i x hi j u hu => ?_⟩
      obtain ⟨hin, hfx⟩ : i < n ∧ f i = x := by
        have h1 := (List.getElem?_eq_some_iff.1 hi).1
        have h2 := (List.getElem?_eq_some_iff.1 hi).2
        simp at h1 h2
        exact ⟨h1, h2⟩
      subst hfx
      have h1 := (hF i hin).1
      rw [addr_add, addr_add] at h1
      rw [fltRole_k]
      match j, hu with
      | 0, hu => cases hu; exact h1.1
      | 1, hu => cases hu; exact h1.2
    · have hb1 := bulk_list D f (List.range n) (fun i hi => (hF i (by simpa using hi)).2)
      rw [← hb1, hd]
      have := bulk_slice (H := H) ((List.range n).map D) ((List.range (m - n)).map fun j => D (n + j))
      omega
end
end Go.Proofs.Ytekngjkjgmplpaa

namespace Go.Proofs.Ytekngjkjgmplpaa
set_option linter.unusedSimpArgs false
set_option linter.unusedVariables false
open Go Go.RowKit Go.ChangeShapes Go.WideShapes Go.ChangeAt
def bulkC (x : CredT) : Nat := 1 + x.h.1.length + x.h.2.length + x.w.length + x.b.1.length + x.b.2.length + x.c.1.length + x.c.2.length + x.e.length
theorem wtC_bulk (x : CredT) : wtC x ≤ 20 * bulkC x := by unfold wtC bulkC; omega
theorem weightC_bulk : ∀ l : List CredT, weightC l ≤ 20 * (l.map bulkC).sum
  | [] => by simp [weightC]
  | x :: l => by have := weightC_bulk l; have := wtC_bulk x; rw [weightC_cons]; simp only [List.map_cons, List.sum_cons]; omega
section
variable {H : Type} {enc : TypeId × Value → H} {P : Program} {w : World} {base : Nat} {held : Bool}
set_option maxRecDepth 100000 in
theorem trod_cred {fuel : Nat} {cs : List Value} {x : DataW H × List MemPlace} (h : DataW.trod enc Try.prog w base (fun _ => true) held fuel 32 cs = some x) : ∃ y : CredT, cs = Flt.cells y ∧ bulkC y ≤ Rows.uptoBulk x.1 ∧ True := by
  have hS := Try.underlying32
  obtain ⟨xs, n, hx, hl, hlen, hf⟩ := trod_fields hS h
  rw [show Try.prog.cellsOf 32 = 9 from by kernel_rfl] at hl
  obtain ⟨y0, e0, h0⟩ := hf 0 _ rfl
  obtain ⟨y1, e1, h1⟩ := hf 1 _ rfl
  obtain ⟨y2, e2, h2⟩ := hf 2 _ rfl
  obtain ⟨y3, e3, h3⟩ := hf 3 _ rfl
  obtain ⟨y4, e4, h4⟩ := hf 4 _ rfl
  obtain ⟨y5, e5, h5⟩ := hf 5 _ rfl
  change DataW.trod enc Try.prog w base (fun _ => true) held n 3 ((cs.drop 0).take (Try.prog.cellsOf 3)) = some y0 at h0
  change DataW.trod enc Try.prog w base (fun _ => true) held n 30 ((cs.drop 1).take (Try.prog.cellsOf 30)) = some y1 at h1
  change DataW.trod enc Try.prog w base (fun _ => true) held n 9 ((cs.drop 3).take (Try.prog.cellsOf 9)) = some y2 at h2
  change DataW.trod enc Try.prog w base (fun _ => true) held n 30 ((cs.drop 4).take (Try.prog.cellsOf 30)) = some y3 at h3
  change DataW.trod enc Try.prog w base (fun _ => true) held n 30 ((cs.drop 6).take (Try.prog.cellsOf 30)) = some y4 at h4
  change DataW.trod enc Try.prog w base (fun _ => true) held n 9 ((cs.drop 8).take (Try.prog.cellsOf 9)) = some y5 at h5
  have k1 : Try.prog.cellsOf 3 = 1 := by kernel_rfl
  have k2 : Try.prog.cellsOf 30 = 2 := by kernel_rfl
  have k3 : Try.prog.cellsOf 9 = 1 := by kernel_rfl
  rw [k1] at h0
  rw [k2] at h1 h3 h4
  rw [k3] at h2 h5
  have hl6 : xs.length = 6 := hlen
  match cs, hl, xs, hl6 with
  | [c0, c1, c2, c3, c4, c5, c6, c7, c8], _, [z0, z1, z2, z3, z4, z5], _ =>
    simp at e0 e1 e2 e3 e4 e5
    subst e0 e1 e2 e3 e4 e5
    simp only [List.drop_succ_cons, List.drop_zero, List.take_succ_cons, List.take_zero] at h0 h1 h2 h3 h4 h5
    obtain ⟨i0, q0, rfl, _⟩ := DataW.trod_int Try.underlying3 h0
    obtain ⟨r1, q1, b1⟩ := trod_role Try.underlying30 (by kernel_rfl) rfl rfl (by kernel_rfl) (by kernel_rfl) Try.underlying9 Try.underlying9 h1
    obtain ⟨s2, q2, rfl, _⟩ := DataW.trod_string Try.underlying9 h2
    obtain ⟨r3, q3, b3⟩ := trod_role Try.underlying30 (by kernel_rfl) rfl rfl (by kernel_rfl) (by kernel_rfl) Try.underlying9 Try.underlying9 h3
    obtain ⟨r4, q4, b4⟩ := trod_role Try.underlying30 (by kernel_rfl) rfl rfl (by kernel_rfl) (by kernel_rfl) Try.underlying9 Try.underlying9 h4
    obtain ⟨s5, q5, rfl, _⟩ := DataW.trod_string Try.underlying9 h5
    simp at q0 q1 q2 q3 q4 q5
    obtain ⟨⟨s2⟩⟩ := s2
    obtain ⟨⟨s5⟩⟩ := s5
    refine ⟨⟨i0, r1, s2, r3, r4, s5⟩, ?_, ?_, trivial⟩
    · rw [q0, q1.1, q1.2, q2, q3.1, q3.2, q4.1, q4.2, q5]; rfl
    · rw [hx]
      simp only [List.map_cons, List.map_nil, Rows.uptoBulk, Rows.uptoBulkAll, b1, b3, b4, bulkC]
      simp [Rows.uptoBulk]
      omega
  | [], hl, _, _ => simp at hl
end
end Go.Proofs.Ytekngjkjgmplpaa

namespace Go.Proofs.Ytekngjkjgmplpaa
set_option linter.unusedSimpArgs false
set_option linter.unusedVariables false
open Go Go.RowKit Go.ChangeShapes Go.WideShapes Go.ChangeAt
def bulkF (x : FactT) : Nat := x.r.1.length + x.r.2.length + x.w.length
def bulkS (x : StepT) : Nat := bulkC x.c + bulkF x.f
theorem wtS_bulk (x : StepT) : wtS x ≤ 20 * bulkS x := by unfold wtS bulkS bulkF; have := wtC_bulk x.c; omega
theorem weightS_bulk : ∀ l : List StepT, weightS l ≤ 20 * (l.map bulkS).sum
  | [] => by simp [weightS]
  | x :: l => by have := weightS_bulk l; have := wtS_bulk x; rw [weightS_cons]; simp only [List.map_cons, List.sum_cons]; omega
section
variable {H : Type} {enc : TypeId × Value → H} {P : Program} {w : World} {base : Nat} {held : Bool}
set_option maxRecDepth 100000 in
theorem trod_fact {fuel : Nat} {cs : List Value} {x : DataW H × List MemPlace} (h : DataW.trod enc Try.prog w base (fun _ => true) held fuel 62 cs = some x) : ∃ y : FactT, cs = Flt.cells y ∧ bulkF y ≤ Rows.uptoBulk x.1 ∧ True := by
  have hS := Try.underlying62
  obtain ⟨xs, n, hx, hl, hlen, hf⟩ := trod_fields hS h
  rw [show Try.prog.cellsOf 62 = 3 from by kernel_rfl] at hl
  obtain ⟨y0, e0, h0⟩ := hf 0 _ rfl
  obtain ⟨y1, e1, h1⟩ := hf 1 _ rfl
  change DataW.trod enc Try.prog w base (fun _ => true) held n 30 ((cs.drop 0).take (Try.prog.cellsOf 30)) = some y0 at h0
  change DataW.trod enc Try.prog w base (fun _ => true) held n 9 ((cs.drop 2).take (Try.prog.cellsOf 9)) = some y1 at h1
  have k2 : Try.prog.cellsOf 30 = 2 := by kernel_rfl
  have k3 : Try.prog.cellsOf 9 = 1 := by kernel_rfl
  rw [k2] at h0
  rw [k3] at h1
  have hl2 : xs.length = 2 := hlen
  match cs, hl, xs, hl2 with
  | [c0, c1, c2], _, [z0, z1], _ =>
    simp at e0 e1
    subst e0 e1
    simp only [List.drop_succ_cons, List.drop_zero, List.take_succ_cons, List.take_zero] at h0 h1
    obtain ⟨r0, q0, b0⟩ := trod_role Try.underlying30 (by kernel_rfl) rfl rfl (by kernel_rfl) (by kernel_rfl) Try.underlying9 Try.underlying9 h0
    obtain ⟨s1, q1, rfl, _⟩ := DataW.trod_string Try.underlying9 h1
    simp at q0 q1
    obtain ⟨⟨s1⟩⟩ := s1
    refine ⟨⟨r0, s1⟩, ?_, ?_, trivial⟩
    · rw [q0.1, q0.2, q1]; rfl
    · rw [hx]
      simp only [List.map_cons, List.map_nil, Rows.uptoBulk, Rows.uptoBulkAll, b0, bulkF]
      simp [Rows.uptoBulk]
      omega
  | [], hl, _, _ => simp at hl
set_option maxRecDepth 100000 in
theorem trod_step {fuel : Nat} {cs : List Value} {x : DataW H × List MemPlace} (h : DataW.trod enc Try.prog w base (fun _ => true) held fuel 66 cs = some x) : ∃ y : StepT, cs = Flt.cells y ∧ bulkS y ≤ Rows.uptoBulk x.1 ∧ True := by
  have hS := Try.underlying66
  obtain ⟨xs, n, hx, hl, hlen, hf⟩ := trod_fields hS h
  rw [show Try.prog.cellsOf 66 = 12 from by kernel_rfl] at hl
  obtain ⟨y0, e0, h0⟩ := hf 0 _ rfl
  obtain ⟨y1, e1, h1⟩ := hf 1 _ rfl
  change DataW.trod enc Try.prog w base (fun _ => true) held n 32 ((cs.drop 0).take (Try.prog.cellsOf 32)) = some y0 at h0
  change DataW.trod enc Try.prog w base (fun _ => true) held n 62 ((cs.drop 9).take (Try.prog.cellsOf 62)) = some y1 at h1
  have k2 : Try.prog.cellsOf 32 = 9 := by kernel_rfl
  have k3 : Try.prog.cellsOf 62 = 3 := by kernel_rfl
  rw [k2] at h0
  rw [k3] at h1
  have hl2 : xs.length = 2 := hlen
  match cs, hl, xs, hl2 with
  | [c0, c1, c2, c3, c4, c5, c6, c7, c8, c9, c10, c11], _, [z0, z1], _ =>
    simp at e0 e1
    subst e0 e1
    simp only [List.drop_succ_cons, List.drop_zero, List.take_succ_cons, List.take_zero] at h0 h1
    obtain ⟨y, q0, b0, _⟩ := trod_cred h0
    obtain ⟨f, q1, b1, _⟩ := trod_fact h1
    refine ⟨⟨y, f⟩, ?_, ?_, trivial⟩
    · simp [Flt.cells] at q0 q1
      obtain ⟨rfl, rfl, rfl, rfl, rfl, rfl, rfl, rfl, rfl⟩ := q0
      obtain ⟨rfl, rfl, rfl⟩ := q1
      rfl
    · rw [hx]
      simp only [List.map_cons, List.map_nil, Rows.uptoBulk, Rows.uptoBulkAll, bulkS]
      omega
  | [], hl, _, _ => simp at hl
end
end Go.Proofs.Ytekngjkjgmplpaa
