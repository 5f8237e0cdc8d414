/- A row of operations that came in: []Op as a plain list. -/
import Derived.Test.YtabadgpebhiigaaOpen
import Derived.Deep.Slices
namespace Go.Proofs.Ytabadgpebhiigaa
set_option linter.unusedSimpArgs false
set_option linter.unusedVariables false
open Go Go.RowKit Go.ChangeShapes Go.WideShapes Go.ChangeAt
structure OpT where
  k : Int
  n : Int
  b : List UInt8
/-- An integer of 64 bits. -/
def In64 (x : Int) : Prop := -9223372036854775808 ≤ x ∧ x < 9223372036854775808
def opR : World → Nat → Nat → OpT → Prop := fun w b o x => w.cell? ⟨b, o, none⟩ = some (.int .i64 x.k) ∧ w.cell? ⟨b, o + 1, none⟩ = some (.int .i64 x.n) ∧ In64 x.k ∧ In64 x.n ∧
  ∃ a m c, w.cell? ⟨b, o + 2, none⟩ = some (.slice a m c) ∧ By w a m x.b ∧ m ≤ c ∧ c ≤ maxLen
instance opR_stb : Stb opR := ⟨fun _ _ _ _ _ hx ⟨h1, h2, h3, h4, a, m, c, h5, h6, h7⟩ => ⟨hx.cell h1, hx.cell h2, h3, h4, a, m, c, hx.cell h5, h6.ext hx, h7⟩⟩
theorem i64_bd {x : Int} (h : (Lit.int .i64 x).wf = true) : In64 x := by
  simp [Lit.wf, IntKind.min, IntKind.max, IntKind.signed, IntKind.bits] at h
  unfold In64
  omega
section
variable {H : Type} {enc : TypeId × Value → H} {P : Program} {w : World} {base : Nat} {held : Bool}
theorem by_of_trod {t e : TypeId} {fuel : Nat} {cs : List Value} {x : DataW H × List MemPlace} (ht : P.underlying t = some (.slice e)) (he : P.underlying e = some (.int .u8)) (hE : P.cellsOf e = 1)
    (hf : DataW.trod enc P w base (fun _ => true) held fuel t cs = some x) : ∃ a n c xs, cs = [.slice a n c] ∧ By w a n xs ∧ n ≤ c ∧ c ≤ maxLen := by
  rcases open_ints ht he hE hf with ⟨hcs, _⟩ | ⟨x, l, c, zs, hcs, _, hl, hm, hz, _, hcell, hwz⟩
  · exact ⟨none, 0, 0, [], hcs, By.nil _ _, Nat.le_refl _, by simp [maxLen]⟩
  · obtain ⟨xs, h1, h2, h3⟩ := By.of_row (w := w) (a := some x) (len := l) (cap := c) (zs := zs) (.inr ⟨_, rfl, hl, hm, by simpa using hz, hcell, hwz⟩)
    exact ⟨_, _, _, xs, hcs, h1, h2, h3⟩
theorem open_ops {r : Reach} {b0 : Nat} {t e u : TypeId} {f0 f1 f2 : Field} {v : Value} {d : DataW H} {p : List MemPlace} (ht : P.underlying t = some (.slice e)) (he : P.underlying e = some (.struct #[f0, f1, f2])) (ce : P.cellsOf e = 3)
    (o0 : f0.offset = 0) (o1 : f1.offset = 1) (o2 : f2.offset = 2) (c0 : P.cellsOf f0.type = 1) (c1 : P.cellsOf f1.type = 1) (c2 : P.cellsOf f2.type = 1)
    (t0 : P.underlying f0.type = some (.int .i64)) (t1 : P.underlying f1.type = some (.int .i64)) (t2 : P.underlying f2.type = some (.slice u)) (tu : P.underlying u = some (.int .u8)) (cu : P.cellsOf u = 1)
    (hv : Value.okWide P w r b0 t v) (h : DataW.Trod enc P w base (fun _ => true) held t v d p) : ∃ a n c xs, v = .slice a n c ∧ Arr 3 opR w a n xs ∧ n ≤ c ∧ c ≤ maxLen := by
  obtain ⟨a, n, c, rfl⟩ := okWide_slice ht hv
  obtain ⟨fuel, hf⟩ := h
  rcases Go.Deep.open_slice ht hf with ⟨hcs, _⟩ | ⟨a', len, cap, m, n', D, Pl, hcs, hb, hl, hm, hmm, _, hx⟩
  · simp [Value.cells] at hcs
    obtain ⟨rfl, rfl, rfl⟩ := hcs
    exact ⟨none, 0, 0, [], rfl, ⟨rfl, fun q => by omega⟩, Nat.le_refl _, by simp [maxLen]⟩
  · simp [Value.cells] at hcs
    obtain ⟨rfl, rfl, rfl⟩ := hcs
    rw [ce] at hx
    simp at hmm
    have hel : ∀ i, i < n → ∃ x : OpT, w.cell? (a'.add (i * 3)) = some (.int .i64 x.k) ∧ w.cell? ((a'.add (i * 3)).add 1) = some (.int .i64 x.n) ∧ In64 x.k ∧ In64 x.n ∧ ∃ a m c, w.cell? ((a'.add (i * 3)).add 2) = some (.slice a m c) ∧ By w a m x.b ∧ m ≤ c ∧ c ≤ maxLen := fun i hi => by
      obtain ⟨cs', hc, htr⟩ := hx i (by omega)
      obtain ⟨xs, k, _, _, hcl, hxl, hall⟩ := DataW.trod_struct he htr
      have hcells : ∃ y0 y1 y2, cs' = [y0, y1, y2] ∧ w.cell? (a'.add (i * 3)) = some y0 ∧ w.cell? ((a'.add (i * 3)).add 1) = some y1 ∧ w.cell? ((a'.add (i * 3)).add 2) = some y2 := by
        unfold World.cells? at hc
        by_cases hbb : base ≤ (a'.add (i * 3)).block
        · rw [if_pos hbb] at hc
          have hz : (a'.add (i * 3)).add 0 = a'.add (i * 3) := by simp [Addr.add]
          simp only [show List.range 3 = [0, 1, 2] from rfl, List.mapM_cons, List.mapM_nil, hz, Option.pure_def, Option.bind_eq_bind] at hc
          cases q0 : w.cell? (a'.add (i * 3)) with
          | none => rw [q0] at hc; cases hc
          | some y0 =>
            cases q1 : w.cell? ((a'.add (i * 3)).add 1) with
            | none => rw [q0, q1] at hc; cases hc
            | some y1 =>
              cases q2 : w.cell? ((a'.add (i * 3)).add 2) with
              | none => rw [q0, q1, q2] at hc; cases hc
              | some y2 =>
                rw [q0, q1, q2] at hc
                simp at hc
                exact ⟨y0, y1, y2, hc.symm, rfl, rfl, rfl⟩
        · rw [if_neg hbb] at hc; cases hc
      obtain ⟨y0, y1, y2, rfl, e0, e1, e2⟩ := hcells
      simp at hxl
      have g0 := hall 0 f0 rfl
      have g1 := hall 1 f1 rfl
      have g2 := hall 2 f2 rfl
      rw [o0, c0, List.getElem?_eq_getElem (by omega)] at g0
      rw [o1, c1, List.getElem?_eq_getElem (by omega)] at g1
      rw [o2, c2, List.getElem?_eq_getElem (by omega)] at g2
      obtain ⟨k0, q0, _, w0⟩ := DataW.trod_int t0 g0
      obtain ⟨k1, q1, _, w1⟩ := DataW.trod_int t1 g1
      obtain ⟨a2, n2, c2, xs2, q2, hy2, hc2⟩ := by_of_trod t2 tu cu g2
      simp at q0 q1 q2
      subst q0 q1 q2
      exact ⟨⟨k0, k1, xs2⟩, e0, e1, i64_bd w0, i64_bd w1, a2, n2, c2, e2, hy2, hc2⟩
    obtain ⟨f, hF⟩ : ∃ f : Nat → OpT, ∀ i, i < n → (w.cell? (a'.add (i * 3)) = some (.int .i64 (f i).k) ∧ w.cell? ((a'.add (i * 3)).add 1) = some (.int .i64 (f i).n) ∧ In64 (f i).k ∧ In64 (f i).n ∧ ∃ a m c, w.cell? ((a'.add (i * 3)).add 2) = some (.slice a m c) ∧ By w a m (f i).b ∧ m ≤ c ∧ c ≤ maxLen) :=
      ⟨fun i => if h : i < n then (hel i h).choose else ⟨0, 0, []⟩, fun i hi => by simp only [hi, dite_true]; exact (hel i hi).choose_spec⟩
    refine ⟨some a', n, c, (List.range n).map f, rfl, ⟨by simp, fun h0 => ?_⟩, hl, hm⟩
    have hx0 : a'.spot = none := by
      have := (hF 0 h0).1
      simp only [Addr.add, Nat.zero_mul, if_true] at this
      unfold World.cell? at this
      split at this
      · cases hs : a'.spot with
        | none => rfl
        | some q => simp [hs] at this
      · cases this
    obtain ⟨b, off, sp⟩ := a'
    simp at hx0
    subst hx0
    refine ⟨b, off, rfl, fun i x hi => ?_⟩
    obtain ⟨hin, hfx⟩ : i < n ∧ f i = x := by
      have h1 := (List.getElem?_eq_some_iff.1 hi).1
      have h2 := (List.getElem?_eq_some_iff.1 hi).2
      simp at h1 h2
      exact ⟨h1, h2⟩
    subst hfx
    have ha0 : (⟨b, off, none⟩ : Addr).add (i * 3) = ⟨b, off + i * 3, none⟩ := by
      unfold Addr.add; split <;> simp_all
    have h1 := hF i hin
    rw [ha0] at h1
    have ha1 : ∀ j, (⟨b, off + i * 3, none⟩ : Addr).add j = ⟨b, off + i * 3 + j, none⟩ := fun j => by
      unfold Addr.add; split <;> simp_all
    rw [ha1, ha1] at h1
    exact h1
end
end Go.Proofs.Ytabadgpebhiigaa
