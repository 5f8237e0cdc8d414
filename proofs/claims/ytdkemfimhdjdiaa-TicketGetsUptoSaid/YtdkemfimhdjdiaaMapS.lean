/- A map of one's own, keyed by strings. -/
import Derived.Test.YtdkemfimhdjdiaaSepW
import Derived.Test.YtdkemfimhdjdiaaRow
import Derived.MapKept
namespace Go.Proofs.Ytdkemfimhdjdiaa
set_option linter.unusedSimpArgs false
set_option linter.unusedVariables false
open Go Go.RowKit
/-- What lies at a key. -/
def mGet (es : List (List UInt8 × Value)) (k : List UInt8) : Option Value := (es.find? fun p => k == p.1).map (·.2)
def mapI (b : Nat) (es : List (List UInt8 × Value)) : It where
  P e _ w := e b ∧ ∃ (arr : Array MapEntry) (clock : Nat), w.heap[b]? = some (.map arr clock) ∧ arr.toList.map (fun m => (m.key, m.val)) = es.map fun p => (S p.1, p.2)
  st := fun ⟨h1, arr, clock, h2, h3⟩ hag => ⟨h1, arr, clock, by rw [hag b (.inl h1)]; exact h2, h3⟩
  facts _ := True
  ok := fun _ => trivial
theorem findNow_str (k : List UInt8) : ∀ (l : List MapEntry) (es : List (List UInt8 × Value)) (i : Nat), l.map (fun m => (m.key, m.val)) = es.map (fun p => (S p.1, p.2)) →
    ∃ r, Instr.findNow .string (S k) l i = some r ∧ r.map (·.2) = mGet es k
  | [], [], i, _ => ⟨none, rfl, rfl⟩
  | [], _ :: _, _, h => by simp at h
  | _ :: _, [], _, h => by simp at h
  | m :: l, p :: es, i, h => by
    simp only [List.map_cons, List.cons.injEq, Prod.mk.injEq] at h
    obtain ⟨⟨h1, h2⟩, h3⟩ := h
    have hs : Instr.sameNow .string (S k) m.key = some (k == p.1) := by
      rw [h1]
      simp only [Instr.sameNow, S]
      congr 1
      rw [Bool.eq_iff_iff]
      rw [MapKept.bytes_beq, beq_iff_eq]
      constructor
      · intro q
        injection q with q
        simpa using congrArg Array.toList q
      · intro q; rw [q]
    unfold Instr.findNow
    rw [hs]
    by_cases hk : (k == p.1) = true
    · rw [hk]
      exact ⟨_, rfl, by simp [mGet, List.find?_cons, hk, h2]⟩
    · have hk' : (k == p.1) = false := by simpa using hk
      rw [hk']
      obtain ⟨r, q1, q2⟩ := findNow_str k l es (i + 1) h3
      refine ⟨r, q1, ?_⟩
      rw [q2]
      simp [mGet, List.find?_cons, hk']
section
variable {fr al : Nat → Prop} {w0 w w' : World} {L : List It} {P : Program} {o : Oper} {a : Act} {K : Act → World → Prop} {Q : Exit → Act → World → Prop}
theorem owp_makeMap {t : TypeId} (ho : o.op = .makeMap t none) (st : Own fr al w0 L w) (h : ∀ b w', w.heap.size ≤ b → Own fr al w0 (L ++ [mapI b []]) w' → K (a.put o.dst (.map (some b))) w') : o.wp P a w K Q := by
  refine owp_run (v := .map (some w.heap.size)) (w' := w.alloc (.map #[] 0)) ?_ (h _ _ (Nat.le_refl _) ?_)
  · unfold execOp
    simp only [ho]
    rfl
  · refine st.new (I := mapI w.heap.size []) (e' := fun k => k = w.heap.size) (s' := fun _ => False) (Ext.new w _) ⟨rfl, #[], 0, by show (w.heap.push _)[_]? = _; simp, rfl⟩ ?_ (fun _ q => q.elim) (fun _ _ q => q)
    rintro b rfl
    exact ⟨by show _ < (w.heap.push _).size; simp, Nat.le_refl _⟩
theorem wl_makeMap {ops : Array Oper} {rest : List Oper} {d : Option Tmp} {T : TypeId} {ty : TypeId} {pos : String} {af : Array Edge} {gd : Option (Nat × Bool)} (hg : Region.wanted ⟨d, .makeMap T none, ty, pos, af, gd⟩ (yielded ops a.tmps) = true)
    (h : ∀ K : Act → World → Prop, (∀ a w, wpList P ops Q rest a w → K a w) → Oper.wp P ⟨d, .makeMap T none, ty, pos, af, gd⟩ a w K Q) : wpList P ops Q (⟨d, .makeMap T none, ty, pos, af, gd⟩ :: rest) a w := wpl_at hg h
/-- A look-up. -/
theorem Own.lookS (st : Own fr al w0 L w) {i b : Nat} {es : List (List UInt8 × Value)} (hi : L[i]? = some (mapI b es)) {mty kt et : TypeId} {z : Value} (hm : P.underlying mty = some (.map kt et)) (hk : P.underlying kt = some .string) (hz : (zeroValue et).run P w = .ok z w) (k : List UInt8) :
    (Instr.lookup mty (.map (some b)) (.string ⟨k.toArray⟩) true).run P w = .ok (.tuple #[(mGet es k).getD z, .bool (mGet es k).isSome]) w := by
  obtain ⟨e, s, ⟨_, arr, clock, h2, h3⟩, _⟩ := st.get hi
  obtain ⟨r, q1, q2⟩ := findNow_str k arr.toList es 0 h3
  have hc : ∀ em, (Instr.checkKey em 10000 kt (.string ⟨k.toArray⟩)).run P w = .ok () w := fun em => MapKept.run_checkKey (k := .string ⟨k.toArray⟩) hk (by simp [MapKept.IsKey]) em 9999
  have q1' : Instr.findNow .string (.string ⟨k.toArray⟩) arr.toList 0 = some r := q1
  rw [← q2]
  cases r with
  | none => simp [Instr.lookup, run_underlying hm, MapKept.run_getObj_map h2, hc, MapKept.run_findKey hk q1', hz, Result.andThen]
  | some p => simp [Instr.lookup, run_underlying hm, MapKept.run_getObj_map h2, hc, MapKept.run_findKey hk q1', Result.andThen]
/-- A new key is stored. -/
theorem owp_mapNew {t : TypeId} {x y z : Operand} (ho : o.op = .mapUpdate t x y z) (st : Own fr al w0 L w) (i : Nat) {b : Nat} {es : List (List UInt8 × Value)} {kt et : TypeId} {k : List UInt8} {v : Value} (hi : L[i]? = some (mapI b es)) (hm : P.underlying t = some (.map kt et)) (hk : P.underlying kt = some .string)
    (hx : a.eval x = .map (some b)) (hy : a.eval y = .string ⟨k.toArray⟩) (hz : a.eval z = v) (hn : mGet es k = none)
    (h : ∀ w', Own fr al w0 (L.set i (mapI b (es ++ [(k, v)]))) w' → K (a.put o.dst undef) w') : o.wp P a w K Q := by
  obtain ⟨e, s, ⟨_, arr, clock, h2, h3⟩, _⟩ := st.get hi
  obtain ⟨r, q1, q2⟩ := findNow_str k arr.toList es 0 h3
  have hr : r = none := by
    rw [hn] at q2
    cases r with
    | none => rfl
    | some p => cases q2
  subst hr
  have q1' : Instr.findNow .string (.string ⟨k.toArray⟩) arr.toList 0 = some none := q1
  have hc : (Instr.checkKey false 10000 kt (.string ⟨k.toArray⟩)).run P w = .ok () w := MapKept.run_checkKey (k := .string ⟨k.toArray⟩) hk (by simp [MapKept.IsKey]) false 9999
  have hrun : (Instr.mapUpdate t (.map (some b)) (.string ⟨k.toArray⟩) v).run P w = .ok () { w with heap := w.heap.setIfInBounds b (.map (arr.push { key := .string ⟨k.toArray⟩, val := v, born := clock }) (clock + 1)) } := by
    simp [Instr.mapUpdate, run_underlying hm, MapKept.run_getObj_map h2, hc, MapKept.run_findKey hk q1', MapKept.run_setObj_map _ h2, Result.andThen]
  have hbl : b < w.heap.size := (Array.getElem?_eq_some_iff.1 h2).1
  unfold Oper.wp execOp
  simp only [ho, hx, hy, hz, Sem.run_bind, hrun, Result.andThen, Sem.run_pure]
  refine h _ (st.upd hi fun e s ⟨q1, arr', clock', q2, q3⟩ q4 q5 => ⟨e, s, ⟨q1, arr.push { key := .string ⟨k.toArray⟩, val := v, born := clock }, clock + 1, by simp [hbl], ?_⟩, fun q hq => ⟨by simpa using q4 q (.inl hq), .inl hq⟩, fun q hq => ⟨by simpa using q4 q (.inr hq), .inr (.inl hq)⟩, q5, ?_⟩)
  · simp only [Array.toList_push, List.map_append, h3, List.map_cons, List.map_nil]; rfl
  · refine ⟨rfl, rfl, rfl, by simp, Nat.le_refl _, fun j hj hne => ?_⟩
    have : b ≠ j := fun q => hne (q ▸ q1)
    simp [Array.getElem?_setIfInBounds_ne this]
end
theorem mGet_none {es : List (List UInt8 × Value)} {k : List UInt8} : mGet es k = none ↔ k ∉ es.map (·.1) := by
  unfold mGet
  simp only [Option.map_eq_none_iff, List.find?_eq_none, List.mem_map, not_exists, not_and]
  constructor
  · intro h p hp e; subst e; simpa using h p hp
  · intro h p hp e
    have e' : k = p.1 := by simpa using e
    exact h p hp e'.symm
end Go.Proofs.Ytdkemfimhdjdiaa
