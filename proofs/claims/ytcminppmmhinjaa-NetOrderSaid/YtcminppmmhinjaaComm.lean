/- A select of one case with a default, at the head of a region, in a walk. -/
import Derived.Test.YtcminppmmhinjaaSepW
import Derived.Conc.LoneSelect
namespace Go.Proofs.Ytcminppmmhinjaa
set_option linter.unusedSimpArgs false
set_option linter.unusedVariables false
open Go Go.RowKit Go.Conc
section
variable {P : Program} {a : Act} {w w1 : World}
theorem stepG_comm_any {b : Frame} {k : List Item} {cs : List Frame} {ops : Array Oper} {i : Nat} {rest : List Nat} {o : Oper} {cases : Array CommCase} {blocking : Bool} {shape : CommShape} (ho : ops[i]? = some o) (hw : Region.wanted o (yielded ops a.tmps) = true)
    (hr : (execOp a.eval o).run P w = .ok (.comm cases blocking shape) w1) :
    ∃ es, stepG P true (G (b.at a (.inRegion ops (i :: rest) :: k)) cs) w = .comm (G (b.at a (.inRegion ops (i :: rest) :: k)) cs) cases blocking shape w1 es := by
  by_cases hk : b.kind = .early
  · rw [stepG_oper ho hw]
    simp [stepG.apply, hr, G, Frame.at, hk, GStep.after]
  · exact ⟨_, stepG_comm ho hw hk hr⟩
theorem wp_comm {id : Nat} {ops : Array Oper} {o : Oper} {rest : List Oper} {Q : Exit → Act → World → Prop} {cases : Array CommCase} {w2 : World} {v : Value} (hops : ops.toList = o :: rest) (hw : Region.wanted o (yielded ops a.tmps) = true)
    (hr : (execOp a.eval o).run P w = .ok (.comm cases false .select) w1)
    (hs : ∀ fr cs es, stepG P true (G fr cs) w = .comm (G fr cs) cases false .select w1 es → step P (solo (G fr cs) w) = .next (solo (G (fr.finish v) cs) w2))
    (h : wpList P ops Q rest (a.put o.dst v) w2) : (Code.region id ops false).wp P Q a w := by
  intro b k cs
  have h0 : ops[0]? = some o := by rw [← Array.getElem?_toList, hops]; rfl
  have hlen : ops.size = rest.length + 1 := by rw [← Array.length_toList, hops]; rfl
  obtain ⟨es, hg⟩ := stepG_comm_any (b := b) (k := k) (cs := cs) (rest := List.range' 1 rest.length) h0 hw hr
  have hst := hs _ _ _ hg
  rw [Frame.finish_at, h0] at hst
  rw [← wpOps_eq_wpList rest 1 (fun j => by rw [← Array.getElem?_toList, hops, Nat.add_comm]; rfl)] at h
  obtain ⟨e, a', w', hq, harr⟩ := wp_ops _ _ _ h b k cs
  refine ⟨e, a', w', hq, .of_steps (.one step_region) (.of_steps (.one ?_) harr)⟩
  have hrg : List.range ops.size = 0 :: List.range' 1 rest.length := by rw [hlen, List.range_eq_range', List.range'_succ]
  rw [hrg]
  exact hst
end
end Go.Proofs.Ytcminppmmhinjaa
