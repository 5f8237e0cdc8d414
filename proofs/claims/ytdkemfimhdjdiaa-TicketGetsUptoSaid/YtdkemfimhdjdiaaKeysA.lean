/- Keys: which lists of them are a registry's. -/
import Derived.Test.YtdkemfimhdjdiaaCell
import Derived.Test.YtdkemfimhdjdiaaMapS
namespace Go.Proofs.Ytdkemfimhdjdiaa
set_option linter.unusedSimpArgs false
set_option linter.unusedVariables false
open Go Go.RowKit
/-- A key as it lies, and what its bytes read as. -/
structure KeyT where
  who : List UInt8
  a : Option Addr
  n : Nat
  c : Nat
  xs : List UInt8
deriving Inhabited
instance fltKey : Flt KeyT := ⟨2, fun k => [S k.who, .slice k.a k.n k.c], fun _ => rfl, by decide, fun x u hu => by simp at hu; rcases hu with rfl | rfl <;> rfl⟩
theorem fltKey_k : Flt.k KeyT = 2 := rfl
theorem Fl.key {w : World} {a : Option Addr} {n : Nat} {xs : List KeyT} (h : Fl w a n xs) (h0 : 0 < n) : ∃ b off, a = some ⟨b, off, none⟩ ∧ ∀ j x, xs[j]? = some x → w.cell? ⟨b, off + j * 2, none⟩ = some (S x.who) ∧ w.cell? ⟨b, off + j * 2 + 1, none⟩ = some (.slice x.a x.n x.c) := by
  obtain ⟨b, off, rfl, hc⟩ := h.2 h0
  refine ⟨b, off, rfl, fun j x hj => ⟨?_, ?_⟩⟩
  · have := hc j x hj 0 _ rfl
    simpa [fltKey_k] using this
  · have := hc j x hj 1 _ rfl
    simpa [fltKey_k] using this
def KOk (W : World) (k : KeyT) : Prop := (k.n ≤ k.c ∧ k.c ≤ maxLen) ∧ By W k.a k.n k.xs
/-- What is wrong with a list, ahead of which these names stand. -/
def keyErrF : List (List UInt8) → List KeyT → Int
  | _, [] => 0
  | pre, k :: l => if nameR k.who = false then 30 else if k.n < 1 ∨ 32 < k.n then 21 else if k.who ∈ pre then 41 else keyErrF (pre ++ [k.who]) l
def keyErr (l : List KeyT) : Int := keyErrF [] l
def whos (l : List KeyT) : List (List UInt8) := l.map (·.who)
theorem keyErr_at {l : List KeyT} {j : Nat} (hj : j < l.length) : keyErrF (whos (l.take j)) (l.drop j) = if nameR l[j].who = false then 30 else if l[j].n < 1 ∨ 32 < l[j].n then 21 else if l[j].who ∈ whos (l.take j) then 41 else keyErrF (whos (l.take (j + 1))) (l.drop (j + 1)) := by
  rw [List.drop_eq_getElem_cons hj, keyErrF]
  congr 3
  rw [← List.take_append_getElem hj]
  simp only [whos, List.map_append, List.map_cons, List.map_nil]
end Go.Proofs.Ytdkemfimhdjdiaa
