/- More on pieces of memory; tape.Read over them. -/
import Derived.Test.YtcminppmmhinjaaSepT
import Derived.Test.YtcminppmmhinjaaRead
namespace Go.Proofs.Ytcminppmmhinjaa
set_option linter.unusedSimpArgs false
set_option linter.unusedVariables false
open Go Go.RowKit
section
variable {fr al : Nat → Prop} {w0 w w' : World} {L : List It}
theorem Own.dropLast {J : It} (st : Own fr al w0 (L ++ [J]) w) : Own fr al w0 L w := by
  obtain ⟨hm, e, s, F⟩ := st
  have hl : ∀ {j}, j < L.length → j < (L ++ [J]).length := fun h => by simp; omega
  exact ⟨hm, e, s, fun j I hj => F.holds j I (by rw [List.getElem?_append_left (get_lt hj)]; exact hj), fun j b hj => F.lo j b (hl hj), fun j b hj => F.fr j b (hl hj), fun j b hj => F.al j b (hl hj),
    fun j k b hj hk => F.ee j k b (hl hj) (hl hk), fun j k b hj hk => F.es j k b (hl hj) (hl hk)⟩
/-- The frame rule for all items but the last one. -/
theorem Own.pre {J : It} (st : Own fr al w0 (L ++ [J]) w) : ∃ fr' al' : Nat → Prop, Own fr' al' w L w ∧ ∀ M w', Own fr' al' w M w' → Own fr al w0 (M ++ [J]) w' := by
  obtain ⟨hm, e, s, F⟩ := st
  have hl : ∀ {j}, j < L.length → j < (L ++ [J]).length := fun h => by simp; omega
  have hn : L.length < (L ++ [J]).length := by simp
  refine ⟨fun b => ∃ i, i < L.length ∧ e i b, fun b => ∃ i, i < L.length ∧ (e i b ∨ s i b), ⟨MutO.refl _ _, e, s, fun j I hj => F.holds j I (by rw [List.getElem?_append_left (get_lt hj)]; exact hj), fun j b hj => F.lo j b (hl hj), fun j b hj hb _ => ⟨j, hj, hb⟩, fun j b hj hb _ => ⟨j, hj, hb⟩,
    fun j k b hj hk => F.ee j k b (hl hj) (hl hk), fun j k b hj hk => F.es j k b (hl hj) (hl hk)⟩, ?_⟩
  rintro M w' ⟨hm', eM, sM, G⟩
  have hle := hm.size
  have z : ∀ {j}, j < (M ++ [J]).length → j < M.length ∨ j = M.length := fun {j} h => by simp at h; omega
  have hfar : ∀ {b}, (e L.length b ∨ s L.length b) → ¬ ∃ i, i < L.length ∧ e i b := fun {b} hb ⟨i, hi, he⟩ => by
    rcases hb with hb | hb
    · exact F.ee i L.length b (hl hi) hn (by omega) he hb
    · exact F.es i L.length b (hl hi) hn he hb
  have hfar' : ∀ {b}, e L.length b → ¬ ∃ i, i < L.length ∧ (e i b ∨ s i b) := fun {b} hb ⟨i, hi, he⟩ => by
    rcases he with he | he
    · exact F.ee i L.length b (hl hi) hn (by omega) he hb
    · exact F.es L.length i b hn (hl hi) hb he
  refine ⟨hm.trans hm' fun b hb ⟨i, hi, he⟩ => F.fr i b (hl hi) he hb, fun j => if j < M.length then eM j else e L.length, fun j => if j < M.length then sM j else s L.length, fun j I hj => ?_, fun j b hj hb => ?_, fun j b hj hb hb0 => ?_, fun j b hj hb hb0 => ?_, fun j k b hj hk hjk hb hb' => ?_, fun j k b hj hk hb hb' => ?_⟩
  · rcases z (get_lt hj) with h | h
    · rw [List.getElem?_append_left h] at hj
      simp only [h, if_true]
      exact G.holds j I hj
    · subst h
      simp at hj
      subst hj
      simp only [Nat.lt_irrefl, if_false]
      exact J.st (F.holds L.length J (by simp)) fun b hb => hm'.block b (F.lo _ b hn hb) (hfar hb)
  · rcases z hj with h | h
    · simp only [h, if_true] at hb
      exact G.lo j b h hb
    · subst h
      simp only [Nat.lt_irrefl, if_false] at hb
      exact Nat.lt_of_lt_of_le (F.lo _ b hn hb) hm'.size
  · rcases z hj with h | h
    · simp only [h, if_true] at hb
      obtain ⟨i, hi, he⟩ := G.fr j b h hb (by omega)
      exact F.fr i b (hl hi) he hb0
    · subst h
      simp only [Nat.lt_irrefl, if_false] at hb
      exact F.fr _ b hn hb hb0
  · rcases z hj with h | h
    · simp only [h, if_true] at hb
      obtain ⟨i, hi, he⟩ := G.al j b h hb (by omega)
      exact F.al i b (hl hi) he hb0
    · subst h
      simp only [Nat.lt_irrefl, if_false] at hb
      exact F.al _ b hn hb hb0
  · rcases z hj with h | h <;> rcases z hk with h' | h'
    · simp only [h, h', if_true] at hb hb'
      exact G.ee j k b h h' hjk hb hb'
    · subst h'
      simp only [h, if_true, Nat.lt_irrefl, if_false] at hb hb'
      exact hfar (.inl hb') (G.fr j b h hb (F.lo _ b hn (.inl hb')))
    · subst h
      simp only [h', if_true, Nat.lt_irrefl, if_false] at hb hb'
      exact hfar (.inl hb) (G.fr k b h' hb' (F.lo _ b hn (.inl hb)))
    · omega
  · rcases z hj with h | h <;> rcases z hk with h' | h'
    · simp only [h, h', if_true] at hb hb'
      exact G.es j k b h h' hb hb'
    · subst h'
      simp only [h, if_true, Nat.lt_irrefl, if_false] at hb hb'
      exact hfar (.inr hb') (G.fr j b h hb (F.lo _ b hn (.inr hb')))
    · subst h
      simp only [h', if_true, Nat.lt_irrefl, if_false] at hb hb'
      exact hfar' hb (G.al k b h' (.inr hb') (F.lo _ b hn (.inl hb)))
    · subst h
      simp only [h', Nat.lt_irrefl, if_false] at hb hb'
      exact F.es _ _ b hn hn hb hb'
end
/-- Two items in one. -/
def sepI (I J : It) : It where
  P e s w := ∃ e1 e2 s1 s2 : Nat → Prop, I.P e1 s1 w ∧ J.P e2 s2 w ∧ (∀ b, e1 b → e b) ∧ (∀ b, e2 b → e b) ∧ (∀ b, s1 b → s b) ∧ (∀ b, s2 b → s b) ∧ ∀ b, e1 b → ¬ e2 b
  st := by
    rintro e s w w' ⟨e1, e2, s1, s2, h1, h2, h3, h4, h5, h6, h7⟩ hag
    exact ⟨e1, e2, s1, s2, I.st h1 fun b hb => hag b (hb.imp (h3 b) (h5 b)), J.st h2 fun b hb => hag b (hb.imp (h4 b) (h6 b)), h3, h4, h5, h6, h7⟩
  facts w := I.facts w ∧ J.facts w
  ok := fun ⟨_, _, _, _, h1, h2, _⟩ => ⟨I.ok h1, J.ok h2⟩
def exI {α : Type} (F : α → It) : It where
  P e s w := ∃ x, (F x).P e s w
  st := fun ⟨x, h⟩ hag => ⟨x, (F x).st h hag⟩
  facts _ := True
  ok := fun _ => trivial
section
variable {fr al : Nat → Prop} {w0 w w' : World} {L : List It}
theorem Own.unex (st : Own fr al w0 L w) {i : Nat} {α : Type} {F : α → It} (hi : L[i]? = some (exI F)) : ∃ x, Own fr al w0 (L.set i (F x)) w := by
  obtain ⟨hm, e, s, G⟩ := st
  obtain ⟨x, hx⟩ := G.holds i _ hi
  exact ⟨x, G.upd hm hi fun _ h2 h3 => ⟨e i, s i, hx, fun b hb => ⟨h2 b (.inl hb), .inl hb⟩, fun b hb => ⟨h2 b (.inr hb), .inr (.inl hb)⟩, h3, MutO.refl _ _⟩⟩
theorem Own.ex (st : Own fr al w0 L w) {i : Nat} {α : Type} {F : α → It} (x : α) (hi : L[i]? = some (F x)) : Own fr al w0 (L.set i (exI F)) w :=
  st.conv hi fun e s h h3 => ⟨e, s, ⟨x, h⟩, fun _ q => q, fun _ q => .inr q, h3⟩
theorem Own.split (st : Own fr al w0 L w) {i : Nat} {I J : It} (hi : L[i]? = some (sepI I J)) : Own fr al w0 (L.set i I ++ [J]) w := by
  obtain ⟨hm, e, s, G⟩ := st
  obtain ⟨e1, e2, s1, s2, h1, h2, h3, h4, h5, h6, h7⟩ := G.holds i _ hi
  have hil := get_lt hi
  have z : ∀ {j}, j < (L.set i I ++ [J]).length → j < L.length ∨ j = L.length := fun {j} h => by simp at h; omega
  have hle : ∀ j b, (if j = L.length then e2 b else if j = i then e1 b else e j b) → e (if j = L.length then i else j) b := fun j b hb => by
    by_cases h : j = L.length
    · simp only [h, if_true] at hb ⊢; exact h4 b hb
    · simp only [h, if_false] at hb ⊢
      by_cases h' : j = i
      · simp only [h', if_true] at hb ⊢; exact h3 b hb
      · simp only [h', if_false] at hb; exact hb
  have hls : ∀ j b, (if j = L.length then s2 b else if j = i then s1 b else s j b) → s (if j = L.length then i else j) b := fun j b hb => by
    by_cases h : j = L.length
    · simp only [h, if_true] at hb ⊢; exact h6 b hb
    · simp only [h, if_false] at hb ⊢
      by_cases h' : j = i
      · simp only [h', if_true] at hb ⊢; exact h5 b hb
      · simp only [h', if_false] at hb; exact hb
  have hlt : ∀ {j}, j < (L.set i I ++ [J]).length → (if j = L.length then i else j) < L.length := fun {j} hj => by
    rcases z hj with h | h
    · rw [if_neg (by omega)]; exact h
    · rw [if_pos h]; exact hil
  refine ⟨hm, fun j b => if j = L.length then e2 b else if j = i then e1 b else e j b, fun j b => if j = L.length then s2 b else if j = i then s1 b else s j b, fun j K hj => ?_, fun j b hj hb => G.lo _ b (hlt hj) (hb.imp (hle j b) (hls j b)), fun j b hj hb => G.fr _ b (hlt hj) (hle j b hb),
    fun j b hj hb => G.al _ b (hlt hj) (hb.imp (hle j b) (hls j b)), fun j k b hj hk hjk hb hb' => ?_, fun j k b hj hk hb hb' => G.es _ _ b (hlt hj) (hlt hk) (hle j b hb) (hls k b hb')⟩
  · rcases z (get_lt hj) with h | h
    · rw [List.getElem?_append_left (by simpa using h), List.getElem?_set] at hj
      have hn : j ≠ L.length := by omega
      by_cases hji : j = i
      · subst hji
        simp [hil] at hj
        subst hj
        simpa [hn] using h1
      · rw [if_neg (Ne.symm hji)] at hj
        simpa [hn, hji] using G.holds j K hj
    · subst h
      simp at hj
      subst hj
      simpa using h2
  · rcases z hj with h | h <;> rcases z hk with h' | h'
    · have hn : j ≠ L.length := by omega
      have hn' : k ≠ L.length := by omega
      have q1 := hle j b hb
      have q2 := hle k b hb'
      simp only [hn, hn', if_false] at q1 q2
      exact G.ee j k b h h' hjk q1 q2
    · subst h'
      have hn : j ≠ L.length := by omega
      by_cases hji : j = i
      · subst hji
        simp only [hn, if_false, if_true] at hb hb'
        exact h7 b hb hb'
      · have q1 := hle j b hb
        have q2 := hle L.length b hb'
        simp only [hn, if_false, if_true] at q1 q2
        exact G.ee j i b h hil hji q1 q2
    · subst h
      have hn : k ≠ L.length := by omega
      by_cases hji : k = i
      · subst hji
        simp only [hn, if_false, if_true] at hb hb'
        exact h7 b hb' hb
      · have q1 := hle L.length b hb
        have q2 := hle k b hb'
        simp only [hn, if_false, if_true] at q1 q2
        exact G.ee i k b hil h' (Ne.symm hji) q1 q2
    · omega
end

/-- How the function that Read was given ends, and what is then asked. -/
def RdB (fr al : Nat → Prop) (w1 : World) (r : Nat) (R : Int → List It → Prop) (en : Ending) (w2 : World) : Prop :=
  (∃ v ys M, en = .returned v ∧ R (if ys = [] then 0 else 13) M ∧ Own fr al w1 (rdI r ys :: M) w2) ∨
  (∃ e older M, en = .panicked ({ v := failV r e, recovered := false } :: older) ∧ older.dropWhile (!·.goexit) = [] ∧ R e M ∧ Own fr al w1 (rdAnyI r :: M) w2)
theorem over_back {fr al : Nat → Prop} {w0 w2 W : World} {p r : Nat} {x : Value} {I : It} {M : List It} (hI : ∀ e s, I.P e s w2 → e r) (st : Own fr al w0 (I :: M ++ [blkI p [x]]) w2) (hW : RdOver W r) (hm : MutO (RdFp p r) w2 W) : Own fr al w0 (rdOverI r :: M) W := by
  have hlen : (I :: M ++ [blkI p [x]]).length = M.length + 2 := by simp
  obtain ⟨fr', al', st', back⟩ := st.sub [0, M.length + 1] (by simp) (by rw [hlen]; simp)
  have hp : pick (I :: M ++ [blkI p [x]]) [0, M.length + 1] = [I, blkI p [x]] := by simp [pick]
  rw [hp] at st'
  obtain ⟨hm0, e, s, F⟩ := st'
  have hr := hI _ _ (F.holds 0 _ rfl)
  have hpp := (F.holds 1 _ rfl).1
  have hrl := F.lo 0 r (by simp) (.inl hr)
  have hpl := F.lo 1 p (by simp) (.inl hpp)
  have hfr : ∀ k, RdFp p r k → fr' k := fun k hk => by
    rcases hk with rfl | rfl
    · exact F.fr 1 _ (by simp) hpp hpl
    · exact F.fr 0 _ (by simp) hr hrl
  have hal : al' r := F.al 0 _ (by simp) (.inl hr) hrl
  have h1 : Own fr' al' w2 [rdOverI r, nullI] W := Own.mk2 (hm.mono hfr) (e := fun k => k = r) (s := fun _ => False) (f := fun _ => False) (t := fun _ => False) ⟨rfl, hW⟩ trivial
    (fun b hb => by rcases hb with (rfl | q) | q | q; exact Nat.lt_of_lt_of_le hrl hm.size; exact q.elim; exact q.elim; exact q.elim)
    (fun b hb _ => by rcases hb with rfl | q; exact hfr _ (.inr rfl); exact q.elim)
    (fun b hb _ => by rcases hb with (rfl | q) | q | q; exact hal; exact q.elim; exact q.elim; exact q.elim)
    (fun _ _ => ⟨fun q => q, fun q => q, fun q => q⟩) (fun _ q => q.elim)
  have h2 := back _ _ (by simp) h1
  have h3 : putIt (I :: M ++ [blkI p [x]]) [rdOverI r, nullI] 0 [0, M.length + 1] = (rdOverI r :: M) ++ [nullI] := by
    simp [putIt, List.set_append]
  rw [h3] at h2
  exact h2.dropLast
theorem read_c {fr al : Nat → Prop} {w0 w : World} {L : List It} (st : Own fr al w0 L w) {a : Option Addr} {n c : Nat} {xs : List UInt8} (h : By w a n xs) (hc : n ≤ c ∧ c ≤ maxLen) (hn : n ≤ 100000000000) (F : FuncId) (cap : Array Value)
    (hi : ∀ w r, (callFunc F (#[.pointer (some ⟨r, 0, none⟩)] ++ cap)).run Try.prog w = .ok (.enter F (#[.pointer (some ⟨r, 0, none⟩)] ++ cap)) w) (R : Nat → Int → List It → Prop)
    (K : ∀ fr' al' w1 r, w.heap.size ≤ r → Own fr' al' w1 (L ++ [rdI r xs]) w1 → Calls Try.prog F (#[.pointer (some ⟨r, 0, none⟩)] ++ cap) w1 (RdB fr' al' w1 r (R r))) :
    Calls Try.prog 70 #[.slice a n c, .func (.func F) #[] cap] w fun en w' => ∃ r e M, en = .returned (.int .i64 e) ∧ R r e M ∧ Own fr al w0 (rdOverI r :: M) w' := by
  refine read_any w a n c xs F cap _ h hc hn hi fun w1 p r hx hp hpr hwr hb hrd => ?_
  have hrd' := hrd
  obtain ⟨a1, n1, c1, hb1, _⟩ := hrd'
  have hrl := hb1.lt
  have hpl := hb.lt
  have st1 : Own fr al w0 (L ++ [sepI (rdI r xs) (blkI p [.int .i64 0])]) w1 := by
    refine st.new hx (e' := fun k => k = p ∨ k = r) (s' := fun k => p < k ∧ k < w1.heap.size ∧ k ≠ r) ⟨fun k => k = r, fun k => k = p, fun k => p < k ∧ k < w1.heap.size ∧ k ≠ r, fun _ => False, ⟨rfl, ?_⟩, ⟨rfl, hb⟩, fun _ q => .inr q, fun _ q => .inl q, fun _ q => q, fun _ q => q.elim, ?_⟩ ?_ ?_ ?_
    · obtain ⟨a, n, c, h1, h2, h3, h4⟩ := hrd
      exact ⟨a, n, c, h1, h2, h3, fun ad had => ⟨(h4 ad had).1, (h4 ad had).2.1, (h4 ad had).2.2, (h4 ad had).1⟩⟩
    · intro b e1 e2; omega
    · intro b hb; omega
    · intro b hb; omega
    · intro b hb hb'; omega
  have st2 := st1.split (i := L.length) (I := rdI r xs) (J := blkI p [.int .i64 0]) (by simp)
  have e1 : (L ++ [sepI (rdI r xs) (blkI p [.int .i64 0])]).set L.length (rdI r xs) = L ++ [rdI r xs] := by simp [List.set_append]
  rw [e1] at st2
  obtain ⟨fr', al', st3, back⟩ := st2.pre
  refine (K fr' al' w1 r (by omega) st3).mono fun en w2 hen => ?_
  rcases hen with ⟨v, ys, M, h1, h2, h3⟩ | ⟨e, older, M, h1, h2, h3, h4⟩
  · have st4 := back _ _ h3
    obtain ⟨e, s, ⟨_, h5⟩, _⟩ := st4.get (i := 0) (I := rdI r ys) rfl
    refine ⟨st4.blk (i := M.length + 1) (by simp), .inl ⟨s, v, ys, h1, h5, fun W hW hm => ⟨r, _, M, rfl, h2, over_back (I := rdI r ys) (fun _ _ q => q.1) st4 hW hm⟩⟩⟩
  · have st4 := back _ _ h4
    obtain ⟨_, s, ⟨_, h5⟩, _⟩ := st4.get (i := 0) (I := rdAnyI r) rfl
    refine ⟨st4.blk (i := M.length + 1) (by simp), .inr (.inl ⟨e, older, h1, h2, h5, fun W hW hm => ⟨r, _, M, rfl, h3, over_back (I := rdAnyI r) (fun _ _ q => q.1) st4 hW hm⟩⟩)⟩
end Go.Proofs.Ytcminppmmhinjaa
