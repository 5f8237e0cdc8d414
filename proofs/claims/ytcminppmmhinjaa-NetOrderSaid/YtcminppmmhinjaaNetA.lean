/- A channel of byte slices, as a piece of memory. -/
import Derived.Test.YtcminppmmhinjaaComm
import Derived.Test.YtcminppmmhinjaaLogA
import Derived.Test.YtcminppmmhinjaaNewRow
import Derived.Conc.LoneSelectN
namespace Go.Proofs.Ytcminppmmhinjaa
set_option linter.unusedSimpArgs false
set_option linter.unusedVariables false
open Go Go.RowKit Go.Conc
/-- A byte slice as it lies, and what it reads as. -/
structure FrT where
  a : Option Addr
  n : Nat
  c : Nat
  xs : List UInt8
deriving Inhabited
def frV (x : FrT) : Value := .slice x.a x.n x.c
instance fltFr : Flt FrT := ⟨1, fun x => [frV x], fun _ => rfl, by decide, fun x u hu => by simp at hu; subst hu; rfl⟩
def frOk (s : Nat → Prop) (w : World) (x : FrT) : Prop := (x.n ≤ x.c ∧ x.c ≤ maxLen) ∧ By w x.a x.n x.xs ∧ (0 < x.n → ∀ ad, x.a = some ad → s ad.block)
theorem frOk.agree {s : Nat → Prop} {w w' : World} {x : FrT} (h : frOk s w x) (hag : ∀ b, s b → w'.heap[b]? = w.heap[b]?) : frOk s w' x := ⟨h.1, h.2.1.agree fun h0 ad had => hag _ (h.2.2 h0 ad had), h.2.2⟩
theorem frOk.mono {s s' : Nat → Prop} {w : World} {x : FrT} (h : frOk s w x) (hs : ∀ b, s b → s' b) : frOk s' w x := ⟨h.1, h.2.1, fun h0 ad had => hs _ (h.2.2 h0 ad had)⟩
/-- A channel of one's own with room for 64, the bytes of what flies. -/
def chI (c : Nat) (bss : List (List UInt8)) : It where
  P e s w := e c ∧ ∃ xs : List FrT, xs.map (·.xs) = bss ∧ (∃ sn r, w.heap[c]? = some (.chan 64 (xs.map frV).toArray false sn r false)) ∧ ∀ x ∈ xs, frOk s w x
  st := by
    rintro e s w w' ⟨h1, xs, h2, ⟨sn, r, h3⟩, h4⟩ hag
    exact ⟨h1, xs, h2, ⟨sn, r, by rw [hag c (.inl h1)]; exact h3⟩, fun x hx => (h4 x hx).agree fun b hb => hag b (.inr hb)⟩
  facts _ := True
  ok := fun _ => trivial
def chByI (c : Nat) (bss : List (List UInt8)) (a : Option Addr) (n : Nat) (bs : List UInt8) : It where
  P e s w := (chI c bss).P e s w ∧ (byI a n bs).P e s w
  st := fun ⟨h1, h2⟩ hag => ⟨(chI c bss).st h1 hag, (byI a n bs).st h2 hag⟩
  facts _ := True
  ok := fun _ => trivial
theorem mut_setChan (w : World) (c cap : Nat) (buf : Array Value) (cl : Bool) (s r : Nat) (tm : Bool) : MutO (fun k => k = c) w (w.setChan c cap buf cl s r tm) :=
  ⟨rfl, rfl, rfl, by simp [World.setChan], Nat.le_refl _, fun k _ hn => by simp only [World.setChan]; rw [Array.getElem?_setIfInBounds_ne (Ne.symm hn)]⟩
theorem setChan_ne (w : World) (c b cap : Nat) (buf : Array Value) (cl : Bool) (s r : Nat) (tm : Bool) (h : b ≠ c) : (w.setChan c cap buf cl s r tm).heap[b]? = w.heap[b]? := by
  simp only [World.setChan]; rw [Array.getElem?_setIfInBounds_ne (Ne.symm h)]
section
variable {fr al : Nat → Prop} {w0 w : World} {L : List It} {c sn r : Nat} {buf : Array Value} {bs : List UInt8} {bss : List (List UInt8)}
theorem Own.chBuf (st : Own fr al w0 L w) {i : Nat} (hi : L[i]? = some (chI c bss)) : ∃ buf sn r, w.heap[c]? = some (.chan 64 buf false sn r false) ∧ buf.size = bss.length := by
  obtain ⟨e, s, ⟨_, xs, h2, ⟨sn, r, h3⟩, _⟩, _⟩ := st.get hi
  exact ⟨_, sn, r, h3, by rw [← h2]; simp⟩
theorem Own.chSend (st : Own fr al w0 L w) {i j n cc : Nat} {a : Option Addr} (hi : L[i]? = some (chI c bss)) (hj : L[j]? = some (byI a n bs)) (hij : i ≠ j) (hb : w.heap[c]? = some (.chan 64 buf false sn r false)) (hc : n ≤ cc ∧ cc ≤ maxLen) :
    Own fr al w0 ((L.set i (chI c (bss ++ [bs]))).set j nullI) (w.setChan c 64 (buf.push (.slice a n cc)) false (sn + 1) r false) := by
  have s2 := st.conv2 (K := chByI c bss a n bs) hi hj hij fun e s e' s' ⟨h1, xs, h2, h3, h4⟩ ⟨h5, h6⟩ hd1 hd2 => ⟨fun b => e b ∨ e' b, fun b => s b ∨ s' b,
    ⟨⟨.inl h1, xs, h2, h3, fun x hx => (h4 x hx).mono fun _ q => .inl q⟩, h5, fun h0 ad had => .inr (h6 h0 ad had)⟩, fun _ q => q, fun b hb => by rcases hb with q | q; exact .inr (.inl q); exact .inr (.inr (.inr q)),
    fun b hb hb' => by
      rcases hb with q | q <;> rcases hb' with q' | q'
      · exact (hd1 b q).2.1 q'
      · exact (hd1 b q).2.2 q'
      · exact (hd2 b q).1 q'
      · exact (hd2 b q).2 q'⟩
  have hil := get_lt hi
  have hi2 : ((L.set i (chByI c bss a n bs)).set j nullI)[i]? = some (chByI c bss a n bs) := by
    rw [List.getElem?_set, if_neg (Ne.symm hij), List.getElem?_set, if_pos rfl, if_pos hil]
  have s3 := s2.upd (I' := chI c (bss ++ [bs])) (w' := w.setChan c 64 (buf.push (.slice a n cc)) false (sn + 1) r false) hi2 fun e s ⟨⟨h1, xs, h2, ⟨sn', r', h3⟩, h4⟩, h5, h6⟩ hlo hd => by
    have hcl := hlo c (.inl h1)
    rw [hb] at h3
    have e1 : buf = (xs.map frV).toArray := by injection h3 with h3; injection h3
    have hsz : (w.setChan c 64 (buf.push (.slice a n cc)) false (sn + 1) r false).heap.size = w.heap.size := size_setChan _ _ _ _ _ _ _ _
    have hag : ∀ b, s b → (w.setChan c 64 (buf.push (.slice a n cc)) false (sn + 1) r false).heap[b]? = w.heap[b]? := fun b q => setChan_ne _ _ _ _ _ _ _ _ _ fun q2 => hd c h1 (q2 ▸ q)
    refine ⟨e, s, ⟨h1, xs ++ [⟨a, n, cc, bs⟩], by simp [h2], ⟨sn + 1, r, ?_⟩, fun x hx => ?_⟩, fun b q => ⟨by rw [hsz]; exact hlo b (.inl q), .inl q⟩, fun b q => ⟨by rw [hsz]; exact hlo b (.inr q), .inr (.inl q)⟩, hd, (mut_setChan _ _ _ _ _ _ _ _).mono fun k hk => by subst hk; exact h1⟩
    · rw [heap_setChan _ _ _ _ _ _ _ _ hcl, e1]
      simp [frV]
    · rcases List.mem_append.1 hx with hx | hx
      · exact (h4 x hx).agree hag
      · rw [List.mem_singleton.1 hx]
        exact ⟨hc, h5.agree fun h0 ad had => hag _ (h6 h0 ad had), h6⟩
  have e : ((L.set i (chByI c bss a n bs)).set j nullI).set i (chI c (bss ++ [bs])) = (L.set i (chI c (bss ++ [bs]))).set j nullI := by
    rw [List.set_comm _ _ (Ne.symm hij), List.set_set]
  rw [e] at s3
  exact s3
theorem Own.chRecv (st : Own fr al w0 L w) {i : Nat} (hi : L[i]? = some (chI c (bs :: bss))) (hb : w.heap[c]? = some (.chan 64 buf false sn r false)) :
    ∃ a n cc, buf.getD 0 undef = .slice a n cc ∧ (n ≤ cc ∧ cc ≤ maxLen) ∧ Own fr al w0 ((L.set i (chI c bss)) ++ [byI a n bs]) (w.setChan c 64 (buf.extract 1 buf.size) false sn (r + 1) false) := by
  obtain ⟨e, s, ⟨h1, xs, h2, ⟨sn', r', h3⟩, h4⟩, _⟩ := st.get hi
  rw [hb] at h3
  have e1 : buf = (xs.map frV).toArray := by injection h3 with h3; injection h3
  obtain ⟨x, xs', rfl⟩ : ∃ x xs', xs = x :: xs' := by
    cases xs with
    | nil => simp at h2
    | cons x xs' => exact ⟨x, xs', rfl⟩
  have hx := h4 x (by simp)
  have h2' : x.xs = bs ∧ xs'.map (·.xs) = bss := by simpa using h2
  refine ⟨x.a, x.n, x.c, by rw [e1]; rfl, hx.1, ?_⟩
  have s2 := st.share (I' := byI x.a x.n bs) hi fun e2 s2 ⟨k1, ys, k2, ⟨sn2, r2, k3⟩, k4⟩ => by
    rw [hb] at k3
    have e2 : buf = (ys.map frV).toArray := by injection k3 with k3; injection k3
    obtain ⟨y, ys', rfl⟩ : ∃ y ys', ys = y :: ys' := by
      cases ys with
      | nil => simp at k2
      | cons y ys' => exact ⟨y, ys', rfl⟩
    have hy := k4 y (by simp)
    have k2' : y.xs = bs ∧ ys'.map (·.xs) = bss := by simpa using k2
    have e3 : frV x = frV y := by
      have := congrArg (fun z : Array Value => z[0]?) (e1.symm.trans e2)
      simpa using this
    unfold frV at e3
    injection e3 with q1 q2 q3
    rw [q1, q2, ← k2'.1]
    exact ⟨hy.2.1, hy.2.2⟩
  have hil := get_lt hi
  have hi2 : (L ++ [byI x.a x.n bs])[i]? = some (chI c (bs :: bss)) := by rw [List.getElem?_append_left hil]; exact hi
  have s3 := s2.upd (I' := chI c bss) (w' := w.setChan c 64 (buf.extract 1 buf.size) false sn (r + 1) false) hi2 fun e s ⟨h1, ys, k2, ⟨sn', r', h3⟩, h4⟩ hlo hd => by
    have hcl := hlo c (.inl h1)
    rw [hb] at h3
    have e2 : buf = (ys.map frV).toArray := by injection h3 with h3; injection h3
    obtain ⟨y, ys', rfl⟩ : ∃ y ys', ys = y :: ys' := by
      cases ys with
      | nil => simp at k2
      | cons y ys' => exact ⟨y, ys', rfl⟩
    have k2' : y.xs = bs ∧ ys'.map (·.xs) = bss := by simpa using k2
    have hsz : (w.setChan c 64 (buf.extract 1 buf.size) false sn (r + 1) false).heap.size = w.heap.size := size_setChan _ _ _ _ _ _ _ _
    have hag : ∀ b, s b → (w.setChan c 64 (buf.extract 1 buf.size) false sn (r + 1) false).heap[b]? = w.heap[b]? := fun b q => setChan_ne _ _ _ _ _ _ _ _ _ fun q2 => hd c h1 (q2 ▸ q)
    refine ⟨e, s, ⟨h1, ys', k2'.2, ⟨sn, r + 1, ?_⟩, fun x hx => (h4 x (List.mem_cons_of_mem _ hx)).agree hag⟩, fun b q => ⟨by rw [hsz]; exact hlo b (.inl q), .inl q⟩, fun b q => ⟨by rw [hsz]; exact hlo b (.inr q), .inr (.inl q)⟩, hd, (mut_setChan _ _ _ _ _ _ _ _).mono fun k hk => by subst hk; exact h1⟩
    rw [heap_setChan _ _ _ _ _ _ _ _ hcl, e2]
    simp [List.take_of_length_le]
  rw [List.set_append_left _ _ hil] at s3
  exact s3
/-- A new channel. -/
theorem Own.newCh (st : Own fr al w0 L w) : Own fr al w0 (L ++ [chI w.heap.size []]) (w.alloc (.chan 64 #[] false 0 0 false)) := by
  refine st.new (I := chI w.heap.size []) (e' := fun k => k = w.heap.size) (s' := fun _ => False) (Ext.new w _) ⟨rfl, [], rfl, ⟨0, 0, ?_⟩, fun x hx => by simp at hx⟩ ?_ (fun _ q => q.elim) (fun _ _ q => q)
  · show (w.heap.push _)[_]? = _; simp
  · rintro b rfl
    exact ⟨by show _ < (w.heap.push _).size; simp, Nat.le_refl _⟩
end
end Go.Proofs.Ytcminppmmhinjaa
