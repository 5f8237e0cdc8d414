/- The pen and the reader over pieces of memory. -/
import Derived.Test.YtcminppmmhinjaaSepW
import Derived.Test.YtcminppmmhinjaaReaderC
namespace Go.Proofs.Ytcminppmmhinjaa
set_option linter.unusedSimpArgs false
set_option linter.unusedVariables false
open Go Go.RowKit
/-- A pen that has written xs. -/
def penI (p : Nat) (xs : List UInt8) : It where
  P e _ w := e p ∧ ∃ g, PenAt w p g xs ∧ ∀ k, g = some k → e k
  st := by
    rintro e s w w' ⟨h1, g, ⟨sv, ⟨ty, h2⟩, h3, h4, h5⟩, h6⟩ hag
    exact ⟨h1, g, ⟨sv, ⟨ty, by rw [hag p (.inl h1)]; exact h2⟩, row_agree h3 fun k hk => hag k (.inl (h6 k (by rw [← h4]; exact hk))), h4, h5⟩, h6⟩
  facts _ := True
  ok := fun _ => trivial
theorem By.agree {w w' : World} {a : Option Addr} {n : Nat} {xs : List UInt8} (h : By w a n xs) (hag : 0 < n → ∀ ad, a = some ad → w'.heap[ad.block]? = w.heap[ad.block]?) : By w' a n xs := by
  refine ⟨h.1, fun h0 => ?_⟩
  obtain ⟨b, off, rfl, hc⟩ := h.2 h0
  refine ⟨b, off, rfl, fun i x hi => ?_⟩
  have := hc i x hi
  have h9 : w'.heap[b]? = w.heap[b]? := hag h0 ⟨b, off, none⟩ rfl
  unfold byteR at *
  rw [World.cell?_of_block (w := w) h9]
  exact this
/-- A reader that has xs left. -/
def rdI (r : Nat) (xs : List UInt8) : It where
  P e s w := e r ∧ RdAt s w r xs
  st := by
    rintro e s w w' ⟨h1, a, n, c, ⟨ty, h2⟩, h3, h4, h5⟩ hag
    exact ⟨h1, a, n, c, ⟨ty, by rw [hag r (.inl h1)]; exact h2⟩, h3.agree fun _ ad had => hag _ (.inr (h5 ad had).2), h4, h5⟩
  facts _ := True
  ok := fun _ => trivial
/-- A reader, whatever is left. -/
def rdAnyI (r : Nat) : It where
  P e _ w := e r ∧ RdAny w r
  st := by
    rintro e s w w' ⟨h1, a, n, c, ⟨ty, h2⟩⟩ hag
    exact ⟨h1, a, n, c, ⟨ty, by rw [hag r (.inl h1)]; exact h2⟩⟩
  facts _ := True
  ok := fun _ => trivial
def rdOverI (r : Nat) : It where
  P e _ w := e r ∧ RdOver w r
  st := by
    rintro e s w w' ⟨h1, a, n, c, ⟨ty, h2⟩⟩ hag
    exact ⟨h1, a, n, c, ⟨ty, by rw [hag r (.inl h1)]; exact h2⟩⟩
  facts _ := True
  ok := fun _ => trivial
section
variable {fr al : Nat → Prop} {w0 w w' : World} {L : List It}
theorem PenAt.inj {w : World} {p : Nat} {g g' : Option Nat} {xs ys : List UInt8} (h : PenAt w p g xs) (h' : PenAt w p g' ys) : g = g' := by
  obtain ⟨sv, h1, _, h2, _⟩ := h
  obtain ⟨sv', h1', _, h2', _⟩ := h'
  have e1 := h1.cell 0
  have e2 := h1'.cell 0
  rw [e1] at e2
  have : sv = sv' := by simpa using e2
  subst this
  rw [← h2, ← h2']
theorem PenAt.glt' {w : World} {p : Nat} {g : Option Nat} {xs : List UInt8} (h : PenAt w p g xs) {k : Nat} (hk : g = some k) : k < w.heap.size := by
  obtain ⟨sv, _, h2, h3, _⟩ := h
  exact (h2.lt k (h3.trans hk)).2
theorem Own.penStep (st : Own fr al w0 L w) {i p : Nat} {xs ys : List UInt8} (hi : L[i]? = some (penI p xs)) {g g' : Option Nat} (hp : PenAt w p g xs) (hp' : PenAt w' p g' ys) (hs : PenStep p w g w' g') : Own fr al w0 (L.set i (penI p ys)) w' :=
  st.upd hi fun e s ⟨h1, g1, h2, h3⟩ h4 h5 => by
    obtain rfl := hp.inj h2
    refine ⟨fun k => e k ∨ (w.heap.size ≤ k ∧ k < w'.heap.size), s, ⟨.inl h1, g', hp', fun k hk => ?_⟩, fun b hb => ?_, fun b hb => ⟨Nat.lt_of_lt_of_le (h4 b (.inr hb)) hs.1.size, .inr (.inl hb)⟩, fun b hb hb' => ?_, ?_⟩
    · rcases hs.2 with q | ⟨j, q, hj⟩
      · rw [q] at hk; exact .inl (h3 k hk)
      · have e := hk; rw [q] at e; injection e with e; subst e
        exact .inr ⟨hj, hp'.glt' hk⟩
    · rcases hb with hb | hb
      · exact ⟨Nat.lt_of_lt_of_le (h4 b (.inl hb)) hs.1.size, .inl hb⟩
      · exact ⟨hb.2, .inr hb.1⟩
    · rcases hb with hb | hb
      · exact h5 b hb hb'
      · have := h4 b (.inr hb'); omega
    · exact hs.1.mono fun k hk => by
        rcases hk with rfl | hk
        · exact h1
        · exact h3 k hk
theorem Own.pen (st : Own fr al w0 L w) {i p : Nat} {xs : List UInt8} (hi : L[i]? = some (penI p xs)) : ∃ g, PenAt w p g xs := let ⟨_, _, ⟨_, g, h, _⟩, _⟩ := st.get hi; ⟨g, h⟩
theorem Own.newPen (st : Own fr al w0 L w) {i p : Nat} (hi : L[i]? = some (blkI p [.slice none 0 0])) : Own fr al w0 (L.set i (penI p [])) w :=
  st.conv hi fun e s ⟨h1, h2⟩ h3 => ⟨e, s, ⟨h1, none, ⟨_, h2, ⟨rfl, .inl ⟨rfl, rfl⟩⟩, rfl, by simp⟩, fun k hk => by cases hk⟩, fun _ q => q, fun _ q => .inr q, h3⟩
/-- Two items, one of which is one's own, lie apart. -/
theorem Own.get2 (st : Own fr al w0 L w) {i j : Nat} {I J : It} (hi : L[i]? = some I) (hj : L[j]? = some J) (hij : i ≠ j) : ∃ e s e' s', I.P e s w ∧ J.P e' s' w ∧ (∀ b, e b → ¬ e' b ∧ ¬ s' b) ∧ ∀ b, e' b → ¬ s b := by
  obtain ⟨hm, e, s, F⟩ := st
  exact ⟨_, _, _, _, F.holds i I hi, F.holds j J hj, fun b hb => ⟨F.ee i j b (get_lt hi) (get_lt hj) hij hb, F.es i j b (get_lt hi) (get_lt hj) hb⟩, fun b hb => F.es j i b (get_lt hj) (get_lt hi) hb⟩
end

theorem penNumber_c {fr al : Nat → Prop} {w : World} {p : Nat} {xs : List UInt8} (st : Own fr al w [penI p xs] w) (n : Nat) (hn : n < 9223372036854775808) (hl : xs.length ≤ 100000000) :
    Calls Try.prog 136 #[.pointer (some ⟨p, 0, none⟩), .int .i64 (n : Int)] w fun e w' => e = .returned (.bool true) ∧ Own fr al w [penI p (xs ++ numB n)] w' := by
  obtain ⟨g, hp⟩ := st.pen (i := 0) rfl
  exact (penNumber_any p g xs n w hp hn hl).mono fun e w' ⟨h1, g', h2, h3⟩ => ⟨h1, st.penStep (i := 0) rfl hp h2 h3⟩
theorem penText_c {fr al : Nat → Prop} {w : World} {p m c : Nat} {a : Option Addr} {xs ys : List UInt8} (st : Own fr al w [penI p xs, byI a m ys] w) (hm : m ≤ 2048) (hl : xs.length ≤ 50000000) :
    Calls Try.prog 183 #[.pointer (some ⟨p, 0, none⟩), .slice a m c] w fun e w' => e = .returned (.bool true) ∧ Own fr al w [penI p (xs ++ (numB m ++ ys)), byI a m ys] w' := by
  obtain ⟨g, hp⟩ := st.pen (i := 0) rfl
  obtain ⟨e, s, e', s', ⟨h1, g1, h2, h3⟩, ⟨h4, h5⟩, h6, _⟩ := st.get2 (i := 0) (j := 1) rfl rfl (by decide)
  obtain rfl := hp.inj h2
  refine (penText_any p g xs a m c ys w hp h4 hm hl fun h0 ad had => ⟨?_, ?_⟩).mono fun e w' ⟨h1, g', h2, h3⟩ => ⟨h1, st.penStep (i := 0) rfl hp h2 h3⟩
  · intro q; exact (h6 _ h1).2 (q ▸ h5 h0 ad had)
  · intro q; exact (h6 _ (h3 _ q)).2 (h5 h0 ad had)
theorem penRaw_c {fr al : Nat → Prop} {w : World} {p m c : Nat} {a : Option Addr} {xs ys : List UInt8} (st : Own fr al w [penI p xs, byI a m ys] w) (hl : xs.length + ys.length ≤ 100000000000000) :
    Calls Try.prog 137 #[.pointer (some ⟨p, 0, none⟩), .slice a m c] w fun e w' => e = .returned (.bool true) ∧ Own fr al w [penI p (xs ++ ys), byI a m ys] w' := by
  obtain ⟨g, hp⟩ := st.pen (i := 0) rfl
  exact (penRaw_any p g xs a m c ys w hp (st.by (i := 1) rfl) hl).mono fun e w' ⟨h1, g', h2, h3⟩ => ⟨h1, st.penStep (i := 0) rfl hp h2 h3⟩
theorem own_byI {fr al : Nat → Prop} {w0 w w' : World} {L : List It} (st : Own fr al w0 L w) (hx : Ext w w') {v : Value} {xs : List UInt8} {n : Nat} (h : w'.ownsRow w.heap.size 5 1 v n (xs.map B)) :
    ∃ a c, v = .slice a xs.length c ∧ (xs.length ≤ c ∧ c ≤ maxLen) ∧ Own fr al w0 (L ++ [byI a xs.length xs]) w' := by
  obtain ⟨a, m, c, rfl, h1, h2, h3⟩ := own_by h
  obtain rfl : m = xs.length := h3.1
  exact ⟨a, c, rfl, ⟨h1, h2⟩, st.addBy hx h3 fun _ ad had => (h.lt ad.block (by rw [had]; rfl)).1⟩
theorem penBytes_c {fr al : Nat → Prop} {w : World} {p : Nat} {xs : List UInt8} (st : Own fr al w [penI p xs] w) (hl : xs.length ≤ 100000000000000) :
    Calls Try.prog 69 #[.pointer (some ⟨p, 0, none⟩)] w fun e w' => ∃ a c, e = .returned (.slice a xs.length c) ∧ (xs.length ≤ c ∧ c ≤ maxLen) ∧ Own fr al w [penI p xs, byI a xs.length xs] w' := by
  obtain ⟨g, hp⟩ := st.pen (i := 0) rfl
  refine (penBytes_own p g xs w hp hl).mono ?_
  rintro e w' ⟨v, rfl, h, hx⟩
  obtain ⟨a, c, rfl, h1, h2⟩ := own_byI st hx h
  exact ⟨a, c, rfl, h1, h2⟩
theorem clone_c {fr al : Nat → Prop} {w : World} {n c : Nat} {a : Option Addr} {xs : List UInt8} (st : Own fr al w [byI a n xs] w) (hc : n ≤ c ∧ c ≤ maxLen) (hn : n ≤ 140737488355328) :
    Calls Try.prog 90 #[.slice a n c] w fun e w' => ∃ a' c', e = .returned (.slice a' xs.length c') ∧ (xs.length ≤ c' ∧ c' ≤ maxLen) ∧ Own fr al w [byI a n xs, byI a' xs.length xs] w' := by
  refine (clone_any a n c xs w (st.by (i := 0) rfl) hc hn).mono ?_
  rintro e w' ⟨v, rfl, h, hx⟩
  obtain ⟨a, c, rfl, h1, h2⟩ := own_byI st hx h
  exact ⟨a, c, rfl, h1, h2⟩
/-- How a reading method ends: with a value, or with a failure. -/
def RdC {α : Type} (fr al : Nat → Prop) (w : World) (r : Nat) (res : Except Int (α × List UInt8)) (ok : α → Value → List It → Prop) : Ending → World → Prop := fun en w' =>
  match res with
  | .error e => en = .panicked [{ v := failV r e, recovered := false }] ∧ Own fr al w [rdAnyI r] w'
  | .ok (x, ys) => ∃ v M, en = .returned v ∧ ok x v M ∧ Own fr al w (rdI r ys :: M) w'
theorem rd_c {α : Type} {F : FuncId} {args : Array Value} {fr al : Nat → Prop} {w : World} {r : Nat} {xs : List UInt8} {res : Except Int (α × List UInt8)} {ok : α → Value → World → Prop} (st : Own fr al w [rdI r xs] w)
    (h : ∀ s, RdAt s w r xs → Calls Try.prog F args w (RdOut s r w res ok)) (okM : α → Value → List It → Prop)
    (hM : ∀ x v w' ys (e s : Nat → Prop), MutO (rdFp r) w w' → ok x v w' → e r → RdAt s w' r ys → (∀ b, e b ∨ s b → b < w.heap.size) → (∀ b, e b → ¬ s b) → (∀ b, e b → fr b) → (∀ b, e b ∨ s b → al b) → ∃ M, okM x v M ∧ Own fr al w (rdI r ys :: M) w') :
    Calls Try.prog F args w (RdC fr al w r res okM) := by
  obtain ⟨hm, e, s, Ft⟩ := st
  have h0 := Ft.holds 0 _ rfl
  have lo : ∀ b, e 0 b ∨ s 0 b → b < w.heap.size := fun b => Ft.lo 0 b (by simp)
  have hd : ∀ b, e 0 b → ¬ s 0 b := fun b => Ft.es 0 0 b (by simp) (by simp)
  have hfr : ∀ b, e 0 b → fr b := fun b hb => Ft.fr 0 b (by simp) hb (lo b (.inl hb))
  have hal : ∀ b, e 0 b ∨ s 0 b → al b := fun b hb => Ft.al 0 b (by simp) hb (lo b hb)
  refine (h (s 0) h0.2).mono fun en w' hen => ?_
  unfold RdOut at hen
  unfold RdC
  cases hr : res with
  | error er =>
    rw [hr] at hen
    obtain ⟨h1, h2, h3⟩ := hen
    exact ⟨h1, Own.mk1 (h3.mono fun k hk => by obtain rfl : k = r := hk; exact hfr _ h0.1) (e := e 0) (s := s 0) ⟨h0.1, h2⟩ (fun b hb => Nat.lt_of_lt_of_le (lo b hb) h3.size) (fun b hb _ => hfr b hb) (fun b hb _ => hal b hb) hd⟩
  | ok p =>
    obtain ⟨x, ys⟩ := p
    rw [hr] at hen
    obtain ⟨v, h1, h2, h3, h4⟩ := hen
    obtain ⟨M, h5, h6⟩ := hM x v w' ys (e 0) (s 0) h4 h2 h0.1 h3 lo hd hfr hal
    exact ⟨v, M, h1, h5, h6⟩
theorem number_c {fr al : Nat → Prop} {w : World} {r : Nat} {xs : List UInt8} (st : Own fr al w [rdI r xs] w) (most : Int) :
    Calls Try.prog 141 #[.pointer (some ⟨r, 0, none⟩), .int .i64 most] w (RdC fr al w r (rdNumber most xs) fun n v M => v = .int .i64 (n : Int) ∧ M = []) :=
  rd_c st (fun s h => number_any w r xs most h) _ fun x v w' ys e s hm hok he hrd lo hd hfr hal =>
    ⟨[], ⟨hok, rfl⟩, Own.mk1 (hm.mono fun k hk => by obtain rfl : k = r := hk; exact hfr _ he) (e := e) (s := s) ⟨he, hrd⟩ (fun b hb => Nat.lt_of_lt_of_le (lo b hb) hm.size) (fun b hb _ => hfr b hb) (fun b hb _ => hal b hb) hd⟩
theorem text_c {fr al : Nat → Prop} {w : World} {r : Nat} {xs : List UInt8} (st : Own fr al w [rdI r xs] w) (most : Int) (hl : xs.length ≤ 100000000000) :
    Calls Try.prog 188 #[.pointer (some ⟨r, 0, none⟩), .int .i64 most] w (RdC fr al w r (rdText most xs) fun bs v M => ∃ a c, v = .slice a bs.length c ∧ (bs.length ≤ c ∧ c ≤ maxLen) ∧ M = [byI a bs.length bs]) :=
  rd_c st (fun s h => text_new w r xs most h hl) _ fun x v w' ys e s hm ⟨⟨a, n, c, hv, h1, h2, h3⟩, hok⟩ he hrd lo hd hfr hal => by
    subst hv
    obtain rfl : n = x.length := h3.1
    have hfresh : ∀ b, (0 < x.length ∧ ∃ ad, a = some ad ∧ ad.block = b) → w.heap.size ≤ b ∧ b < w'.heap.size := by
      rintro b ⟨h0, ad, rfl, rfl⟩
      refine ⟨hok _ rfl, ?_⟩
      obtain ⟨b, off, hb, hc⟩ := h3.2 h0
      cases hb
      exact World.block_lt_of_cell? w' _ (hc 0 _ (List.getElem?_eq_getElem h0))
    refine ⟨_, ⟨a, c, rfl, ⟨h1, h2⟩, rfl⟩, Own.mk2 (hm.mono fun k hk => by obtain rfl : k = r := hk; exact hfr _ he) (e := e) (s := s) (f := fun _ => False) (t := fun b => 0 < x.length ∧ ∃ ad, a = some ad ∧ ad.block = b) ⟨he, hrd⟩ ⟨h3, fun h0 ad had => ⟨h0, ad, had, rfl⟩⟩ ?_ ?_ ?_ ?_ (fun _ q => q.elim)⟩
    · rintro b (hb | hb | hb)
      · exact Nat.lt_of_lt_of_le (lo b hb) hm.size
      · exact hb.elim
      · exact (hfresh b hb).2
    · rintro b (hb | hb) _
      · exact hfr b hb
      · exact hb.elim
    · rintro b (hb | hb | hb) hlt
      · exact hal b hb
      · exact hb.elim
      · have := (hfresh b hb).1; omega
    · intro b hb
      refine ⟨hd b hb, fun q => q, fun q => ?_⟩
      have := (hfresh b q).1; have := lo b (.inl hb); omega
end Go.Proofs.Ytcminppmmhinjaa
