/- Tickets: the reference makes one. -/
import Derived.Test.YtdkemfimhdjdiaaTickC
namespace Go.Proofs.Ytdkemfimhdjdiaa
set_option linter.unusedSimpArgs false
set_option linter.unusedVariables false
open Go Go.RowKit
/-- string to bytes, and where they lie. -/
theorem owp_sbF {fr al : Nat → Prop} {w0 w : World} {L : List It} {P : Program} {o : Oper} {a : Act} {K : Act → World → Prop} {Q : Exit → Act → World → Prop} {src dst e : TypeId} {x : Operand} (ho : o.op = .convert src dst x) (st : Own fr al w0 L w) {xs : List UInt8} (hx : a.eval x = .string ⟨xs.toArray⟩)
    (hs : P.underlying src = some .string) (hd : P.underlying dst = some (.slice e)) (he : P.underlying e = some (.int .u8)) (hl : xs.length ≤ maxLen)
    (h : ∀ A c w', (xs.length ≤ c ∧ c ≤ maxLen) → (∀ ad, A = some ad → w0.heap.size ≤ ad.block) → Own fr al w0 (L ++ [byI A xs.length xs]) w' → K (a.put o.dst (.slice A xs.length c)) w') : o.wp P a w K Q := by
  have hr := run_bytes_of_string (P := P) w src dst e ⟨xs.toArray⟩ hs hd he
  obtain ⟨v, w', hr', ⟨A, n, c, rfl, h1, h2, h3⟩, hx'⟩ := conv_sb (P := P) (w := w) (src := src) (dst := dst) (e := e) xs hs hd he hl
  obtain rfl : n = xs.length := h3.1
  have hf : ∀ ad, A = some ad → w.heap.size ≤ ad.block := fun ad had => by
    rw [show (.string ⟨xs.toArray⟩ : Value) = S xs from rfl] at hr
    rw [hr'] at hr
    injection hr with hr _
    injection hr with hr _ _
    rw [had] at hr
    injection hr with hr
    rw [hr]
    exact Nat.le_refl _
  refine owp_run (v := .slice A xs.length c) (w' := w') ?_ (h A c w' ⟨h1, h2⟩ (fun ad q => Nat.le_trans st.le (hf ad q)) (st.addBy hx' h3 fun _ ad had => hf ad had))
  unfold execOp
  simp only [ho, hx]
  rw [show (.string ⟨xs.toArray⟩ : Value) = S xs from rfl]
  simp only [Sem.run_bind, hr', Result.andThen, Sem.run_pure]
/-- What Check answers. -/
def chkErr (ks : List KeyT) (x : TickT) (o cl : List UInt8) (now : Int) : Int := if mkErr ks o cl x.t ≠ 0 then mkErr ks o cl x.t else if x.o ≠ o ∨ x.cl ≠ cl then 42 else if mkTag ks o cl x.t ≠ x.xs then 20 else if now < 0 ∨ x.t < now then 60 else 0
theorem tkEqual_any (a : Option Addr) (n c : Nat) (xs : List UInt8) (a2 : Option Addr) (n2 c2 : Nat) (ys : List UInt8) (w : World) (h : By w a n xs) (h2 : By w a2 n2 ys) :
    Calls Try.prog 86 #[.slice a n c, .slice a2 n2 c2] w fun e w' => e = .returned (.bool (xs == ys)) ∧ w = w' := by
  have h3 := conv_bs (P := Try.prog) (src := 30) (dst := 9) (c := c) Try.underlying30 Try.underlying5 Try.underlying9 h
  have h4 := conv_bs (P := Try.prog) (src := 30) (dst := 9) (c := c2) Try.underlying30 Try.underlying5 Try.underlying9 h2
  unfold S at h3 h4
  have H := Lib.hid h; clear h
  have H2 := Lib.hid h2; clear h2
  go_enter Try.func86, Try.ntmps86
  go_wp2_with fail
  go_ret
  exact ⟨rfl, rfl⟩
theorem mkTag_len (ks : List KeyT) (o cl : List UInt8) (t : Int) (h : mkErr ks o cl t = 0) : (mkTag ks o cl t).length = 8 := by
  obtain ⟨_, _, _, _, _, k, hk, _⟩ := mkErr_0 h
  unfold mkTag; rw [hk]; simp [tagOf, be8]
end Go.Proofs.Ytdkemfimhdjdiaa
