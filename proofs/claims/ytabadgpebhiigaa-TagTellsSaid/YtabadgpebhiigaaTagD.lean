/- bytes.Equal, tag.Good, the law's first line -/
import Derived.Test.YtabadgpebhiigaaTagC
namespace Go.Proofs.Ytabadgpebhiigaa
open Go Go.RowKit
theorem make_bad (a : Option Addr) (n c : Nat) (a2 : Option Addr) (n2 c2 : Nat) (w : World) (hr : rightB n = false) :
    Calls Try.prog 17 #[.slice a n c, .slice a2 n2 c2] w fun e w' => e = .returned (.slice none 0 0) ∧ w = w' := by
  have R := Lib.hid hr; clear hr
  go_enter Try.func17, Try.ntmps17
  go_wp2_with fail
  refine (right_any _ _ _ _).mono ?_
  rintro e w' ⟨rfl, rfl⟩
  rw [R.out]
  go_wp2_with fail
  go_ret
  exact ⟨rfl, rfl⟩
set_option maxHeartbeats 400000 in
theorem equal_any (a : Option Addr) (n c : Nat) (xs : List UInt8) (a2 : Option Addr) (n2 c2 : Nat) (ys : List UInt8) (w : World) (h : By w a n xs) (h2 : By w a2 n2 ys) :
    Calls Try.prog 66 #[.slice a n c, .slice a2 n2 c2] w fun e w' => e = .returned (.bool (xs == ys)) ∧ w = w' := by
  have h3 := conv_bs (P := Try.prog) (src := 22) (dst := 9) (c := c) Try.underlying22 Try.underlying5 Try.underlying9 h
  have h4 := conv_bs (P := Try.prog) (src := 22) (dst := 9) (c := c2) Try.underlying22 Try.underlying5 Try.underlying9 h2
  unfold S at h3 h4
  have H := Lib.hid h; clear h
  have H2 := Lib.hid h2; clear h2
  go_enter Try.func66, Try.ntmps66
  go_wp2_with fail
  go_ret
  exact ⟨rfl, rfl⟩
theorem good_any (a : Option Addr) (n c : Nat) (k : List UInt8) (a2 : Option Addr) (n2 c2 : Nat) (b : List UInt8) (a3 : Option Addr) (n3 c3 : Nat) (t : List UInt8) (w : World) (hc : n ≤ c ∧ c ≤ maxLen) (h : By w a n k) (hc2 : n2 ≤ c2 ∧ c2 ≤ maxLen) (h2 : By w a2 n2 b)
   (hc3 : n3 ≤ c3 ∧ c3 ≤ maxLen) (h3 : By w a3 n3 t) :
    Calls Try.prog 18 #[.slice a n c, .slice a2 n2 c2, .slice a3 n3 c3] w fun e w' => e = .returned (.bool (rightB n && tagOf k b == t)) ∧ Ext w w' := by
  have H := Lib.hid h; clear h
  have H2 := Lib.hid h2; clear h2
  have H3 := Lib.hid h3; clear h3
  cases hr : rightB n
  all_goals have R := Lib.hid hr; clear hr
  · go_enter Try.func18, Try.ntmps18
    go_wp2_with fail
    refine (right_any _ _ _ _).mono ?_
    rintro e w' ⟨rfl, rfl⟩
    rw [R.out]
    go_wp2_with fail
    go_ret
    exact ⟨rfl, Ext.refl _⟩
  · go_enter Try.func18, Try.ntmps18
    go_wp2_with fail
    refine (right_any _ _ _ _).mono ?_
    rintro e w' ⟨rfl, rfl⟩
    rw [R.out]
    go_wp2_with fail
    refine (make_any _ _ _ _ _ _ _ _ _ hc H.out hc2 H2.out R.out).mono ?_
    rintro e w1 ⟨v, rfl, hx, a4, n4, c4, rfl, hn4, hc4, h4⟩
    have HX := Lib.hid hx; clear hx
    have H4 := Lib.hid h4; clear h4
    go_wp2_with fail
    refine (equal_any _ _ _ _ _ _ _ _ _ H4.out (H3.out.ext HX.out)).mono ?_
    rintro e w2 ⟨rfl, rfl⟩
    go_wp2_with fail
    go_ret
    exact ⟨rfl, HX.out⟩
end Go.Proofs.Ytabadgpebhiigaa
