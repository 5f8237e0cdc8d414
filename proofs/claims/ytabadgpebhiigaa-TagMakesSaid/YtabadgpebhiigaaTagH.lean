/- The law TagMakes, more ways. -/
import Derived.Test.YtabadgpebhiigaaTagG
namespace Go.Proofs.Ytabadgpebhiigaa
open Go Go.RowKit
set_option maxRecDepth 100000 in
set_option maxHeartbeats 2000000 in
theorem tagMakes_long
    (a1 : Option Addr) (n1 c1 : Nat) (k : List UInt8) (a2 : Option Addr) (n2 c2 : Nat) (b : List UInt8) (a3 : Option Addr) (n3 c3 : Nat) (t : List UInt8) (w : World)
    (hc1 : n1 ≤ c1 ∧ c1 ≤ maxLen) (h1 : By w a1 n1 k) (hc2 : n2 ≤ c2 ∧ c2 ≤ maxLen) (h2 : By w a2 n2 b) (hc3 : n3 ≤ c3 ∧ c3 ≤ maxLen) (h3 : By w a3 n3 t) (hr : ¬ (n1 ≤ 100 ∧ n2 ≤ 2000 ∧ n3 ≤ 100)) :
    Calls Try.prog 3 #[.slice a1 n1 c1, .slice a2 n2 c2, .slice a3 n3 c3] w fun e w' => e = .returned (.bool true) ∧ Ext w w' := by
  by_cases g1 : n1 ≤ 100
  · by_cases g2 : n2 ≤ 2000
    · have g3 : ¬ n3 ≤ 100 := fun h => hr ⟨g1, g2, h⟩
      have HC := Lib.hid (And.intro hc1 (And.intro hc2 hc3)); clear hc1 hc2 hc3
      have HR := Lib.hid hr; clear hr
      have H1 := Lib.hid h1; clear h1
      have H2 := Lib.hid h2; clear h2
      have H3 := Lib.hid h3; clear h3
      go_enter Try.func3, Try.ntmps3
      go_wp2_with fail
      refine (first02_any _).mono ?_
      rintro e w1 ⟨rfl, hx⟩
      have HX := Lib.hid hx; clear hx
      go_wp2
      go_ret
      exact ⟨rfl, HX.out⟩
    · skip
      have HC := Lib.hid (And.intro hc1 (And.intro hc2 hc3)); clear hc1 hc2 hc3
      have HR := Lib.hid hr; clear hr
      have H1 := Lib.hid h1; clear h1
      have H2 := Lib.hid h2; clear h2
      have H3 := Lib.hid h3; clear h3
      go_enter Try.func3, Try.ntmps3
      go_wp2_with fail
      refine (first02_any _).mono ?_
      rintro e w1 ⟨rfl, hx⟩
      have HX := Lib.hid hx; clear hx
      go_wp2
      go_ret
      exact ⟨rfl, HX.out⟩
  · skip
    have HC := Lib.hid (And.intro hc1 (And.intro hc2 hc3)); clear hc1 hc2 hc3
    have HR := Lib.hid hr; clear hr
    have H1 := Lib.hid h1; clear h1
    have H2 := Lib.hid h2; clear h2
    have H3 := Lib.hid h3; clear h3
    go_enter Try.func3, Try.ntmps3
    go_wp2_with fail
    refine (first02_any _).mono ?_
    rintro e w1 ⟨rfl, hx⟩
    have HX := Lib.hid hx; clear hx
    go_wp2
    go_ret
    exact ⟨rfl, HX.out⟩
theorem tagMakes_all
    (a1 : Option Addr) (n1 c1 : Nat) (k : List UInt8) (a2 : Option Addr) (n2 c2 : Nat) (b : List UInt8) (a3 : Option Addr) (n3 c3 : Nat) (t : List UInt8) (w : World)
    (hc1 : n1 ≤ c1 ∧ c1 ≤ maxLen) (h1 : By w a1 n1 k) (hc2 : n2 ≤ c2 ∧ c2 ≤ maxLen) (h2 : By w a2 n2 b) (hc3 : n3 ≤ c3 ∧ c3 ≤ maxLen) (h3 : By w a3 n3 t) :
    Calls Try.prog 3 #[.slice a1 n1 c1, .slice a2 n2 c2, .slice a3 n3 c3] w fun e w' => e = .returned (.bool true) ∧ Ext w w' := by
  by_cases hn : n1 ≤ 100 ∧ n2 ≤ 2000 ∧ n3 ≤ 100
  · cases hr : rightB n1
    · by_cases g : 1 ≤ n1
      · exact tagMakes_bad1 a1 n1 c1 k a2 n2 c2 b a3 n3 c3 t w hc1 h1 hc2 h2 hc3 h3 hn.1 hn.2.1 hn.2.2 hr ⟨g, by unfold rightB at hr; simp at hr; omega⟩
      · exact tagMakes_bad0 a1 n1 c1 k a2 n2 c2 b a3 n3 c3 t w hc1 h1 hc2 h2 hc3 h3 hn.1 hn.2.1 hn.2.2 hr g
    · exact tagMakes_ok a1 n1 c1 k a2 n2 c2 b a3 n3 c3 t w hc1 h1 hc2 h2 hc3 h3 hn.1 hn.2.1 hn.2.2 hr
  · exact tagMakes_long a1 n1 c1 k a2 n2 c2 b a3 n3 c3 t w hc1 h1 hc2 h2 hc3 h3 hn
end Go.Proofs.Ytabadgpebhiigaa
