/- the law's first line -/
import Derived.Test.YtabadgpebhiigaaTagD
namespace Go.Proofs.Ytabadgpebhiigaa
open Go Go.RowKit
theorem tagOf_length (k b : List UInt8) : (tagOf k b).length = 8 := by simp [tagOf, be8]
theorem lit1 (w : World) (x : UInt8) (v : Value) (ty : TypeId) (fr : Nat × Nat) (b : Nat) (hb : b = w.heap.size) (hv : v = B x) : By (w.alloc (.cells #[v] ty fr)) (some ⟨b, 0, none⟩) 1 [x] := By.lit _ [_] _ _ _ _ _ hb rfl ⟨hv, trivial⟩
theorem lit2 (w : World) (x y : UInt8) (v u : Value) (ty : TypeId) (fr : Nat × Nat) (b : Nat) (hb : b = w.heap.size) (hv : v = B x) (hu : u = B y) : By (w.alloc (.cells #[v, u] ty fr)) (some ⟨b, 0, none⟩) 2 [x, y] := By.lit _ [_, _] _ _ _ _ _ hb rfl ⟨hv, hu, trivial⟩
set_option maxRecDepth 100000 in
set_option maxHeartbeats 1000000 in
theorem first02_any (w : World) :
    Calls Try.prog 13 #[] w fun e w' => e = .returned (.bool true) ∧ Ext w w' := by
  go_enter Try.func13, Try.ntmps13
  go_wp2_with (refine wpList_mark rfl 22 _ _ _ _ rfl rfl (by simp) Try.underlying22 Try.underlying5 ?_)
  refine (make_any _ 1 1 [107] _ 2 2 [97, 98] _ (by simp [maxLen]) ?_ (by simp [maxLen]) ?_ (by decide)).mono ?_
  · exact (lit1 _ _ _ _ _ _ rfl rfl).ext (Ext.new _ _)
  · exact lit2 _ _ _ _ _ _ _ _ (by simp) rfl rfl
  rintro e w1 ⟨v, rfl, hx, a4, n4, c4, rfl, hn4, hc4, h4⟩
  obtain rfl : n4 = 8 := by rw [h4.1, tagOf_length]
  have HX : Hid (Ext w w1) := Lib.hid ((((Ext.refl w).alloc _).alloc _).trans hx); clear hx
  have H4 := Lib.hid h4; clear h4
  have HC := Lib.hid (And.intro hn4 hc4); clear hc4 hn4
  go_wp2_with fail
  refine (sum_any _ _ _ [] _ (by simp [maxLen]) ⟨rfl, fun h => by simp at h⟩).mono ?_
  rintro e w2 ⟨rfl, rfl⟩
  rw [show fnv fnv0 ([] : List (List UInt8)).flatten = 14695981039346656037 by decide +kernel]
  go_wp2_with (refine wpList_mark rfl 22 _ _ _ _ rfl rfl (by simp) Try.underlying22 Try.underlying5 ?_)
  refine (sum_any _ _ _ [[97]] _ (by simp [maxLen]) (Bys.lit _ [_] _ _ _ _ _ (by simp) rfl ⟨(Arr.isSl ((lit1 _ 97 _ _ _ _ rfl rfl).ext (Ext.new _ _)) (by omega) (by simp [maxLen])), trivial⟩)).mono ?_
  rintro e w2 ⟨rfl, hw2⟩
  rw [show fnv fnv0 ([[97]] : List (List UInt8)).flatten = 12638187200555641996 by decide +kernel]
  have hx12 : Ext w1 w2 := by rw [← hw2]; exact ((Ext.refl w1).alloc _).alloc _
  clear hw2
  have HX1 : Hid (Ext w w2) := Lib.hid (HX.out.trans hx12)
  have H41 := Lib.hid (H4.out.ext hx12)
  clear HX H4 hx12
  go_wp2_with (refine wpList_mark rfl 22 _ _ _ _ rfl rfl (by simp) Try.underlying22 Try.underlying5 ?_)
  refine (good_any _ 1 1 [107] _ 2 2 [97, 98] _ 8 _ (tagOf [107] [97, 98]) _ (by simp [maxLen]) ?_ (by simp [maxLen]) ?_ HC.out ?_).mono ?_
  · exact (lit1 _ _ _ _ _ _ rfl rfl).ext (Ext.new _ _)
  · exact lit2 _ _ _ _ _ _ _ _ (by simp) rfl rfl
  · exact H41.out.ext (((Ext.refl w2).alloc _).alloc _)
  rintro e w3 ⟨rfl, hx3⟩
  have hx23 : Ext w2 w3 := (((Ext.refl w2).alloc _).alloc _).trans hx3
  clear hx3
  rw [show (rightB 1 && (tagOf [107] [97, 98] == tagOf [107] [97, 98])) = true by decide +kernel]
  have HX2 : Hid (Ext w w3) := Lib.hid (HX1.out.trans hx23)
  have H42 := Lib.hid (H41.out.ext hx23)
  clear HX1 H41 hx23
  go_wp2_with (refine wpList_mark rfl 22 _ _ _ _ rfl rfl (by simp) Try.underlying22 Try.underlying5 ?_)
  refine (good_any _ 1 1 [108] _ 2 2 [97, 98] _ 8 _ (tagOf [107] [97, 98]) _ (by simp [maxLen]) ?_ (by simp [maxLen]) ?_ HC.out ?_).mono ?_
  · exact (lit1 _ _ _ _ _ _ rfl rfl).ext (Ext.new _ _)
  · exact lit2 _ _ _ _ _ _ _ _ (by simp) rfl rfl
  · exact H42.out.ext (((Ext.refl w3).alloc _).alloc _)
  rintro e w4 ⟨rfl, hx4⟩
  have HX3 : Hid (Ext w w4) := Lib.hid (((HX2.out.alloc _).alloc _).trans hx4); clear hx4
  rw [show (rightB 1 && (tagOf [108] [97, 98] == tagOf [107] [97, 98])) = false by decide +kernel]
  clear H42
  go_wp2_with fail
  refine (make_bad _ _ _ _ _ _ _ (by decide)).mono ?_
  rintro e w5 ⟨rfl, rfl⟩
  go_wp2_with fail
  go_ret
  exact ⟨rfl, HX3.out⟩
end Go.Proofs.Ytabadgpebhiigaa
