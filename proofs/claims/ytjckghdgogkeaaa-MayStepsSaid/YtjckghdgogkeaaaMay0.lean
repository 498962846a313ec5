/- The contracts of may.New, may.Unknown, (may.State).Age. -/
import Derived.Test.YtjckghdgogkeaaaCache0
import Derived.Test.YtjckghdgogkeaaaMap
namespace Go.Proofs.Ytjckghdgogkeaaa
open Go.RowKit
set_option linter.unusedVariables false

theorem valid_no {S W L : Int} (h : vldB S W L = false) (w : World) :
    Calls Try.prog 30 #[.agg #[.int .i64 S, .int .i64 W, .int .i64 L]] w fun e w' => e = .returned (.bool false) ∧ Ext w w' := by
  have := valid_any S W L w
  rw [h] at this
  exact this


set_option maxHeartbeats 400000 in
theorem may_new_yes {S W L : Int} (h : Geo S W L) (w : World) :
    Calls Try.prog 21 #[.agg #[.int .i64 S, .int .i64 W, .int .i64 L]] w fun e w' => e = .returned (.tuple #[.agg #[.int .i64 S, .int .i64 W, .int .i64 L, .bool false, .map none], .int .i64 0]) ∧ Ext w w' := by
  go_enter Try.func21, Try.ntmps21
  go_wp2_with (go_at_call 30; refine (valid_yes h _).mono ?_; rintro e w1 ⟨rfl, hb1⟩; obtain ⟨hc1, hf1⟩ := hb1.cells; have hz1 := hb1.size; simp at hz1)
  refine bodyPost_ret (v := .tuple #[.agg #[.int .i64 S, .int .i64 W, .int .i64 L, .bool false, .map none], .int .i64 0]) ?_ rfl ⟨rfl, ?_⟩
  · simp [results, Try.results21, go_sem, hc1]
  · exact (by repeat (first | ((with_reducible refine Ext.set1 ?_ ?_); (first | (focus (simp; done)) | (focus (simp; omega)) | (focus omega))) | (with_reducible refine Ext.alloc ?_ _) | (with_reducible exact Ext.refl _) | (refine Ext.trans ?_ (by with_reducible assumption))))

set_option maxHeartbeats 400000 in
theorem may_new_no {S W L : Int} (h : vldB S W L = false) (w : World) :
    Calls Try.prog 21 #[.agg #[.int .i64 S, .int .i64 W, .int .i64 L]] w fun e w' => e = .returned (.tuple #[.agg #[.int .i64 0, .int .i64 0, .int .i64 0, .bool false, .map none], .int .i64 1]) ∧ Ext w w' := by
  have H := Lib.hid h; clear h
  go_enter Try.func21, Try.ntmps21
  go_wp2_with (go_at_call 30; refine (valid_no H.out _).mono ?_; rintro e w1 ⟨rfl, hb1⟩; obtain ⟨hc1, hf1⟩ := hb1.cells; have hz1 := hb1.size; simp at hz1)
  refine bodyPost_ret (v := .tuple #[.agg #[.int .i64 0, .int .i64 0, .int .i64 0, .bool false, .map none], .int .i64 1]) ?_ rfl ⟨rfl, ?_⟩
  · simp [results, Try.results21, go_sem, hc1]
  · exact (by repeat (first | ((with_reducible refine Ext.set1 ?_ ?_); (first | (focus (simp; done)) | (focus (simp; omega)) | (focus omega))) | (with_reducible refine Ext.alloc ?_ _) | (with_reducible exact Ext.refl _) | (refine Ext.trans ?_ (by with_reducible assumption))))

set_option maxHeartbeats 400000 in
theorem may_unknown_yes {S W L : Int} (h : Geo S W L) (w : World) :
    Calls Try.prog 14 #[.agg #[.int .i64 S, .int .i64 W, .int .i64 L]] w fun e w' => e = .returned (.tuple #[.agg #[.int .i64 S, .int .i64 W, .int .i64 L, .bool true, .map none], .int .i64 0]) ∧ Ext w w' := by
  go_enter Try.func14, Try.ntmps14
  go_wp2_with (go_at_call 30; refine (valid_yes h _).mono ?_; rintro e w1 ⟨rfl, hb1⟩; obtain ⟨hc1, hf1⟩ := hb1.cells; have hz1 := hb1.size; simp at hz1)
  refine bodyPost_ret (v := .tuple #[.agg #[.int .i64 S, .int .i64 W, .int .i64 L, .bool true, .map none], .int .i64 0]) ?_ rfl ⟨rfl, ?_⟩
  · simp [results, Try.results14, go_sem, hc1]
  · exact (by repeat (first | ((with_reducible refine Ext.set1 ?_ ?_); (first | (focus (simp; done)) | (focus (simp; omega)) | (focus omega))) | (with_reducible refine Ext.alloc ?_ _) | (with_reducible exact Ext.refl _) | (refine Ext.trans ?_ (by with_reducible assumption))))

set_option maxHeartbeats 400000 in
theorem may_unknown_no {S W L : Int} (h : vldB S W L = false) (w : World) :
    Calls Try.prog 14 #[.agg #[.int .i64 S, .int .i64 W, .int .i64 L]] w fun e w' => e = .returned (.tuple #[.agg #[.int .i64 0, .int .i64 0, .int .i64 0, .bool false, .map none], .int .i64 1]) ∧ Ext w w' := by
  have H := Lib.hid h; clear h
  go_enter Try.func14, Try.ntmps14
  go_wp2_with (go_at_call 30; refine (valid_no H.out _).mono ?_; rintro e w1 ⟨rfl, hb1⟩; obtain ⟨hc1, hf1⟩ := hb1.cells; have hz1 := hb1.size; simp at hz1)
  refine bodyPost_ret (v := .tuple #[.agg #[.int .i64 0, .int .i64 0, .int .i64 0, .bool false, .map none], .int .i64 1]) ?_ rfl ⟨rfl, ?_⟩
  · simp [results, Try.results14, go_sem, hc1]
  · exact (by repeat (first | ((with_reducible refine Ext.set1 ?_ ?_); (first | (focus (simp; done)) | (focus (simp; omega)) | (focus omega))) | (with_reducible refine Ext.alloc ?_ _) | (with_reducible exact Ext.refl _) | (refine Ext.trans ?_ (by with_reducible assumption))))

set_option maxHeartbeats 400000 in
theorem may_age_unknown (S W L x : Int) (p : Option Nat) (w : World) :
    Calls Try.prog 23 #[.agg #[.int .i64 S, .int .i64 W, .int .i64 L, .bool true, .map p], .int .i64 x] w fun e w' => e = .returned (.tuple #[.int .i64 0, .bool (decide (0 ≤ x))]) ∧ Ext w w' := by
  go_enter Try.func23, Try.ntmps23
  go_wp2
  go_ret2
  exact ⟨rfl, (Ext.refl _).alloc _⟩

set_option maxHeartbeats 400000 in
theorem may_age (S W L x : Int) (p : Option Nat) (n : Nat) (f : FM) (w : World) (h : IMapO w p n f) (hx : I64 x) (c : Int) (ok : Bool) (hc : (f x).getD 0 = c) (hok : (f x).isSome = ok) :
    Calls Try.prog 23 #[.agg #[.int .i64 S, .int .i64 W, .int .i64 L, .bool false, .map p], .int .i64 x] w fun e w' => e = .returned (.tuple #[.int .i64 c, .bool ok]) ∧ Ext w w' := by
  have HC := Lib.hid hc; have HO := Lib.hid hok; clear hc hok
  go_enter Try.func23, Try.ntmps23
  go_wp2_with (at_lookup; refine wpList_look_any _ rfl _ _ rfl p n f rfl (h.ext ((Ext.refl _).alloc _)) x rfl hx c ok HC.out HO.out ?_)
  go_ret2
  exact ⟨rfl, (Ext.refl _).alloc _⟩

end Go.Proofs.Ytjckghdgogkeaaa
