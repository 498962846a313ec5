/- The contracts of cache.Valid, cache.Set and cache.Line. -/
import Derived.Test.YtdbgnniedcibeaaBase
namespace Go.Proofs.Ytdbgnniedcibeaa
open Go.RowKit
set_option linter.unusedVariables false

abbrev geoV (S W L : Int) : Value := .agg #[.int .i64 S, .int .i64 W, .int .i64 L]

set_option maxHeartbeats 400000 in
theorem valid_any (S W L : Int) (w : World) :
    Calls Try.prog 17 #[.agg #[.int .i64 S, .int .i64 W, .int .i64 L]] w fun e w' => e = .returned (.bool (vldB S W L)) ∧ Ext w w' := by
  have hf : vldB S W L = (powB S 64 && (decide (1 ≤ W) && (decide (W ≤ 8) && powB L 16))) := rfl
  have HF := Lib.hid hf; clear hf
  go_enter Try.func17, Try.ntmps17
  go_wp2_with (go_at_call 33; refine (power_any _ _ _ (by omega)).mono ?_; rintro e w' ⟨rfl, rfl⟩)
  all_goals
    go_ret
    exact ⟨by rw [HF.out]; first | (simp [*]; done) | (simp [*]; intros; omega), (Ext.refl _).alloc _⟩

theorem valid_yes {S W L : Int} (h : Geo S W L) (w : World) :
    Calls Try.prog 17 #[.agg #[.int .i64 S, .int .i64 W, .int .i64 L]] w fun e w' => e = .returned (.bool true) ∧ Ext w w' := by
  have := valid_any S W L w
  rw [(vld_iff S W L).2 h] at this
  exact this

set_option maxHeartbeats 400000 in
theorem set_yes {S W L : Int} (h : Geo S W L) (x : Int) (hx : 0 ≤ x) (w : World) :
    Calls Try.prog 32 #[.agg #[.int .i64 S, .int .i64 W, .int .i64 L], .int .i64 x] w fun e w' => e = .returned (.int .i64 (x % S)) ∧ Ext w w' := by
  have hs := h.s1
  have hs6 := h.s64
  go_enter Try.func32, Try.ntmps32
  go_wp2_with (go_at_call 17; refine (valid_yes h _).mono ?_; rintro e w1 ⟨rfl, hb1⟩; obtain ⟨hc1, hf1⟩ := hb1.cells)
  go_ret
  exact ⟨rfl, ((Ext.refl _).alloc _).trans hb1⟩

set_option maxHeartbeats 400000 in
theorem line_yes {S W L : Int} (h : Geo S W L) (x : Int) (hx : 0 ≤ x) (hx2 : x ≤ 2000000) (w : World) :
    Calls Try.prog 36 #[.agg #[.int .i64 S, .int .i64 W, .int .i64 L], .int .i64 x] w fun e w' => e = .returned (.int .i64 (x / L)) ∧ Ext w w' := by
  have hs := h.l1
  have hs6 := h.l16
  go_enter Try.func36, Try.ntmps36
  go_wp2_with (go_at_call 17; refine (valid_yes h _).mono ?_; rintro e w1 ⟨rfl, hb1⟩; obtain ⟨hc1, hf1⟩ := hb1.cells)
  go_ret
  exact ⟨rfl, ((Ext.refl _).alloc _).trans hb1⟩
end Go.Proofs.Ytdbgnniedcibeaa
