/- The contract of (may.State).copied. -/
import Derived.Test.YtjckghdgogkeaaaMay0
import Derived.Test.YtjckghdgogkeaaaMapEq
namespace Go.Proofs.Ytjckghdgogkeaaa
open Go.RowKit Go.Maps
set_option linter.unusedVariables false

set_option maxHeartbeats 400000 in
theorem may_copied_nil (S W L : Int) (w : World) :
    Calls Try.prog 36 #[.agg #[.int .i64 S, .int .i64 W, .int .i64 L, .bool false, .map none]] w fun e w' => ∃ b, (e = .returned (.agg #[.int .i64 S, .int .i64 W, .int .i64 L, .bool false, .map (some b)]) ∧ w.heap.size ≤ b) ∧ IMap w' b 0 noF ∧ Ext w w' := by
  have hq := fun w => run_eql_map_nil (P := Try.prog) w 29 _ _ none Try.underlying29
  have hmm := @run_makeMap Try.prog
  go_enter Try.func36, Try.ntmps36
  go_wp2_with (go_at_call 47; refine (clone_nil _).mono ?_; rintro e w' ⟨rfl, rfl⟩)
  refine bodyPost_ret (v := .agg #[.int .i64 S, .int .i64 W, .int .i64 L, .bool false, .map (some (w.heap.size + 1 + 1))]) ?_ rfl ⟨_, ⟨rfl, by omega⟩, IMap.made' (by simp), (by repeat (first | ((with_reducible refine Ext.set1 ?_ ?_); (first | (focus (simp; done)) | (focus (simp; omega)) | (focus omega))) | (with_reducible refine Ext.alloc ?_ _) | (with_reducible exact Ext.refl _) | (refine Ext.trans ?_ (by with_reducible assumption))))⟩
  simp [results, Try.results36, go_sem]

set_option maxHeartbeats 400000 in
theorem may_copied_some (S W L : Int) (b n : Nat) (f : FM) (w : World) (h : IMap w b n f) :
    Calls Try.prog 36 #[.agg #[.int .i64 S, .int .i64 W, .int .i64 L, .bool false, .map (some b)]] w fun e w' => ∃ b, (e = .returned (.agg #[.int .i64 S, .int .i64 W, .int .i64 L, .bool false, .map (some b)]) ∧ w.heap.size ≤ b) ∧ IMap w' b n f ∧ Ext w w' := by
  have hq := fun w r => run_eql_map_nil (P := Try.prog) w 29 _ _ (some r) Try.underlying29
  go_enter Try.func36, Try.ntmps36
  go_wp2_with (go_at_call 47; refine Calls.mono (clone_im (h.ext (by repeat (first | ((with_reducible refine Ext.set1 ?_ ?_); (first | (focus (simp; done)) | (focus (simp; omega)) | (focus omega))) | (with_reducible refine Ext.alloc ?_ _) | (with_reducible exact Ext.refl _) | (refine Ext.trans ?_ (by with_reducible assumption)))))) ?_; rintro e w1 ⟨rfl, him1, hb1⟩; obtain ⟨hc1, hf1⟩ := hb1.cells; have hz1 := hb1.size; simp at hz1; have c4 := hc1 w.heap.size 4 (by simp <;> omega); simp at c4)
  simp at him1
  refine bodyPost_ret (v := .agg #[.int .i64 S, .int .i64 W, .int .i64 L, .bool false, .map (some (w.heap.size + 1 + 1))]) ?_ rfl ⟨_, ⟨rfl, by omega⟩, ?_, ?_⟩
  · simp [results, Try.results36, go_sem, hc1]
  · exact (by (repeat (first | ((with_reducible refine IMap.set1 ?_ ?_); (focus omega)) | (with_reducible refine IMap.alloc ?_ _))); with_reducible assumption)
  · exact (by repeat (first | ((with_reducible refine Ext.set1 ?_ ?_); (first | (focus (simp; done)) | (focus (simp; omega)) | (focus omega))) | (with_reducible refine Ext.alloc ?_ _) | (with_reducible exact Ext.refl _) | (refine Ext.trans ?_ (by with_reducible assumption))))

/-- (may.State).copied: a state with a map of its own. -/
theorem may_copied (S W L : Int) (p : Option Nat) (n : Nat) (f : FM) (w : World) (h : IMapO w p n f) :
    Calls Try.prog 36 #[.agg #[.int .i64 S, .int .i64 W, .int .i64 L, .bool false, .map p]] w fun e w' => ∃ b, (e = .returned (.agg #[.int .i64 S, .int .i64 W, .int .i64 L, .bool false, .map (some b)]) ∧ w.heap.size ≤ b) ∧ IMap w' b n f ∧ Ext w w' := by
  rcases h with ⟨rfl, h⟩ | ⟨b, rfl, h⟩
  · refine (may_copied_nil S W L w).mono fun e w' ⟨b, h1, h2, h3⟩ => ⟨b, h1, ?_, h3⟩
    exact (h2.mono (Nat.zero_le n)).congr fun x => (h x).symm
  · exact may_copied_some S W L b n f w h
end Go.Proofs.Ytjckghdgogkeaaa
