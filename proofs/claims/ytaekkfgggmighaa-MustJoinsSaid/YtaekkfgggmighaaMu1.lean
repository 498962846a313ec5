/- The contract of (must.State).copied. -/
import Derived.Test.YtaekkfgggmighaaMu0
import Derived.Carry
namespace Go.Proofs.Ytaekkfgggmighaa
open Go.RowKit Go.Maps
set_option linter.unusedVariables false

theorem IMapO.lenA {w : World} {p : Option Nat} {n : Nat} {f : FM} (h : IMapO w p n f) :
    ∃ Z : Nat, Z ≤ n ∧ ∀ w' ty, (∀ b, p = some b → w'.heap[b]? = w.heap[b]?) → (Builtin.len_ #[26] ty #[.map p]).run Try.prog w' = .ok (.int .i64 (Z : Int)) w' := by
  rcases h with ⟨rfl, h⟩ | ⟨b, rfl, D, hown, hi⟩
  · refine ⟨0, Nat.zero_le _, fun w' ty _ => ?_⟩
    simp [Builtin.len_, run_underlying Try.underlying26, Result.andThen]
    rfl
  · refine ⟨Maps.size D, hown.size_le, fun w' ty hw => ?_⟩
    have hown' : w'.ownsMap Try.prog 3 RI b n D := by
      obtain ⟨es, clock, hb, r⟩ := hown
      exact ⟨es, clock, (hw b rfl).trans hb, r⟩
    exact hown'.len Try.underlying26 ty
theorem make_hint (k : Int) (w : World) : (Instr.makeMap 26 (some (.int .i64 k))).run Try.prog w = .ok (.map (some w.heap.size)) (w.alloc (.map #[] 0)) := by
  simp [Instr.makeMap, run_underlying Try.underlying26, asInt, asIntOf, Result.andThen]

set_option maxHeartbeats 400000 in
theorem must_copied (S W L : Int) (p : Option Nat) (n : Nat) (f : FM) (w : World) (h : IMapO w p n f) (hn : n ≤ 1000000) :
    Calls Try.prog 54 #[.agg #[.int .i64 S, .int .i64 W, .int .i64 L, .map p]] w fun e w' => ∃ b, (e = .returned (.map (some b)) ∧ w.heap.size ≤ b) ∧ IMap w' b n f ∧ Ext w w' := by
  obtain ⟨Z, hZ, hlenA⟩ := h.lenA
  have hlen := fun (o : Obj) ty => hlenA (w.alloc o) ty (fun b hb => Below.heap_alloc w o b (h.lt b hb))
  clear hlenA
  have hmm := make_hint
  go_enter Try.func54, Try.ntmps54
  go_wp2_with (go_at_call 59; refine Calls.mono (copy_im (n := n) (f := f) (IMap.made' (b := w.heap.size + 1) (by simp)) (IMapO.ext h (by repeat (first | ((with_reducible refine Ext.set1 ?_ ?_); (first | (focus (simp; done)) | (focus (simp; omega)) | (focus omega))) | (with_reducible refine Ext.alloc ?_ _) | (with_reducible exact Ext.refl _) | (refine Ext.trans ?_ (by with_reducible assumption))))) (fun e => by have := h.lt _ e; omega) hn) ?_; rintro e w1 ⟨rfl, him1, hg1⟩)
  go_ret
  exact ⟨w.heap.size + 1, ⟨rfl, by omega⟩, him1, Ext.grown ((by repeat (first | ((with_reducible refine Ext.set1 ?_ ?_); (first | (focus (simp; done)) | (focus (simp; omega)) | (focus omega))) | (with_reducible refine Ext.alloc ?_ _) | (with_reducible exact Ext.refl _) | (refine Ext.trans ?_ (by with_reducible assumption))))) hg1 (fun k e => by cases e; simp)⟩
end Go.Proofs.Ytaekkfgggmighaa
