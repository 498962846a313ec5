/- A new slice of numbers, read. -/
import Derived.Test.YtaekkfgggmighaaMu7
namespace Go.Proofs.Ytaekkfgggmighaa
open Go.RowKit Go.Maps Go.Proofs.YtaekkfgggmighaaW.PrintWords
set_option linter.unusedVariables false

theorem Holds1.C {w : World} {base : Nat} {v : Value} {K : List Int} (h : Holds1 w base v K) : ∃ A c, v = .slice A K.length c ∧ K.length ≤ c ∧ c ≤ maxLen ∧ KI.C w A K.length K := by
  rcases h.1.2 with ⟨rfl, h0⟩ | ⟨g, cap, cur, rfl, _, hg, hle, hm, _, _⟩
  · obtain rfl : K = [] := List.eq_nil_of_length_eq_zero h0
    exact ⟨none, 0, rfl, Nat.le_refl _, Nat.zero_le _, Kd.C_nil _ _⟩
  · refine ⟨some ⟨g, 0, none⟩, cap, rfl, hle, hm, rfl, by unfold maxLen at hm; omega, fun _ => ⟨_, rfl, fun j q hj => ⟨[.int .i64 q], rfl, rfl, fun i u hu => ?_⟩⟩⟩
    cases i with
    | succ _ => cases hu
    | zero =>
      cases hu
      have hjl : j < K.length := (List.getElem?_eq_some_iff.1 hj).1
      have := h.1.cells (g := g) rfl j (.int .i64 q) (by rw [List.getElem?_map, hj]; rfl)
      show w.cell? (Addr.add ⟨g, 0, none⟩ (j * 1 + 0)) = _
      rw [Nat.mul_one, Nat.add_zero]
      exact this

theorem cell_lt' {w : World} {p : Addr} {v : Value} (h : w.cell? p = some v) : p.block < w.heap.size := by
  unfold World.cell? at h
  by_cases c : p.block < w.heap.size
  · exact c
  · rw [Array.getElem?_eq_none (by omega)] at h
    simp at h
end Go.Proofs.Ytaekkfgggmighaa
