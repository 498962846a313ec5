/- A persistent line that has been loaded stays: plain Lean. -/
import Derived.Test.YtdbgnniedcibeaaFl0
import Derived.Test.YtdbgnniedcibeaaCacheC
namespace Go.Proofs.Ytdbgnniedcibeaa
open Go.RowKit Go.Maps Go.Proofs.YtdbgnniedcibeaaW.PrintWords Go.Proofs.Ytdbgnniedcibeaa.Pusable
set_option linter.unusedVariables false

/-- Each of the lines K is persistent, and lies in its row. -/
def Held (W : Int) (m : Nat) (L K : List Int) (rows : List (List Int)) : Prop := ∀ x ∈ K, 0 ≤ x ∧ x ≤ 65535 ∧ perB W m L x = true ∧ x ∈ rows.getD (x % (m : Int)).toNat []
theorem held_acc {W : Int} {m : Nat} (hm : 0 < m) (hw : 1 ≤ W) {L K : List Int} {rows : List (List Int)} (hr : Rows (m : Int) W rows) (hi : InL L rows) (h : Held W m L K rows) {y : Int} (hy : y ∈ L) (hy0 : 0 ≤ y) : Held W m L K (cAcc (m : Int) W rows y) := by
  intro x hx
  obtain ⟨h0, h1, hp, hmem⟩ := h x hx
  refine ⟨h0, h1, hp, ?_⟩
  have hnx := Int.emod_nonneg x (show (m : Int) ≠ 0 by omega)
  have hny := Int.emod_nonneg y (show (m : Int) ≠ 0 by omega)
  unfold cAcc
  by_cases e : (x % (m : Int)).toNat = (y % (m : Int)).toNat
  · have hlt : (y % (m : Int)).toNat < rows.length := by
      have := in_set hm y
      have := hr.len
      omega
    rw [e, getD_set_same hlt]
    rw [e] at hmem
    have hsh := hr.short (y % (m : Int)).toNat
    by_cases c : y ∈ rows.getD (y % (m : Int)).toNat []
    · have e2 : cRow W y (rows.getD (y % (m : Int)).toNat []) = y :: (rows.getD (y % (m : Int)).toNat []).erase y := by
        unfold cRow
        rw [List.take_of_length_le]
        rw [List.length_cons, List.length_erase_of_mem c]
        have := List.length_pos_of_mem c
        omega
      rw [e2]
      exact (List.perm_cons_erase c).mem_iff.1 hmem
    · have hpy : perB W m L y = true := by
        unfold perB at hp ⊢
        rwa [e] at hp
      have hrm := room hm hr hi hy hy0 hpy c
      have e2 : cRow W y (rows.getD (y % (m : Int)).toNat []) = y :: rows.getD (y % (m : Int)).toNat [] := by
        unfold cRow
        rw [List.erase_of_not_mem c, List.take_of_length_le]
        rw [List.length_cons]
        omega
      rw [e2]
      exact List.mem_cons_of_mem _ hmem
  · rw [getD_set_other e]
    exact hmem
theorem acc_in {W : Int} {m : Nat} (hm : 0 < m) (hw : 1 ≤ W) {rows : List (List Int)} (hr : Rows (m : Int) W rows) (y : Int) : y ∈ (cAcc (m : Int) W rows y).getD (y % (m : Int)).toNat [] := by
  have hlt : (y % (m : Int)).toNat < rows.length := by
    have := in_set hm y
    have := hr.len
    omega
  unfold cAcc
  rw [getD_set_same hlt, cRow_cons hw]
  exact List.mem_cons_self
theorem age_in {S : Int} {rows : List (List Int)} {x : Int} (h : x ∈ rows.getD (x % S).toNat []) : 0 ≤ Lib.idxOf (rows.getD (x % S).toNat []) x := by
  rcases idx_cases (rows.getD (x % S).toNat []) x with ⟨k, _, e, _, _⟩ | ⟨_, h2, _⟩
  · rw [e]; omega
  · exact absurd h h2
end Go.Proofs.Ytdbgnniedcibeaa
