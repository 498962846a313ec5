/- A cache in plain Lean: its rows, what an access does to them: no program in sight. -/
import Derived.Test.YtdbgnniedcibeaaBase
namespace Go.Proofs.Ytdbgnniedcibeaa
open Go.RowKit
set_option linter.unusedVariables false

/-- The row after an access of x. -/
def cRow (W x : Int) (r : List Int) : List Int := (x :: r.erase x).take W.toNat
/-- The rows after an access of the line x. -/
def cAcc (S W : Int) (rows : List (List Int)) (x : Int) : List (List Int) := rows.set (x % S).toNat (cRow W x (rows.getD (x % S).toNat []))
/-- Each row has distinct lines of its own set, no more than the ways. -/
structure Rows (S W : Int) (rows : List (List Int)) : Prop where
  len : (rows.length : Int) = S
  short : ∀ i, ((rows.getD i []).length : Int) ≤ W
  nodup : ∀ i, (rows.getD i []).Nodup
  mine : ∀ i x, x ∈ rows.getD i [] → 0 ≤ x ∧ x % S = i

theorem getD_set_same {rows : List (List Int)} {i : Nat} (h : i < rows.length) (r : List Int) : (rows.set i r).getD i [] = r := by simp [List.getD, h]
theorem getD_set_other {rows : List (List Int)} {i k : Nat} (h : k ≠ i) (r : List Int) : (rows.set i r).getD k [] = rows.getD k [] := by simp [List.getD, Ne.symm h]
theorem mem_erase_iff {r : List Int} (h : r.Nodup) {x y : Int} : y ∈ r.erase x ↔ y ≠ x ∧ y ∈ r := h.mem_erase_iff

theorem rows_empty {S W : Int} (hs : 1 ≤ S) (hw : 1 ≤ W) : Rows S W (List.replicate S.toNat []) := by
  have e : ∀ i, (List.replicate S.toNat ([] : List Int)).getD i [] = [] := fun i => by
    simp only [List.getD, List.getElem?_replicate]; split <;> rfl
  exact ⟨by simp; omega, fun i => by rw [e]; simp; omega, fun i => by rw [e]; exact List.nodup_nil, fun i x hx => by rw [e] at hx; cases hx⟩

theorem cRow_cons {W x : Int} {r : List Int} (hw : 1 ≤ W) : cRow W x r = x :: (r.erase x).take (W.toNat - 1) := by
  unfold cRow
  obtain ⟨k, hk⟩ : ∃ k, W.toNat = k + 1 := ⟨W.toNat - 1, by omega⟩
  rw [hk]; rfl
theorem mem_cRow {W x y : Int} {r : List Int} (hw : 1 ≤ W) (h : y ∈ cRow W x r) : y = x ∨ y ∈ r := by
  rw [cRow_cons hw, List.mem_cons] at h
  rcases h with h | h
  · exact .inl h
  · exact .inr (List.mem_of_mem_erase (List.mem_of_mem_take h))
theorem nodup_cRow {W x : Int} {r : List Int} (hw : 1 ≤ W) (h : r.Nodup) : (cRow W x r).Nodup := by
  rw [cRow_cons hw, List.nodup_cons]
  refine ⟨fun hm => ?_, (h.erase x).sublist (List.take_sublist _ _)⟩
  exact ((mem_erase_iff h).1 (List.mem_of_mem_take hm)).1 rfl
theorem length_cRow {W x : Int} {r : List Int} (hw : 1 ≤ W) : ((cRow W x r).length : Int) ≤ W := by
  unfold cRow; rw [List.length_take]; omega

theorem Rows.acc {S W : Int} {rows : List (List Int)} (h : Rows S W rows) (hs : 1 ≤ S) (hw : 1 ≤ W) {x : Int} (hx : 0 ≤ x) : Rows S W (cAcc S W rows x) := by
  have hi := Int.emod_nonneg x (show S ≠ 0 by omega)
  have hi2 := Int.emod_lt_of_pos x (show 0 < S by omega)
  have hlt : (x % S).toNat < rows.length := by have := h.len; omega
  refine ⟨by unfold cAcc; rw [List.length_set]; exact h.len, fun i => ?_, fun i => ?_, fun i y hy => ?_⟩
  · by_cases e : i = (x % S).toNat
    · subst e; unfold cAcc; rw [getD_set_same hlt]; exact length_cRow hw
    · unfold cAcc; rw [getD_set_other e]; exact h.short i
  · by_cases e : i = (x % S).toNat
    · subst e; unfold cAcc; rw [getD_set_same hlt]; exact nodup_cRow hw (h.nodup _)
    · unfold cAcc; rw [getD_set_other e]; exact h.nodup i
  · by_cases e : i = (x % S).toNat
    · subst e
      unfold cAcc at hy; rw [getD_set_same hlt] at hy
      rcases mem_cRow hw hy with rfl | hy
      · exact ⟨hx, by omega⟩
      · exact h.mine _ y hy
    · unfold cAcc at hy; rw [getD_set_other e] at hy; exact h.mine i y hy

/-- Where the line at place j + 1 of a touched row stood before: at j, if the touched line stood behind it or nowhere; else at j + 1. -/
theorem cRow_at {W x : Int} {r : List Int} (hw : 1 ≤ W) (hn : r.Nodup) {j : Nat} (hj : j + 1 < (cRow W x r).length) :
    ∃ p, (p = j ∨ (p = j + 1 ∧ ∃ q, q ≤ j ∧ q < r.length ∧ r.getD q 0 = x)) ∧ p < r.length ∧ (cRow W x r).getD (j + 1) 0 = r.getD p 0 ∧ r.getD p 0 ≠ x ∧ ((j : Int) + 1 < W) := by
  rw [cRow_cons hw] at hj ⊢
  simp only [List.length_cons, List.length_take] at hj
  have hjl : j < (r.erase x).length := by omega
  have e1 : (x :: (r.erase x).take (W.toNat - 1)).getD (j + 1) 0 = (r.erase x).getD j 0 := by
    simp only [List.getD, List.getElem?_cons_succ, List.getElem?_take]
    rw [if_pos (by omega)]
  rw [e1]
  have hmem : (r.erase x).getD j 0 ∈ r.erase x := by
    rw [List.getD, List.getElem?_eq_getElem hjl]; exact List.getElem_mem hjl
  have hne := ((mem_erase_iff hn).1 hmem).1
  by_cases hx : x ∈ r
  · have hq := List.idxOf_lt_length_of_mem hx
    have e2 : r.erase x = r.eraseIdx (r.idxOf x) := List.erase_eq_eraseIdx_of_idxOf rfl
    have hqx : r.getD (r.idxOf x) 0 = x := by rw [List.getD, List.getElem?_eq_getElem hq]; exact List.getElem_idxOf hq
    rw [e2] at hne hjl ⊢
    rw [List.length_eraseIdx, if_pos hq] at hjl
    by_cases c : j < r.idxOf x
    · have e3 : (r.eraseIdx (r.idxOf x)).getD j 0 = r.getD j 0 := by simp only [List.getD, List.getElem?_eraseIdx]; rw [if_pos c]
      rw [e3] at hne ⊢
      exact ⟨j, .inl rfl, by omega, rfl, hne, by omega⟩
    · have e3 : (r.eraseIdx (r.idxOf x)).getD j 0 = r.getD (j + 1) 0 := by simp only [List.getD, List.getElem?_eraseIdx]; rw [if_neg c]
      rw [e3] at hne ⊢
      exact ⟨j + 1, .inr ⟨rfl, _, by omega, hq, hqx⟩, by omega, rfl, hne, by omega⟩
  · rw [List.erase_of_not_mem hx] at hne hjl ⊢
    exact ⟨j, .inl rfl, hjl, rfl, hne, by omega⟩

/-- All lines are at most M. -/
def Top (M : Int) (rows : List (List Int)) : Prop := ∀ i x, x ∈ rows.getD i [] → x ≤ M
theorem top_empty (M : Int) (n : Nat) : Top M (List.replicate n []) := fun i x hx => by
  have e : (List.replicate n ([] : List Int)).getD i [] = [] := by simp only [List.getD, List.getElem?_replicate]; split <;> rfl
  rw [e] at hx; cases hx
theorem Top.acc {M S W : Int} {rows : List (List Int)} (h : Top M rows) (hw : 1 ≤ W) {x : Int} (hx : x ≤ M) : Top M (cAcc S W rows x) := fun i y hy => by
  unfold cAcc at hy
  by_cases e : i = (x % S).toNat
  · by_cases c : i < rows.length
    · subst e
      rw [getD_set_same c] at hy
      rcases mem_cRow hw hy with rfl | hy
      · exact hx
      · exact h _ y hy
    · rw [List.getD, List.getElem?_eq_none (by rw [List.length_set]; omega)] at hy
      cases hy
  · rw [getD_set_other e] at hy
    exact h i y hy
theorem Top.all {M : Int} {rows : List (List Int)} (h : Top M rows) : ∀ l ∈ rows, ∀ x ∈ l, x ≤ M := fun l hl x hx => by
  obtain ⟨i, hi, rfl⟩ := List.getElem_of_mem hl
  exact h i x (by rw [List.getD, List.getElem?_eq_getElem hi]; exact hx)
theorem Rows.all {S W : Int} {rows : List (List Int)} (h : Rows S W rows) : ∀ l ∈ rows, ∀ x ∈ l, 0 ≤ x := fun l hl x hx => by
  obtain ⟨i, hi, rfl⟩ := List.getElem_of_mem hl
  exact (h.mine i x (by rw [List.getD, List.getElem?_eq_getElem hi]; exact hx)).1
end Go.Proofs.Ytdbgnniedcibeaa
