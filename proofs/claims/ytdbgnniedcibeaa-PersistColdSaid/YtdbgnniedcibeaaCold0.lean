/- Two caches, of which one has been flushed, under the same accesses: plain Lean. -/
import Derived.Test.YtdbgnniedcibeaaFits0
import Derived.Test.YtdbgnniedcibeaaCp0
namespace Go.Proofs.Ytdbgnniedcibeaa
open Go.RowKit
set_option linter.unusedVariables false

theorem prefix_take {l1 l2 : List Int} (h : l1 <+: l2) (n : Nat) : l1.take n <+: l2.take n := by
  obtain ⟨t, rfl⟩ := h
  rw [List.take_append]
  exact List.prefix_append _ _
theorem prefix_row {W x : Int} {s r : List Int} (h : s <+: r) : cRow W x s <+: cRow W x r := by
  unfold cRow
  refine prefix_take ?_ _
  obtain ⟨t, rfl⟩ := h
  by_cases c : x ∈ s
  · rw [List.erase_append_left t c]
    exact ⟨t, by simp⟩
  · rw [List.erase_append_right t c, List.erase_of_not_mem c]
    exact ⟨t.erase x, by simp⟩
theorem len_hit {W x : Int} {s : List Int} (h : x ∈ s) (hw : (s.length : Int) ≤ W) : (cRow W x s).length = s.length := by
  unfold cRow
  rw [List.length_take, List.length_cons, List.length_erase_of_mem h]
  have := List.length_pos_of_mem h
  omega
theorem len_miss {W x : Int} {s : List Int} (h : ¬ x ∈ s) (hw : (s.length : Int) ≤ W) : s.length ≤ (cRow W x s).length := by
  unfold cRow
  rw [List.length_take, List.length_cons, List.erase_of_not_mem h]
  omega
theorem len_miss_room {W x : Int} {s : List Int} (h : ¬ x ∈ s) (hw : (s.length : Int) + 1 ≤ W) : (cRow W x s).length = s.length + 1 := by
  unfold cRow
  rw [List.length_take, List.length_cons, List.erase_of_not_mem h]
  omega
/-- The rows of the one begin those of the other. -/
def Pre (rx ry : List (List Int)) : Prop := ∀ i, ry.getD i [] <+: rx.getD i []
/-- How many lines there are in the first m rows. -/
def tot (m : Nat) (rows : List (List Int)) : Nat := sm (fun i => (rows.getD i []).length) m
theorem sm_set {f g : Nat → Nat} {i : Nat} (h : ∀ j, j ≠ i → g j = f j) : ∀ m, i < m → sm g m + f i = sm f m + g i
  | 0, hi => absurd hi (Nat.not_lt_zero _)
  | m + 1, hi => by
    simp only [sm]
    by_cases c : i = m
    · subst c
      have : ∀ k, k ≤ i → sm g k = sm f k := fun k => by
        induction k with
        | zero => intro _; rfl
        | succ k ih => intro hk; simp only [sm]; rw [ih (by omega), h k (by omega)]
      rw [this i (Nat.le_refl _)]
      omega
    · have := sm_set h m (by omega)
      have := h m (Ne.symm c)
      omega
theorem pre_start {rx : List (List Int)} (n : Nat) : Pre rx (List.replicate n []) := fun i => by
  have e : (List.replicate n ([] : List Int)).getD i [] = [] := by simp only [List.getD, List.getElem?_replicate]; split <;> rfl
  rw [e]; exact List.nil_prefix
theorem tot_le {S W : Int} {m : Nat} {rows : List (List Int)} (hr : Rows S W rows) (hw : 0 ≤ W) : ((tot m rows : Nat) : Int) ≤ (m : Int) * W := by
  have h : tot m rows ≤ sm (fun _ => W.toNat) m := sm_le (fun s => by have := hr.short s; omega) m
  rw [sm_const] at h
  have : ((tot m rows : Nat) : Int) ≤ ((m * W.toNat : Nat) : Int) := by omega
  rw [Int.natCast_mul, Int.toNat_of_nonneg hw] at this
  exact this
/-- One access of both. -/
theorem cold_step {W : Int} {m : Nat} {rx ry : List (List Int)} (hm : 0 < m) (hw : 1 ≤ W) (hx : Rows (m : Int) W rx) (hy : Rows (m : Int) W ry) (hp : Pre rx ry) {x : Int} (hx0 : 0 ≤ x) :
    Pre (cAcc (m : Int) W rx x) (cAcc (m : Int) W ry x) ∧ (x ∈ ry.getD (x % (m : Int)).toNat [] → x ∈ rx.getD (x % (m : Int)).toNat []) ∧ tot m ry ≤ tot m (cAcc (m : Int) W ry x) ∧
      (¬ x ∈ ry.getD (x % (m : Int)).toNat [] → x ∈ rx.getD (x % (m : Int)).toNat [] → tot m (cAcc (m : Int) W ry x) = tot m ry + 1) := by
  have hi := in_set hm x
  obtain ⟨i, hie⟩ : ∃ i, (x % (m : Int)).toNat = i := ⟨_, rfl⟩
  rw [hie] at hi
  have hlx : i < rx.length := by have := hx.len; omega
  have hly : i < ry.length := by have := hy.len; omega
  have ex : (cAcc (m : Int) W rx x).getD i [] = cRow W x (rx.getD i []) := by unfold cAcc; rw [hie]; exact getD_set_same hlx _
  have ey : (cAcc (m : Int) W ry x).getD i [] = cRow W x (ry.getD i []) := by unfold cAcc; rw [hie]; exact getD_set_same hly _
  have ox : ∀ k, k ≠ i → (cAcc (m : Int) W rx x).getD k [] = rx.getD k [] := fun k hk => by unfold cAcc; rw [hie]; exact getD_set_other hk _
  have oy : ∀ k, k ≠ i → (cAcc (m : Int) W ry x).getD k [] = ry.getD k [] := fun k hk => by unfold cAcc; rw [hie]; exact getD_set_other hk _
  have hs := sm_set (f := fun i => (ry.getD i []).length) (g := fun k => ((cAcc (m : Int) W ry x).getD k []).length) (i := i) (fun j hj => by rw [oy j hj]) m hi
  rw [show sm (fun k => ((cAcc (m : Int) W ry x).getD k []).length) m = tot m (cAcc (m : Int) W ry x) from rfl, show sm (fun i => (ry.getD i []).length) m = tot m ry from rfl] at hs
  rw [ey] at hs
  have hsy := hy.short i
  have hsx := hx.short i
  rw [hie]
  refine ⟨fun k => ?_, fun h => (hp i).subset h, ?_, fun h1 h2 => ?_⟩
  · by_cases c : k = i
    · subst c; rw [ex, ey]; exact prefix_row (hp k)
    · rw [ox k c, oy k c]; exact hp k
  · by_cases c : x ∈ ry.getD i []
    · have := len_hit c hsy; omega
    · have := len_miss c hsy; omega
  · have hlt : (ry.getD i []).length < (rx.getD i []).length := by
      have hle := (hp i).length_le
      by_cases c : (ry.getD i []).length = (rx.getD i []).length
      · have := (hp i).eq_of_length c
        rw [this] at h1
        exact absurd h2 h1
      · omega
    have := len_miss_room (W := W) h1 (by omega)
    omega
end Go.Proofs.Ytdbgnniedcibeaa
