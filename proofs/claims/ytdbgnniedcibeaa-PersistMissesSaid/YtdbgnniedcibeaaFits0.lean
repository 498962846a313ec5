/- The conflicts of the sets add up to the lines; persistent lines: plain Lean. -/
import Derived.Test.YtdbgnniedcibeaaPe5
namespace Go.Proofs.Ytdbgnniedcibeaa
open Go.RowKit Go.Maps Go.Proofs.YtdbgnniedcibeaaW.PrintWords Go.Proofs.Ytdbgnniedcibeaa.Pusable
set_option linter.unusedVariables false

def sm (f : Nat → Nat) : Nat → Nat
  | 0 => 0
  | k + 1 => sm f k + f k
theorem sm_add (f g : Nat → Nat) : ∀ k, sm (fun s => f s + g s) k = sm f k + sm g k
  | 0 => rfl
  | k + 1 => by simp only [sm]; rw [sm_add f g k]; omega
theorem sm_zero : ∀ k, sm (fun _ => 0) k = 0
  | 0 => rfl
  | k + 1 => by simp only [sm]; rw [sm_zero k]
theorem sm_le {f g : Nat → Nat} (h : ∀ s, f s ≤ g s) : ∀ k, sm f k ≤ sm g k
  | 0 => Nat.le_refl _
  | k + 1 => by simp only [sm]; have := sm_le h k; have := h k; omega
theorem sm_mono {f : Nat → Nat} {j k : Nat} (h : j ≤ k) : sm f j ≤ sm f k := by
  induction h with
  | refl => exact Nat.le_refl _
  | step h ih => simp only [sm]; omega
theorem sm_const (c : Nat) : ∀ k, sm (fun _ => c) k = k * c
  | 0 => by simp [sm]
  | k + 1 => by simp only [sm]; rw [sm_const c k, Nat.succ_mul]
theorem sm_one (i : Nat) : ∀ k, sm (fun s => if i = s then 1 else 0) k = if i < k then 1 else 0
  | 0 => by simp [sm]
  | k + 1 => by
    simp only [sm]
    rw [sm_one i k]
    split <;> split <;> split <;> omega
theorem sm_count {m : Nat} (hm : 0 < m) (Q : Int → Bool) : ∀ L : List Int, sm (fun s => L.countP fun x => Q x && decide (x % (m : Int) = (s : Int))) m = L.countP Q
  | [] => by simp [sm_zero]
  | x :: L => by
    obtain ⟨i, hi⟩ : ∃ i : Nat, x % (m : Int) = i := ⟨(x % (m : Int)).toNat, by have := Int.emod_nonneg x (show (m : Int) ≠ 0 by omega); omega⟩
    have him : i < m := by have := Int.emod_lt_of_pos x (show 0 < (m : Int) by omega); omega
    have e : (fun s : Nat => (x :: L).countP fun x => Q x && decide (x % (m : Int) = (s : Int))) = fun s : Nat => (L.countP fun x => Q x && decide (x % (m : Int) = (s : Int))) + if Q x = true then (if i = s then 1 else 0) else 0 := by
      funext s
      rw [List.countP_cons, hi]
      congr 1
      by_cases hq : Q x = true
      · simp only [hq, Bool.true_and, if_true, decide_eq_true_eq]
        by_cases c : i = s
        · rw [if_pos c, if_pos (by omega)]
        · rw [if_neg c, if_neg (by omega)]
      · simp [hq]
    rw [e, sm_add, sm_count hm Q L, List.countP_cons]
    congr 1
    by_cases hq : Q x = true
    · simp only [hq, if_true]
      rw [sm_one, if_pos him]
    · simp [hq, sm_zero]
theorem conf_sum {m : Nat} (hm : 0 < m) (L : List Int) : sm (conf m L) m = L.length := by
  have := sm_count hm (fun _ => true) L
  simp only [Bool.true_and] at this
  rw [show (conf m L) = fun s : Nat => L.countP fun x => decide (x % (m : Int) = (s : Int)) from rfl, this]
  simp
theorem in_set {m : Nat} (hm : 0 < m) (x : Int) : (x % (m : Int)).toNat < m := by
  have := Int.emod_nonneg x (show (m : Int) ≠ 0 by omega)
  have := Int.emod_lt_of_pos x (show 0 < (m : Int) by omega)
  omega
theorem pers_all {W : Int} {m : Nat} (hm : 0 < m) {L : List Int} (h : ∀ s, s < m → ((conf m L s : Nat) : Int) ≤ W) : (pers W m L).length = L.length := by
  unfold pers
  rw [List.filter_eq_self.2 fun x _ => (show perB W m L x = true from decide_eq_true (h _ (in_set hm x)))]
theorem pers_none {W : Int} {m : Nat} (hm : 0 < m) {L : List Int} (h : ∀ s, s < m → W < ((conf m L s : Nat) : Int)) : (pers W m L).length = 0 := by
  unfold pers
  rw [List.filter_eq_nil_iff.2 fun x _ => by
    unfold perB
    rw [decide_eq_true_eq]
    have := h _ (in_set hm x)
    omega]
  rfl
theorem pers_le {W : Int} (m : Nat) (L : List Int) : (pers W m L).length ≤ L.length := List.length_filter_le _ _
theorem pers_fit {W : Int} {m : Nat} (hm : 0 < m) (hw : 0 ≤ W) (L : List Int) : ((pers W m L).length : Int) ≤ (m : Int) * W := by
  have h1 := sm_count hm (perB W m L) L
  have h2 : (pers W m L).length = L.countP (perB W m L) := by unfold pers; rw [List.countP_eq_length_filter]
  have h3 : sm (fun s => L.countP fun x => perB W m L x && decide (x % (m : Int) = (s : Int))) m ≤ sm (fun _ => W.toNat) m := by
    refine sm_le (fun s => ?_) m
    by_cases c : ((conf m L s : Nat) : Int) ≤ W
    · have : (L.countP fun x => perB W m L x && decide (x % (m : Int) = (s : Int))) ≤ conf m L s := List.countP_mono_left fun x _ hx => by
        simp only [Bool.and_eq_true] at hx
        exact hx.2
      omega
    · have : (L.countP fun x => perB W m L x && decide (x % (m : Int) = (s : Int))) = 0 := by
        rw [List.countP_eq_zero]
        intro x _
        simp only [Bool.and_eq_true, decide_eq_true_eq, not_and]
        intro h e
        unfold perB at h
        rw [decide_eq_true_eq, e, Int.toNat_natCast] at h
        exact c h
      omega
  rw [sm_const] at h3
  rw [h2, ← h1]
  have : ((sm (fun s => L.countP fun x => perB W m L x && decide (x % (m : Int) = (s : Int))) m : Nat) : Int) ≤ ((m * W.toNat : Nat) : Int) := by omega
  rw [Int.natCast_mul, Int.toNat_of_nonneg hw] at this
  exact this
/-- The greatest and the least of the first k values. -/
def gr (f : Nat → Nat) : Nat → Int
  | 0 => 0
  | k + 1 => max (gr f k) (f k : Nat)
def ls (f : Nat → Nat) : Nat → Int
  | 0 => 1073741824
  | k + 1 => min (ls f k) (f k : Nat)
theorem le_gr (f : Nat → Nat) : ∀ k s, s < k → ((f s : Nat) : Int) ≤ gr f k
  | 0, _, h => absurd h (Nat.not_lt_zero _)
  | k + 1, s, h => by
    simp only [gr]
    by_cases c : s = k
    · subst c; omega
    · have := le_gr f k s (by omega); omega
theorem ls_le (f : Nat → Nat) : ∀ k s, s < k → ls f k ≤ ((f s : Nat) : Int)
  | 0, _, h => absurd h (Nat.not_lt_zero _)
  | k + 1, s, h => by
    simp only [ls]
    by_cases c : s = k
    · subst c; omega
    · have := ls_le f k s (by omega); omega
structure FitsFacts (W : Int) (m : Nat) (L : List Int) : Prop where
  a : (pers W m L).length ≤ L.length
  b : ¬ W < gr (conf m L) m → (pers W m L).length = L.length
  c : ¬ ls (conf m L) m ≤ W → (pers W m L).length = 0
  d : ((pers W m L).length : Int) ≤ (m : Int) * W
  e : ¬ W < (L.length : Int) → (pers W m L).length = L.length
theorem fits_facts {W : Int} {m : Nat} (hm : 0 < m) (hw : 0 ≤ W) (L : List Int) : FitsFacts W m L :=
  ⟨pers_le m L, fun h => pers_all hm fun s hs => by have := le_gr (conf m L) m s hs; omega, fun h => pers_none hm fun s hs => by have := ls_le (conf m L) m s hs; omega, pers_fit hm hw L,
   fun h => pers_all hm fun s hs => by have : conf m L s ≤ L.length := List.countP_le_length; omega⟩
end Go.Proofs.Ytdbgnniedcibeaa
