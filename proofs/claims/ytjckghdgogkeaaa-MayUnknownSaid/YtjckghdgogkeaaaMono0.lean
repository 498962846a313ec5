/- A join is monotone under accesses: plain Lean. -/
import Derived.Test.YtjckghdgogkeaaaMay11
namespace Go.Proofs.Ytjckghdgogkeaaa
open Go.RowKit Go.Maps Go.Proofs.Ytjckghdgogkeaaa.PMayDescribes
set_option linter.unusedVariables false

def FitS (W : Int) (st : St) : Prop := ∀ f, st = some f → Fit W f
/-- What st has, su has, with no greater bound. -/
def Le (st su : St) : Prop := ∀ g, su = some g → ∃ f, st = some f ∧ ∀ y c, f y = some c → ∃ c', g y = some c' ∧ c' ≤ c
theorem Le.join {st su : St} : Le st (sJoin st su) := by
  intro g hg
  cases st with
  | none => cases hg
  | some f =>
    cases su with
    | none => cases hg
    | some g' =>
      cases hg
      refine ⟨f, rfl, fun y c hc => ?_⟩
      unfold joined
      rw [hc]
      cases hg : g' y with
      | none => exact ⟨c, rfl, Int.le_refl _⟩
      | some b =>
        simp only [least]
        split
        · exact ⟨b, rfl, by omega⟩
        · exact ⟨c, rfl, Int.le_refl _⟩
theorem Le.eq {st su : St} (h : Le st su) : sJoin st su = su := by
  cases su with
  | none => cases st <;> rfl
  | some g =>
    obtain ⟨f, rfl, hf⟩ := h g rfl
    show some (joined f g) = some g
    congr 1
    funext y
    unfold joined
    cases hy : f y with
    | none => rfl
    | some c =>
      obtain ⟨c', hg, hle⟩ := hf y c hy
      rw [hg]
      simp only [least]
      split
      · rfl
      · congr 1
        omega
theorem le_acc {S W : Int} {f g : FM} (hf : Fit W f) (hg : Fit W g) (h : ∀ y c, f y = some c → ∃ c', g y = some c' ∧ c' ≤ c) (x : Int) : ∀ y c, mayAcc S W f x y = some c → ∃ c', mayAcc S W g x y = some c' ∧ c' ≤ c := by
  intro y c hc
  have hhg : (g x).getD W ≤ (f x).getD W := by
    cases hx : f x with
    | none =>
      cases hgx : g x with
      | none => exact Int.le_refl _
      | some b =>
        have := hg x b hgx
        simp only [Option.getD_some, Option.getD_none]
        omega
    | some a =>
      obtain ⟨b, hb, hle⟩ := h x a hx
      rw [hb]
      exact hle
  unfold mayAcc put at hc ⊢
  by_cases hyx : y = x
  · rw [if_pos hyx] at hc ⊢
    exact ⟨0, rfl, by cases hc; exact Int.le_refl _⟩
  · rw [if_neg hyx] at hc ⊢
    unfold aged at hc ⊢
    cases hfy : f y with
    | none => rw [hfy] at hc; cases hc
    | some a =>
      obtain ⟨b, hgy, hba⟩ := h y a hfy
      have hb := hg y b hgy
      have ha := hf y a hfy
      rw [hfy] at hc
      rw [hgy]
      simp only at hc ⊢
      by_cases hs : y % S ≠ x % S
      · rw [if_pos (.inr (.inl hs))] at hc ⊢
        cases hc
        exact ⟨b, rfl, hba⟩
      · by_cases k1 : (f x).getD W < a
        · rw [if_pos (.inr (.inr k1))] at hc
          cases hc
          by_cases k2 : (g x).getD W < b
          · rw [if_pos (.inr (.inr k2))]
            exact ⟨b, rfl, hba⟩
          · rw [if_neg (by rintro (k | k | k) <;> contradiction), if_neg (by omega)]
            exact ⟨b + 1, rfl, by omega⟩
        · rw [if_neg (by rintro (k | k | k) <;> contradiction)] at hc
          by_cases k3 : W ≤ a + 1
          · rw [if_pos k3] at hc; cases hc
          · rw [if_neg k3] at hc
            cases hc
            by_cases k2 : (g x).getD W < b
            · rw [if_pos (.inr (.inr k2))]
              exact ⟨b, rfl, by omega⟩
            · rw [if_neg (by rintro (k | k | k) <;> contradiction), if_neg (by omega)]
              exact ⟨b + 1, rfl, by omega⟩
theorem le_puts {f g : FM} (h : ∀ y c, f y = some c → ∃ c', g y = some c' ∧ c' ≤ c) (lo hi : Int) : ∀ y c, puts f lo hi y = some c → ∃ c', puts g lo hi y = some c' ∧ c' ≤ c := by
  intro y c hc
  unfold puts at hc ⊢
  split
  · rename_i k
    rw [if_pos k] at hc
    exact ⟨0, rfl, by cases hc; exact Int.le_refl _⟩
  · rename_i k
    rw [if_neg k] at hc
    exact h y c hc
theorem fitS_step {S W : Int} {st : St} (h : FitS W st) (hW : 1 ≤ W) (lo hi : Int) : FitS W (sStep S W st lo hi) := by
  intro f hf
  cases st with
  | none => unfold sStep at hf; split at hf <;> cases hf
  | some g =>
    have hg := h g rfl
    unfold sStep at hf
    split at hf
    · simp only [sAcc] at hf
      split at hf
      · cases hf; exact hg
      · cases hf; exact fit_acc hg hW (by omega)
    · simp only [sRange] at hf
      split at hf
      · cases hf; exact hg
      · split at hf
        · cases hf; exact fit_acc hg hW (by omega)
        · split at hf
          · cases hf
          · cases hf; exact fit_puts hg hW (by omega)
theorem Le.step {S W : Int} {st su : St} (h : Le st su) (hf : FitS W st) (hg : FitS W su) (lo hi : Int) : Le (sStep S W st lo hi) (sStep S W su lo hi) := by
  intro g' hg'
  cases su with
  | none => unfold sStep at hg'; split at hg' <;> cases hg'
  | some g =>
    obtain ⟨f, rfl, hfg⟩ := h g rfl
    have hf := hf f rfl
    have hg := hg g rfl
    unfold sStep at hg' ⊢
    by_cases h0 : lo = hi
    · rw [if_pos h0] at hg' ⊢
      simp only [sAcc] at hg' ⊢
      by_cases h1 : lo < 0
      · rw [if_pos h1] at hg' ⊢
        cases hg'
        exact ⟨f, rfl, hfg⟩
      · rw [if_neg h1] at hg' ⊢
        cases hg'
        exact ⟨_, rfl, le_acc hf hg hfg lo⟩
    · rw [if_neg h0] at hg' ⊢
      simp only [sRange] at hg' ⊢
      by_cases h1 : hi < max lo 0
      · rw [if_pos h1] at hg' ⊢
        cases hg'
        exact ⟨f, rfl, hfg⟩
      · rw [if_neg h1] at hg' ⊢
        by_cases h2 : max lo 0 = hi
        · rw [if_pos h2] at hg' ⊢
          cases hg'
          exact ⟨_, rfl, le_acc hf hg hfg hi⟩
        · rw [if_neg h2] at hg' ⊢
          by_cases h3 : 64 ≤ hi - max lo 0
          · rw [if_pos h3] at hg'
            cases hg'
          · rw [if_neg h3] at hg' ⊢
            cases hg'
            exact ⟨_, rfl, le_puts hfg _ _⟩
theorem fitS_steps {S W : Int} (hW : 1 ≤ W) : ∀ (l : List S45) {st : St}, FitS W st → FitS W (sSteps S W st l)
  | [], _, h => h
  | x :: t, _, h => fitS_steps hW t (fitS_step h hW x.f0 x.f1)
theorem fitS_start (W : Int) : FitS W (some noF) := fun f h => by cases h; exact fit_no W
theorem fitS_join {W : Int} {st su : St} (h : FitS W st) (k : FitS W su) : FitS W (sJoin st su) := by
  intro f hf
  cases st with
  | none => cases hf
  | some a =>
    cases su with
    | none => cases hf
    | some b =>
      cases hf
      exact fit_joined (h a rfl) (k b rfl)
theorem fitS_of {w : World} {W : Int} {n : Nat} {st : St} {u : Bool} {p : Option Nat} (h : StB w W n st u p) : FitS W st := by
  intro f hf
  rcases h with ⟨_, _, rfl⟩ | ⟨_, g, rfl, _, h⟩
  · cases hf
  · cases hf; exact h
end Go.Proofs.Ytjckghdgogkeaaa
