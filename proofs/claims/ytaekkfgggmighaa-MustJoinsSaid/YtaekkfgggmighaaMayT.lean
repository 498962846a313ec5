/- What may's accesses do, on partial functions: no program in sight. -/
import Derived.Test.YtaekkfgggmighaaMap
namespace Go.Proofs.Ytaekkfgggmighaa
open Go.RowKit Go.Maps
set_option linter.unusedVariables false

/-- fo is f where the entry is still to come, g where it is done. -/
def Mid (f g : FM) (lf : Int → Bool) (fo : FM) : Prop := ∀ y, fo y = if lf y = true then f y else g y
theorem Mid.start {f g : FM} (h : ∀ y, f y = none → g y = none) : Mid f g (fun y => (f y).isSome) f := fun y => by
  show f y = if (f y).isSome = true then f y else g y
  cases hf : f y with
  | none => simp [h y hf]
  | some c => simp
theorem Mid.keep {f g : FM} {lf : Int → Bool} {fo : FM} (h : Mid f g lf fo) {y : Int} (e : g y = f y) : Mid f g (fun z => lf z && !decide (z = y)) fo := fun z => by
  rw [h z]
  by_cases c : z = y
  · subst c; simp [e]
  · simp [c]
theorem Mid.put {f g : FM} {lf : Int → Bool} {fo : FM} (h : Mid f g lf fo) {y v : Int} (e : g y = some v) : Mid f g (fun z => lf z && !decide (z = y)) (put fo y v) := fun z => by
  unfold Ytaekkfgggmighaa.put
  by_cases c : z = y
  · subst c; simp [e]
  · simp [c, h z]
theorem Mid.cut {f g : FM} {lf : Int → Bool} {fo : FM} (h : Mid f g lf fo) {y v : Int} (e : g y = none) : Mid f g (fun z => lf z && !decide (z = y)) (cut (Ytaekkfgggmighaa.put fo y v) y) := fun z => by
  unfold Ytaekkfgggmighaa.put Ytaekkfgggmighaa.cut
  by_cases c : z = y
  · subst c; simp [e]
  · simp [c, h z]
theorem Mid.done {f g : FM} {lf : Int → Bool} {fo : FM} (h : Mid f g lf fo) (e : ∀ y, lf y = false) : ∀ y, fo y = g y := fun y => by rw [h y, e]; simp

/-- What an access of x, whose bound is h (Ways if it has none), does to the other lines. -/
def aged (S W h x : Int) (f : FM) : FM := fun y =>
  match f y with
  | none => none
  | some c => if y = x ∨ y % S ≠ x % S ∨ h < c then some c else if W ≤ c + 1 then none else some (c + 1)
theorem aged_none {S W h x : Int} {f : FM} {y : Int} (e : f y = none) : aged S W h x f y = none := by unfold aged; rw [e]
theorem aged_keep {S W h x : Int} {f : FM} {y c : Int} (e : f y = some c) (k : y = x ∨ y % S ≠ x % S ∨ h < c) : aged S W h x f y = some c := by unfold aged; rw [e]; simp [k]
theorem aged_up {S W h x : Int} {f : FM} {y c : Int} (e : f y = some c) (k1 : y ≠ x) (k2 : y % S = x % S) (k3 : c ≤ h) (k4 : c + 1 < W) : aged S W h x f y = some (c + 1) := by
  unfold aged; rw [e]
  simp only
  rw [if_neg (by rintro (h | h | h) <;> omega), if_neg (by omega)]
theorem aged_out {S W h x : Int} {f : FM} {y c : Int} (e : f y = some c) (k1 : y ≠ x) (k2 : y % S = x % S) (k3 : c ≤ h) (k4 : W ≤ c + 1) : aged S W h x f y = none := by
  unfold aged; rw [e]
  simp only
  rw [if_neg (by rintro (h | h | h) <;> omega), if_pos (by omega)]

/-- An access of the line x. -/
def mayAcc (S W : Int) (f : FM) (x : Int) : FM := put (aged S W ((f x).getD W) x f) x 0
/-- Bounds are from 0 to W - 1, lines not negative. -/
def Fit (W : Int) (f : FM) : Prop := ∀ y c, f y = some c → 0 ≤ y ∧ 0 ≤ c ∧ c < W
theorem fit_no (W : Int) : Fit W noF := fun _ _ h => by cases h
theorem fit_put {W : Int} {f : FM} (h : Fit W f) {x v : Int} (hx : 0 ≤ x) (h0 : 0 ≤ v) (h1 : v < W) : Fit W (put f x v) := fun y c e => by
  unfold Ytaekkfgggmighaa.put at e
  by_cases k : y = x
  · simp [k] at e; subst e; exact ⟨by omega, h0, h1⟩
  · simp [k] at e; exact h y c e
theorem fit_aged {S W h x : Int} {f : FM} (hf : Fit W f) : Fit W (aged S W h x f) := fun y c e => by
  unfold aged at e
  cases hy : f y with
  | none => rw [hy] at e; cases e
  | some d =>
    rw [hy] at e
    have := hf y d hy
    simp only at e
    split at e
    · cases e; exact this
    · split at e
      · cases e
      · cases e; exact ⟨this.1, by omega, by omega⟩
theorem fit_acc {S W : Int} {f : FM} (hf : Fit W f) (hw : 1 ≤ W) {x : Int} (hx : 0 ≤ x) : Fit W (mayAcc S W f x) := fit_put (fit_aged hf) hx (by omega) (by omega)

/-- Each of the lines lo to hi gets the bound 0. -/
def puts (f : FM) (lo hi : Int) : FM := fun y => if lo ≤ y ∧ y ≤ hi then some 0 else f y
theorem puts_nil (f : FM) (lo : Int) : puts f lo (lo - 1) = f := by
  funext y; unfold puts; rw [if_neg (by omega)]
theorem puts_snoc (f : FM) (lo hi : Int) (h : lo ≤ hi + 1) : puts f lo (hi + 1) = put (puts f lo hi) (hi + 1) 0 := by
  funext y
  unfold puts put
  by_cases c : y = hi + 1
  · subst c; simp; omega
  · by_cases k : lo ≤ y ∧ y ≤ hi
    · rw [if_pos (by omega)]; simp [c, k]
    · rw [if_neg (by omega)]; simp [c, k]
theorem fit_puts {W : Int} {f : FM} (h : Fit W f) (hw : 1 ≤ W) {lo hi : Int} (hl : 0 ≤ lo) : Fit W (puts f lo hi) := fun y c e => by
  unfold puts at e
  split at e
  · cases e; omega
  · exact h y c e

/-- A state: none: unknown. -/
abbrev St := Option FM
def sAcc (S W : Int) : St → Int → St
  | none, _ => none
  | some f, x => if x < 0 then some f else some (mayAcc S W f x)
def sRange (S W : Int) : St → Int → Int → St
  | none, _, _ => none
  | some f, lo, hi =>
    if hi < max lo 0 then some f
    else if max lo 0 = hi then some (mayAcc S W f hi)
    else if 64 ≤ hi - max lo 0 then none
    else some (puts f (max lo 0) hi)
/-- The lesser of two bounds. -/
def least : Option Int → Option Int → Option Int
  | none, b => b
  | a, none => a
  | some a, some b => some (if b < a then b else a)
def joined (f g : FM) : FM := fun y => least (f y) (g y)
def sJoin : St → St → St
  | some f, some g => some (joined f g)
  | _, _ => none
theorem fit_joined {W : Int} {f g : FM} (hf : Fit W f) (hg : Fit W g) : Fit W (joined f g) := fun y c e => by
  unfold joined at e
  cases h1 : f y with
  | none => rw [h1] at e; exact hg y c e
  | some a =>
    cases h2 : g y with
    | none => rw [h1, h2] at e; cases e; exact hf y c h1
    | some b =>
      rw [h1, h2] at e
      have := hf y a h1
      have := hg y b h2
      simp only [least] at e
      split at e <;> cases e <;> assumption
end Go.Proofs.Ytaekkfgggmighaa
