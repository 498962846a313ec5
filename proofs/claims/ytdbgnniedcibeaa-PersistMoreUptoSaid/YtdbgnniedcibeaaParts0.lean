/- The same lines, however the references are ordered or divided: plain Lean. -/
import Derived.Test.YtdbgnniedcibeaaPe5
namespace Go.Proofs.Ytdbgnniedcibeaa
open Go.RowKit Go.Maps Go.Proofs.YtdbgnniedcibeaaW.PrintWords Go.Proofs.Ytdbgnniedcibeaa.Pusable
set_option linter.unusedVariables false

/-- What a reference becomes. -/
def cutRef (cut : Int) (r : S44) : List S44 := if 0 ≤ r.f0 ∧ r.f0 < r.f1 ∧ r.f1 ≤ 3000 then [⟨r.f0 + cut % (r.f1 - r.f0) + 1, r.f1⟩, ⟨r.f0, r.f0 + cut % (r.f1 - r.f0)⟩] else [r, r]
theorem cutRef_acc (cut : Int) (r : S44) (x : Int) : accS (cutRef cut r) x = acc1 r x := by
  unfold cutRef
  by_cases h : 0 ≤ r.f0 ∧ r.f0 < r.f1 ∧ r.f1 ≤ 3000
  · rw [if_pos h]
    obtain ⟨h1, h2, h3⟩ := h
    have m1 := Int.emod_nonneg cut (show r.f1 - r.f0 ≠ 0 by omega)
    have m2 := Int.emod_lt_of_pos cut (show 0 < r.f1 - r.f0 by omega)
    obtain ⟨Z, hZ⟩ : ∃ Z, cut % (r.f1 - r.f0) = Z := ⟨_, rfl⟩
    rw [hZ] at m1 m2 ⊢
    unfold accS acc1
    rw [Bool.eq_iff_iff]
    simp
    omega
  · rw [if_neg h]
    simp [accS]
theorem cutRef_hi (cut : Int) (r : S44) (h : r.f1 ≤ 3000) : ∀ s ∈ cutRef cut r, s.f1 ≤ 3000 := fun s hs => by
  unfold cutRef at hs
  by_cases c : 0 ≤ r.f0 ∧ r.f0 < r.f1 ∧ r.f1 ≤ 3000
  · rw [if_pos c] at hs
    obtain ⟨h1, h2, h3⟩ := c
    have m1 := Int.emod_nonneg cut (show r.f1 - r.f0 ≠ 0 by omega)
    have m2 := Int.emod_lt_of_pos cut (show 0 < r.f1 - r.f0 by omega)
    simp at hs
    rcases hs with rfl | rfl
    · exact h
    · show r.f0 + cut % (r.f1 - r.f0) ≤ 3000
      omega
  · rw [if_neg c] at hs
    simp at hs
    subst hs
    exact h
theorem cutRef_len (cut : Int) (r : S44) : (cutRef cut r).length = 2 := by
  unfold cutRef; split <;> rfl
/-- The references from the last on, each divided. -/
def other (cut : Int) (l : List S44) : List S44 := l.reverse.flatMap (cutRef cut)
theorem other_acc (cut : Int) (l : List S44) (x : Int) : accS (other cut l) x = accS l x := by
  unfold other
  induction l with
  | nil => rfl
  | cons r t ih =>
    rw [List.reverse_cons, List.flatMap_append]
    have e : accS (t.reverse.flatMap (cutRef cut) ++ [r].flatMap (cutRef cut)) x = (accS (t.reverse.flatMap (cutRef cut)) x || accS ([r].flatMap (cutRef cut)) x) := by simp [accS]
    rw [e, ih]
    have e2 : [r].flatMap (cutRef cut) = cutRef cut r := by simp
    rw [e2, cutRef_acc]
    simp [accS, Bool.or_comm]
theorem other_lines (cut : Int) {l : List S44} {L : List Int} (h : IsLines l L) : IsLines (other cut l) L := ⟨h.1, fun x => by rw [h.2 x, other_acc]⟩
theorem other_hi (cut : Int) {l : List S44} (h : ∀ r ∈ l, r.f1 ≤ 3000) : ∀ r ∈ other cut l, r.f1 ≤ 3000 := fun s hs => by
  unfold other at hs
  rw [List.mem_flatMap] at hs
  obtain ⟨r, hr, hs⟩ := hs
  exact cutRef_hi cut r (h r (List.mem_reverse.1 hr)) s hs
theorem other_len (cut : Int) (l : List S44) : (other cut l).length = 2 * l.length := by
  unfold other
  induction l with
  | nil => rfl
  | cons r t ih =>
    rw [List.reverse_cons, List.flatMap_append, List.length_append, ih]
    simp [cutRef_len]
    omega
end Go.Proofs.Ytdbgnniedcibeaa
