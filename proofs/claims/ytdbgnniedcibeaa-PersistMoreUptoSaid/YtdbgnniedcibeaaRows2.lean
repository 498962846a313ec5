/- Slices of ints and of slices of ints, as they are read. -/
import Derived.Test.YtdbgnniedcibeaaWWords
import Derived.Test.YtdbgnniedcibeaaBase
namespace Go.Proofs.Ytdbgnniedcibeaa
open Go.RowKit Go.Proofs.YtdbgnniedcibeaaW.PrintWords
set_option linter.unusedVariables false

abbrev KI : Kd Int := Kd.int .i64
abbrev KL : Kd (List Int) := Kd.slice 3 (Kd.int .i64)
theorem at_row {w : World} {A : Option Addr} {n : Nat} {xs : List (List Int)} (h : KL.C w A n xs) (k : Nat) (hk : k < n) : ∃ ad A0 c0, A = some ad ∧ w.cell? (ad.add k) = some (.slice A0 (xs.getD k []).length c0) ∧ (xs.getD k []).length ≤ c0 ∧ KI.C w A0 (xs.getD k []).length (xs.getD k []) := by
  obtain ⟨ad, c, e, _, hK, hc0⟩ := Kd.C_get h ([] : List Int) (k : Int) (by omega) (by omega)
  have hc : ∀ j u, c[j]? = some u → w.cell? (ad.add (k * 1 + j)) = some u := hc0
  obtain ⟨A0, c0, rfl, l0, g0⟩ := hK
  exact ⟨ad, A0, c0, e, by have hq := hc 0 _ rfl; rwa [Nat.mul_one, Nat.add_zero] at hq, l0, g0⟩
theorem at_num {w : World} {A : Option Addr} {n : Nat} {xs : List Int} (h : KI.C w A n xs) (k : Nat) (hk : k < n) : ∃ ad, A = some ad ∧ w.cell? (ad.add k) = some (.int .i64 (xs.getD k 0)) := by
  obtain ⟨ad, e, hc⟩ := Kd.at_int h (k : Int) (by omega) (by omega)
  exact ⟨ad, e, by simpa [rd] using hc⟩
theorem C_len {α : Type} {d : Kd α} {w : World} {A : Option Addr} {n : Nat} {xs : List α} (h : d.C w A n xs) : xs.length = n := h.1
theorem C_max {α : Type} {d : Kd α} {w : World} {A : Option Addr} {n : Nat} {xs : List α} (h : d.C w A n xs) : n ≤ 9223372036854775807 := h.2.1
theorem C_ext {α : Type} {d : Kd α} {w w' : World} {A : Option Addr} {n : Nat} {xs : List α} (h : d.C w A n xs) (e : Ext w w') : d.C w' A n xs := Kd.C_below h e
end Go.Proofs.Ytdbgnniedcibeaa
