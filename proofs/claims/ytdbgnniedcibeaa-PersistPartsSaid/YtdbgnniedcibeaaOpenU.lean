/- The laws' arguments, opened: a number of sixteen bits. -/
import Derived.Test.YtdbgnniedcibeaaOpenP
namespace Go.Proofs.Ytdbgnniedcibeaa
open Go.ChangeShapes Go.WideShapes Go.Joins Go.Deep Go.RowKit Go.Proofs.YtdbgnniedcibeaaW.PrintWords
set_option linter.unusedVariables false
section
variable {H : Type} {enc : TypeId × Value → H} {w : World} {base b0 : Nat} {spare : Nat → Bool} {held : Bool} {v : Value} {d : DataW H} {p : List MemPlace}
set_option maxRecDepth 100000 in
theorem open_u16 (hv : Value.okWide Try.prog w .any b0 42 v) (h : DataW.Trod enc Try.prog w base spare held 42 v d p) : ∃ x : Int, v = .int .u16 x ∧ 0 ≤ x ∧ x ≤ 65535 := by
  obtain ⟨x, rfl, _, _, hw⟩ := open_int Try.underlying42 hv h
  refine ⟨x, rfl, ?_⟩
  simp [Lit.wf, IntKind.min, IntKind.max, IntKind.bits, IntKind.signed] at hw
  exact hw
end
end Go.Proofs.Ytdbgnniedcibeaa
