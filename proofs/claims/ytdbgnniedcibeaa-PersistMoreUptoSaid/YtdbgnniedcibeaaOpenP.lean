/- The laws' arguments, opened: a geometry, a slice of references. -/
import Derived.WalkKit
import Derived.ProofKit
import Derived.OpenShut
import Derived.ChangeOld
import Derived.Below
import Derived.Carry
import Derived.SizedLaws
import Derived.Deep.Slices
import Derived.Deep.Fields
import Derived.ChangeSame
import Derived.Deep.Matrix
import Derived.Lib.SmallJoins
import Derived.Test.YtdbgnniedcibeaaPe5
namespace Go.Proofs.Ytdbgnniedcibeaa
open Go.ChangeShapes Go.WideShapes Go.Joins Go.Deep Go.RowKit Go.Proofs.YtdbgnniedcibeaaW.PrintWords Go.Proofs.Ytdbgnniedcibeaa.Pusable
set_option linter.unusedVariables false

theorem laidOut : laidOutB Try.prog = true := by kernel_rfl
theorem ownNone : ownKnob Try.prog.godebug = none := by kernel_rfl
section
variable {H : Type} {enc : TypeId × Value → H} {w : World} {base b0 : Nat} {spare : Nat → Bool} {held : Bool} {v : Value} {d : DataW H} {p : List MemPlace}
set_option maxRecDepth 100000 in
theorem open_cache (hv : Value.okWide Try.prog w .any b0 23 v) (h : DataW.Trod enc Try.prog w base spare held 23 v d p) : ∃ S W L, v = .agg #[.int .i64 S, .int .i64 W, .int .i64 L] := by
  obtain ⟨v0, v1, v2, y0, y1, y2, n, rfl, _, _, h0, h1, h2⟩ := open_agg3 Try.underlying23 (by kernel_rfl) (by kernel_rfl) hv h
  obtain ⟨S, e0, _, _⟩ := DataW.trod_int Try.underlying3 h0
  obtain ⟨W, e1, _, _⟩ := DataW.trod_int Try.underlying3 h1
  obtain ⟨L, e2, _, _⟩ := DataW.trod_int Try.underlying3 h2
  cases e0
  cases e1
  cases e2
  exact ⟨S, W, L, rfl⟩
set_option maxRecDepth 100000 in
theorem open_refs (hv : Value.okWide Try.prog w .any b0 24 v) (h : DataW.Trod enc Try.prog w base spare held 24 v d p) : ∃ A c l, v = .slice A l.length c ∧ l.length ≤ c ∧ k44.C w A l.length l := by
  obtain ⟨A, n, c, rfl⟩ := okWide_slice Try.underlying24 hv
  obtain ⟨fuel, h⟩ := h
  rcases open_slice Try.underlying24 h with ⟨hcs, _⟩ | ⟨a, len, cap, m, fu, D, Pl, hcs, _, hl, hm, hmm, _, hi⟩
  · simp [Value.cells] at hcs
    obtain ⟨rfl, rfl, rfl⟩ := hcs
    exact ⟨none, 0, [], rfl, Nat.le_refl _, Kd.C_nil _ _⟩
  · simp [Value.cells] at hcs
    obtain ⟨rfl, rfl, rfl⟩ := hcs
    have hc3 : Try.prog.cellsOf 44 = 2 := by kernel_rfl
    have hnm : n ≤ m := by rw [hmm]; split <;> omega
    have key : ∀ i, i < n → ∃ x : S44, w.cell? (a.add (i * 2)) = some (.int .i64 x.f0) ∧ w.cell? (a.add (i * 2 + 1)) = some (.int .i64 x.f1) := by
      intro i hin
      obtain ⟨cs, h1, h2⟩ := hi i (by omega)
      rw [hc3] at h1
      obtain ⟨_, hlen, hcell⟩ := World.cells?_some h1
      obtain ⟨ys, n', _, _, _, hys, hf⟩ := DataW.trod_struct Try.underlying44 h2
      have hys3 : ys.length = 2 := hys
      have hki : Try.prog.cellsOf 3 = 1 := by kernel_rfl
      match cs, hlen with
      | [u0, u1], _ =>
        have t0 : DataW.trod enc Try.prog w base spare held n' 3 ((List.drop 0 [u0, u1]).take (Try.prog.cellsOf 3)) = ys[0]? := hf 0 _ rfl
        have t1 : DataW.trod enc Try.prog w base spare held n' 3 ((List.drop 1 [u0, u1]).take (Try.prog.cellsOf 3)) = ys[1]? := hf 1 _ rfl
        rw [hki, List.getElem?_eq_getElem (by omega)] at t0 t1
        obtain ⟨x0, e0, _, _⟩ := DataW.trod_int Try.underlying3 t0
        obtain ⟨x1, e1, _, _⟩ := DataW.trod_int Try.underlying3 t1
        replace e0 : u0 = .int .i64 x0 := by simpa using e0
        replace e1 : u1 = .int .i64 x1 := by simpa using e1
        subst e0
        subst e1
        have q0 := hcell 0 (by omega)
        have q1 := hcell 1 (by omega)
        rw [Deep.add_add] at q0 q1
        exact ⟨⟨x0, x1⟩, q0, q1⟩
    let l : List S44 := (List.range n).map fun i => if hin : i < n then (key i hin).choose else z44
    have hll : l.length = n := by simp [l]
    refine ⟨some a, c, l, by rw [hll], by omega, hll ▸ hll, ?_, fun _ => ⟨a, rfl, fun j q hj => ?_⟩⟩
    · unfold maxLen at hm
      omega
    · have hjn : j < n := by
        have := (List.getElem?_eq_some_iff.1 hj).1
        omega
      have e : q = (key j hjn).choose := by
        simp [l, hjn] at hj
        exact hj.symm
      have hs := (key j hjn).choose_spec
      rw [← e] at hs
      refine ⟨_, rfl, k44_mk w q, fun i u hu => ?_⟩
      match i, hu with
      | 0, hu => cases hu; exact hs.1
      | 1, hu => cases hu; exact hs.2
      | i + 2, hu => cases hu
set_option maxRecDepth 100000 in
theorem open_u16s (hv : Value.okWide Try.prog w .any b0 46 v) (h : DataW.Trod enc Try.prog w base spare held 46 v d p) : ∃ A c l, v = .slice A l.length c ∧ l.length ≤ c ∧ (Kd.int .u16).C w A l.length l ∧ ∀ x ∈ l, 0 ≤ x ∧ x ≤ 65535 := by
  obtain ⟨A, n, c, rfl⟩ := okWide_slice Try.underlying46 hv
  obtain ⟨fuel, h⟩ := h
  rcases open_ints Try.underlying46 Try.underlying42 (by kernel_rfl) h with ⟨hcs, _⟩ | ⟨a, len, cap, zs, hcs, _, hl, hm, hzl, _, hat, hwf⟩
  · simp [Value.cells] at hcs
    obtain ⟨rfl, rfl, rfl⟩ := hcs
    exact ⟨none, 0, [], rfl, Nat.le_refl _, Kd.C_nil _ _, fun _ h => by cases h⟩
  · simp [Value.cells] at hcs
    obtain ⟨rfl, rfl, rfl⟩ := hcs
    have hnz : n ≤ zs.length := by rw [hzl]; split <;> omega
    obtain ⟨l, hle⟩ : ∃ l, l = zs.take n := ⟨_, rfl⟩
    have hll : l.length = n := by rw [hle, List.length_take]; omega
    have hnm := hnz
    rw [← hll]
    refine ⟨some a, c, l, rfl, by omega, ⟨rfl, ?_, fun _ => ⟨a, rfl, fun j q hj => ⟨[.int .u16 q], rfl, rfl, fun i u hu => ?_⟩⟩⟩, fun x hx => ?_⟩
    · unfold maxLen at hm
      omega
    · cases i with
      | succ _ => cases hu
      | zero =>
        cases hu
        have hjl : j < n := by have := (List.getElem?_eq_some_iff.1 hj).1; omega
        have := hat j (by omega)
        rw [hle, List.getElem?_take, if_pos hjl] at hj
        have e : zs.getD j 0 = q := by rw [List.getD, hj]; rfl
        rw [e] at this
        show w.cell? (a.add (j * 1 + 0)) = _
        rw [Nat.mul_one, Nat.add_zero]
        exact this
    · have := hwf x (List.mem_of_mem_take (hle ▸ hx))
      simp [Lit.wf, IntKind.min, IntKind.max, IntKind.bits, IntKind.signed] at this
      exact this
set_option maxRecDepth 100000 in
theorem open_u8 (hv : Value.okWide Try.prog w .any b0 5 v) (h : DataW.Trod enc Try.prog w base spare held 5 v d p) : ∃ x : Int, v = .int .u8 x ∧ (0 ≤ x ∧ x ≤ 255) := by
  obtain ⟨x, rfl, _, _, hw⟩ := open_int Try.underlying5 hv h
  refine ⟨x, rfl, ?_⟩
  simp [Lit.wf, IntKind.min, IntKind.max, IntKind.bits, IntKind.signed] at hw
  exact hw
end
end Go.Proofs.Ytdbgnniedcibeaa
