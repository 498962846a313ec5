/- The laws' arguments, opened: a geometry, a slice of operations, a slice of slices of ints, a slice of ints, one of bytes, an int. -/
import Derived.WalkKit
import Derived.ProofKit
import Derived.OpenShut
import Derived.ChangeOld
import Derived.Below
import Derived.Carry
import Derived.SizedLaws
import Derived.Deep.Slices
import Derived.Deep.Fields
import Derived.ChangeSame
import Derived.Deep.Matrix
import Derived.Lib.SmallJoins
import Derived.Test.YtaekkfgggmighaaMu7
namespace Go.Proofs.Ytaekkfgggmighaa
open Go.ChangeShapes Go.WideShapes Go.Joins Go.Deep Go.RowKit Go.Proofs.YtaekkfgggmighaaW.PrintWords Go.Proofs.Ytaekkfgggmighaa.Pgreat
set_option linter.unusedVariables false

theorem laidOut : laidOutB Try.prog = true := by kernel_rfl
theorem ownNone : ownKnob Try.prog.godebug = none := by kernel_rfl
section
variable {H : Type} {enc : TypeId × Value → H} {w : World} {base b0 : Nat} {spare : Nat → Bool} {held : Bool} {v : Value} {d : DataW H} {p : List MemPlace}
set_option maxRecDepth 100000 in
theorem open_cache (hv : Value.okWide Try.prog w .any b0 23 v) (h : DataW.Trod enc Try.prog w base spare held 23 v d p) : ∃ S W L, v = .agg #[.int .i64 S, .int .i64 W, .int .i64 L] := by
  obtain ⟨v0, v1, v2, y0, y1, y2, n, rfl, _, _, h0, h1, h2⟩ := open_agg3 Try.underlying23 (by kernel_rfl) (by kernel_rfl) hv h
  obtain ⟨S, e0, _, _⟩ := DataW.trod_int Try.underlying3 h0
  obtain ⟨W, e1, _, _⟩ := DataW.trod_int Try.underlying3 h1
  obtain ⟨L, e2, _, _⟩ := DataW.trod_int Try.underlying3 h2
  cases e0
  cases e1
  cases e2
  exact ⟨S, W, L, rfl⟩
set_option maxRecDepth 100000 in
theorem open_ops (hv : Value.okWide Try.prog w .any b0 24 v) (h : DataW.Trod enc Try.prog w base spare held 24 v d p) : ∃ A c l, v = .slice A l.length c ∧ l.length ≤ c ∧ k37.C w A l.length l ∧ ∀ x ∈ l, 0 ≤ x.f2 ∧ x.f2 ≤ 255 := by
  obtain ⟨A, n, c, rfl⟩ := okWide_slice Try.underlying24 hv
  obtain ⟨fuel, h⟩ := h
  rcases open_slice Try.underlying24 h with ⟨hcs, _⟩ | ⟨a, len, cap, m, fu, D, Pl, hcs, _, hl, hm, hmm, _, hi⟩
  · simp [Value.cells] at hcs
    obtain ⟨rfl, rfl, rfl⟩ := hcs
    exact ⟨none, 0, [], rfl, Nat.le_refl _, Kd.C_nil _ _, fun _ h => by cases h⟩
  · simp [Value.cells] at hcs
    obtain ⟨rfl, rfl, rfl⟩ := hcs
    have hc3 : Try.prog.cellsOf 37 = 3 := by kernel_rfl
    have hnm : n ≤ m := by rw [hmm]; split <;> omega
    have key : ∀ i, i < n → ∃ x : S37, w.cell? (a.add (i * 3)) = some (.int .i64 x.f0) ∧ w.cell? (a.add (i * 3 + 1)) = some (.int .i64 x.f1) ∧ w.cell? (a.add (i * 3 + 2)) = some (.int .u8 x.f2) ∧ (Lit.int .u8 x.f2).wf = true := by
      intro i hin
      obtain ⟨cs, h1, h2⟩ := hi i (by omega)
      rw [hc3] at h1
      obtain ⟨_, hlen, hcell⟩ := World.cells?_some h1
      obtain ⟨ys, n', _, _, _, hys, hf⟩ := DataW.trod_struct Try.underlying37 h2
      have hys3 : ys.length = 3 := hys
      have hki : Try.prog.cellsOf 3 = 1 := by kernel_rfl
      have hku : Try.prog.cellsOf 5 = 1 := by kernel_rfl
      match cs, hlen with
      | [u0, u1, u2], _ =>
        have t0 : DataW.trod enc Try.prog w base spare held n' 3 ((List.drop 0 [u0, u1, u2]).take (Try.prog.cellsOf 3)) = ys[0]? := hf 0 _ rfl
        have t1 : DataW.trod enc Try.prog w base spare held n' 3 ((List.drop 1 [u0, u1, u2]).take (Try.prog.cellsOf 3)) = ys[1]? := hf 1 _ rfl
        have t2 : DataW.trod enc Try.prog w base spare held n' 5 ((List.drop 2 [u0, u1, u2]).take (Try.prog.cellsOf 5)) = ys[2]? := hf 2 _ rfl
        rw [hki, List.getElem?_eq_getElem (by omega)] at t0 t1
        rw [hku, List.getElem?_eq_getElem (by omega)] at t2
        obtain ⟨x0, e0, _, _⟩ := DataW.trod_int Try.underlying3 t0
        obtain ⟨x1, e1, _, _⟩ := DataW.trod_int Try.underlying3 t1
        obtain ⟨x2, e2, _, hw2⟩ := DataW.trod_int Try.underlying5 t2
        replace e0 : u0 = .int .i64 x0 := by simpa using e0
        replace e1 : u1 = .int .i64 x1 := by simpa using e1
        replace e2 : u2 = .int .u8 x2 := by simpa using e2
        subst e0
        subst e1
        subst e2
        have q0 := hcell 0 (by omega)
        have q1 := hcell 1 (by omega)
        have q2 := hcell 2 (by omega)
        rw [Deep.add_add] at q0 q1 q2
        exact ⟨⟨x0, x1, x2⟩, q0, q1, q2, hw2⟩
    let l : List S37 := (List.range n).map fun i => if hin : i < n then (key i hin).choose else z37
    have hll : l.length = n := by simp [l]
    refine ⟨some a, c, l, by rw [hll], by omega, ⟨hll ▸ hll, ?_, fun _ => ⟨a, rfl, fun j q hj => ?_⟩⟩, fun x hx => ?_⟩
    · unfold maxLen at hm
      omega
    · have hjn : j < n := by
        have := (List.getElem?_eq_some_iff.1 hj).1
        omega
      have e : q = (key j hjn).choose := by
        simp [l, hjn] at hj
        exact hj.symm
      have hs := (key j hjn).choose_spec
      rw [← e] at hs
      refine ⟨_, rfl, k37_mk w q, fun i u hu => ?_⟩
      match i, hu with
      | 0, hu => cases hu; exact hs.1
      | 1, hu => cases hu; exact hs.2.1
      | 2, hu => cases hu; exact hs.2.2.1
      | i + 3, hu => cases hu
    · obtain ⟨j, hj, rfl⟩ := List.getElem_of_mem hx
      have hjn : j < n := by omega
      have e : l[j] = (key j hjn).choose := by simp [l, hjn]
      have hs := (key j hjn).choose_spec.2.2.2
      rw [← e] at hs
      simp [Lit.wf, IntKind.min, IntKind.max, IntKind.bits, IntKind.signed] at hs
      exact hs
set_option maxRecDepth 100000 in
theorem open_rows (hv : Value.okWide Try.prog w .any b0 42 v) (h : DataW.Trod enc Try.prog w base (fun _ => true) held 42 v d p) : ∃ A c ls, v = .slice A ls.length c ∧ ls.length ≤ c ∧ KL.C w A ls.length ls ∧ ∀ l ∈ ls, ∀ x ∈ l, I64 x := by
  obtain ⟨A, n, c, rfl⟩ := okWide_slice Try.underlying42 hv
  obtain ⟨fuel, h⟩ := h
  rcases open_int_rows Try.underlying42 Try.underlying57 Try.underlying3 (by kernel_rfl) (by kernel_rfl) h with ⟨hcs, _⟩ | ⟨a, len, cap, AA, LL, CC, ZZ, hcs, _, hl, hm, _, hr⟩
  · simp [Value.cells] at hcs
    obtain ⟨rfl, rfl, rfl⟩ := hcs
    exact ⟨none, 0, [], rfl, Nat.le_refl _, Kd.C_nil _ _, fun _ h => by cases h⟩
  · simp [Value.cells] at hcs
    obtain ⟨rfl, rfl, rfl⟩ := hcs
    let ls : List (List Int) := (List.range n).map fun i => (ZZ i).take (LL i)
    have hll : ls.length = n := by simp [ls]
    refine ⟨some a, c, ls, by rw [hll], by omega, ⟨hll ▸ hll, ?_, fun _ => ⟨a, rfl, fun j q hj => ?_⟩⟩, fun l hl x hx => ?_⟩
    · unfold maxLen at hm
      omega
    · have hjn : j < n := by
        have := (List.getElem?_eq_some_iff.1 hj).1
        omega
      have e : q = (ZZ j).take (LL j) := by
        simp [ls, hjn] at hj
        exact hj.symm
      obtain ⟨hc, hL, hC, hZ, hwf, hnone, hat⟩ := hr j (by omega)
      have hql : q.length = LL j := by rw [e, List.length_take]; omega
      refine ⟨[.slice (AA j) q.length (CC j)], rfl, ⟨AA j, CC j, rfl, by omega, rfl, by unfold maxLen at hC; omega, fun hpos => ?_⟩, fun i u hu => ?_⟩
      · cases ha : AA j with
        | none =>
          have := hnone ha
          omega
        | some a' =>
          refine ⟨a', rfl, fun i y hy => ⟨[.int .i64 y], rfl, rfl, fun i' u hu => ?_⟩⟩
          obtain ⟨_, hat⟩ := hat a' ha
          have hil : i < q.length := (List.getElem?_eq_some_iff.1 hy).1
          cases i' with
          | succ _ => cases hu
          | zero =>
            cases hu
            have := hat i (by omega)
            rw [e, List.getElem?_take] at hy
            split at hy
            · rw [List.getD_eq_getElem?_getD, hy] at this
              show w.cell? (a'.add (i * 1 + 0)) = _
              rw [Nat.mul_one, Nat.add_zero]
              exact this
            · cases hy
      · cases i with
        | succ _ => cases hu
        | zero =>
          cases hu
          show w.cell? (a.add (j * 1 + 0)) = _
          rw [hql, Nat.mul_one, Nat.add_zero]
          exact hc
    · simp only [ls, List.mem_map, List.mem_range] at hl
      obtain ⟨j, hjn, rfl⟩ := hl
      obtain ⟨_, _, _, _, hwf, _, _⟩ := hr j (by omega)
      exact hwf x (List.mem_of_mem_take hx)
set_option maxRecDepth 100000 in
theorem open_is (hv : Value.okWide Try.prog w .any b0 57 v) (h : DataW.Trod enc Try.prog w base spare held 57 v d p) : ∃ A c l, v = .slice A l.length c ∧ l.length ≤ c ∧ KI.C w A l.length l ∧ ∀ x ∈ l, I64 x := by
  obtain ⟨A, n, c, rfl⟩ := okWide_slice Try.underlying57 hv
  obtain ⟨fuel, h⟩ := h
  rcases open_ints Try.underlying57 Try.underlying3 (by kernel_rfl) h with ⟨hcs, _⟩ | ⟨a, len, cap, zs, hcs, _, hl, hm, hzl, _, hat, hwf⟩
  · simp [Value.cells] at hcs
    obtain ⟨rfl, rfl, rfl⟩ := hcs
    exact ⟨none, 0, [], rfl, Nat.le_refl _, Kd.C_nil _ _, fun _ h => by cases h⟩
  · simp [Value.cells] at hcs
    obtain ⟨rfl, rfl, rfl⟩ := hcs
    have hnz : n ≤ zs.length := by rw [hzl]; split <;> omega
    obtain ⟨l, hle⟩ : ∃ l, l = zs.take n := ⟨_, rfl⟩
    have hll : l.length = n := by rw [hle, List.length_take]; omega
    have hnm := hnz
    rw [← hll]
    refine ⟨some a, c, l, rfl, by omega, ⟨rfl, ?_, fun _ => ⟨a, rfl, fun j q hj => ⟨[.int .i64 q], rfl, rfl, fun i u hu => ?_⟩⟩⟩, fun x hx => ?_⟩
    · unfold maxLen at hm
      omega
    · cases i with
      | succ _ => cases hu
      | zero =>
        cases hu
        have hjl : j < n := by have := (List.getElem?_eq_some_iff.1 hj).1; omega
        have := hat j (by omega)
        rw [hle, List.getElem?_take, if_pos hjl] at hj
        have e : zs.getD j 0 = q := by rw [List.getD, hj]; rfl
        rw [e] at this
        show w.cell? (a.add (j * 1 + 0)) = _
        rw [Nat.mul_one, Nat.add_zero]
        exact this
    · exact hwf x (List.mem_of_mem_take (hle ▸ hx))
set_option maxRecDepth 100000 in
theorem open_u8s (hv : Value.okWide Try.prog w .any b0 69 v) (h : DataW.Trod enc Try.prog w base spare held 69 v d p) : ∃ A c l, v = .slice A l.length c ∧ l.length ≤ c ∧ (Kd.int .u8).C w A l.length l ∧ ∀ x ∈ l, 0 ≤ x ∧ x ≤ 255 := by
  obtain ⟨A, n, c, rfl⟩ := okWide_slice Try.underlying69 hv
  obtain ⟨fuel, h⟩ := h
  rcases open_ints Try.underlying69 Try.underlying5 (by kernel_rfl) h with ⟨hcs, _⟩ | ⟨a, len, cap, zs, hcs, _, hl, hm, hzl, _, hat, hwf⟩
  · simp [Value.cells] at hcs
    obtain ⟨rfl, rfl, rfl⟩ := hcs
    exact ⟨none, 0, [], rfl, Nat.le_refl _, Kd.C_nil _ _, fun _ h => by cases h⟩
  · simp [Value.cells] at hcs
    obtain ⟨rfl, rfl, rfl⟩ := hcs
    have hnz : n ≤ zs.length := by rw [hzl]; split <;> omega
    obtain ⟨l, hle⟩ : ∃ l, l = zs.take n := ⟨_, rfl⟩
    have hll : l.length = n := by rw [hle, List.length_take]; omega
    have hnm := hnz
    rw [← hll]
    refine ⟨some a, c, l, rfl, by omega, ⟨rfl, ?_, fun _ => ⟨a, rfl, fun j q hj => ⟨[.int .u8 q], rfl, rfl, fun i u hu => ?_⟩⟩⟩, fun x hx => ?_⟩
    · unfold maxLen at hm
      omega
    · cases i with
      | succ _ => cases hu
      | zero =>
        cases hu
        have hjl : j < n := by have := (List.getElem?_eq_some_iff.1 hj).1; omega
        have := hat j (by omega)
        rw [hle, List.getElem?_take, if_pos hjl] at hj
        have e : zs.getD j 0 = q := by rw [List.getD, hj]; rfl
        rw [e] at this
        show w.cell? (a.add (j * 1 + 0)) = _
        rw [Nat.mul_one, Nat.add_zero]
        exact this
    · have := hwf x (List.mem_of_mem_take (hle ▸ hx))
      simp [Lit.wf, IntKind.min, IntKind.max, IntKind.bits, IntKind.signed] at this
      exact this
set_option maxRecDepth 100000 in
theorem open_i (hv : Value.okWide Try.prog w .any b0 3 v) (h : DataW.Trod enc Try.prog w base spare held 3 v d p) : ∃ x : Int, v = .int .i64 x ∧ I64 x := by
  obtain ⟨x, rfl, _, _, hw⟩ := open_int Try.underlying3 hv h
  exact ⟨x, rfl, hw⟩
end
end Go.Proofs.Ytaekkfgggmighaa
