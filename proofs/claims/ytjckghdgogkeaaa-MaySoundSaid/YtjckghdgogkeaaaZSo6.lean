/- ontimelaw31.MaySound returns true for every input; the input reads as it did. -/
import Derived.Test.YtjckghdgogkeaaaZSo5
import Derived.Test.YtjckghdgogkeaaaRows
import Derived.ShutString
namespace Go.Proofs.Ytjckghdgogkeaaa
open Go.ChangeShapes Go.WideShapes Go.Joins Go.Deep Go.RowKit Go.Proofs.YtjckghdgogkeaaaW.PrintWords
set_option linter.unusedVariables false
section
variable {H : Type} {enc : TypeId × Value → H} {w : World} {base b0 : Nat} {spare : Nat → Bool} {held : Bool} {v : Value} {d : DataW H} {p : List MemPlace}
set_option maxRecDepth 100000 in
theorem open_u16 (hv : Value.okWide Try.prog w .any b0 62 v) (h : DataW.Trod enc Try.prog w base spare held 62 v d p) : ∃ x : Int, v = .int .u16 x ∧ 0 ≤ x ∧ x ≤ 65535 := by
  obtain ⟨x, rfl, _, _, hw⟩ := open_int Try.underlying62 hv h
  refine ⟨x, rfl, ?_⟩
  simp [Lit.wf, IntKind.min, IntKind.max, IntKind.bits, IntKind.signed] at hw
  exact hw
end
end Go.Proofs.Ytjckghdgogkeaaa

namespace Go.Proofs.Ytjckghdgogkeaaa
open Go.ChangeShapes Go.WideShapes Go.Joins Go.Deep Go.RowKit Go.Proofs.YtjckghdgogkeaaaW.PrintWords Go.Proofs.Ytjckghdgogkeaaa.PMayDescribes
set_option linter.unusedVariables false
section
variable {H : Type} {enc : TypeId × Value → H} {w : World} {base b0 : Nat} {spare : Nat → Bool} {held : Bool} {v : Value} {d : DataW H} {p : List MemPlace}
set_option maxRecDepth 100000 in
theorem open_steps2 (hv : Value.okWide Try.prog w .any b0 24 v) (h : DataW.Trod enc Try.prog w base spare held 24 v d p) : ∃ A c l, v = .slice A l.length c ∧ l.length ≤ c ∧ k45.C w A l.length l ∧ ∀ x ∈ l, 0 ≤ x.f2 ∧ x.f2 ≤ 255 := by
  obtain ⟨A, n, c, rfl⟩ := okWide_slice Try.underlying24 hv
  obtain ⟨fuel, h⟩ := h
  rcases open_slice Try.underlying24 h with ⟨hcs, _⟩ | ⟨a, len, cap, m, fu, D, Pl, hcs, _, hl, hm, hmm, _, hi⟩
  · simp [Value.cells] at hcs
    obtain ⟨rfl, rfl, rfl⟩ := hcs
    exact ⟨none, 0, [], rfl, Nat.le_refl _, Kd.C_nil _ _, fun _ h => by cases h⟩
  · simp [Value.cells] at hcs
    obtain ⟨rfl, rfl, rfl⟩ := hcs
    have hc3 : Try.prog.cellsOf 45 = 3 := by kernel_rfl
    have hnm : n ≤ m := by rw [hmm]; split <;> omega
    have key : ∀ i, i < n → ∃ x : S45, w.cell? (a.add (i * 3)) = some (.int .i64 x.f0) ∧ w.cell? (a.add (i * 3 + 1)) = some (.int .i64 x.f1) ∧ w.cell? (a.add (i * 3 + 2)) = some (.int .u8 x.f2) ∧ (Lit.int .u8 x.f2).wf = true := by
      intro i hin
      obtain ⟨cs, h1, h2⟩ := hi i (by omega)
      rw [hc3] at h1
      obtain ⟨_, hlen, hcell⟩ := World.cells?_some h1
      obtain ⟨ys, n', _, _, _, hys, hf⟩ := DataW.trod_struct Try.underlying45 h2
      have hys3 : ys.length = 3 := hys
      have hki : Try.prog.cellsOf 3 = 1 := by kernel_rfl
      have hku : Try.prog.cellsOf 5 = 1 := by kernel_rfl
      match cs, hlen with
      | [u0, u1, u2], _ =>
        have t0 : DataW.trod enc Try.prog w base spare held n' 3 ((List.drop 0 [u0, u1, u2]).take (Try.prog.cellsOf 3)) = ys[0]? := hf 0 _ rfl
        have t1 : DataW.trod enc Try.prog w base spare held n' 3 ((List.drop 1 [u0, u1, u2]).take (Try.prog.cellsOf 3)) = ys[1]? := hf 1 _ rfl
        have t2 : DataW.trod enc Try.prog w base spare held n' 5 ((List.drop 2 [u0, u1, u2]).take (Try.prog.cellsOf 5)) = ys[2]? := hf 2 _ rfl
        rw [hki, List.getElem?_eq_getElem (by omega)] at t0 t1
        rw [hku, List.getElem?_eq_getElem (by omega)] at t2
        obtain ⟨x0, e0, _, _⟩ := DataW.trod_int Try.underlying3 t0
        obtain ⟨x1, e1, _, _⟩ := DataW.trod_int Try.underlying3 t1
        obtain ⟨x2, e2, _, hw2⟩ := DataW.trod_int Try.underlying5 t2
        replace e0 : u0 = .int .i64 x0 := by simpa using e0
        replace e1 : u1 = .int .i64 x1 := by simpa using e1
        replace e2 : u2 = .int .u8 x2 := by simpa using e2
        subst e0
        subst e1
        subst e2
        have q0 := hcell 0 (by omega)
        have q1 := hcell 1 (by omega)
        have q2 := hcell 2 (by omega)
        rw [Deep.add_add] at q0 q1 q2
        exact ⟨⟨x0, x1, x2⟩, q0, q1, q2, hw2⟩
    let l : List S45 := (List.range n).map fun i => if hin : i < n then (key i hin).choose else z45
    have hll : l.length = n := by simp [l]
    refine ⟨some a, c, l, by rw [hll], by omega, ⟨hll ▸ hll, ?_, fun _ => ⟨a, rfl, fun j q hj => ?_⟩⟩, fun x hx => ?_⟩
    · unfold maxLen at hm
      omega
    · have hjn : j < n := by
        have := (List.getElem?_eq_some_iff.1 hj).1
        omega
      have e : q = (key j hjn).choose := by
        simp [l, hjn] at hj
        exact hj.symm
      have hs := (key j hjn).choose_spec
      rw [← e] at hs
      refine ⟨_, rfl, k45_mk w q, fun i u hu => ?_⟩
      match i, hu with
      | 0, hu => cases hu; exact hs.1
      | 1, hu => cases hu; exact hs.2.1
      | 2, hu => cases hu; exact hs.2.2.1
      | i + 3, hu => cases hu
    · obtain ⟨j, hj, rfl⟩ := List.getElem_of_mem hx
      have hjn : j < n := by omega
      have e : l[j] = (key j hjn).choose := by simp [l, hjn]
      have hs := (key j hjn).choose_spec.2.2.2
      rw [← e] at hs
      simp [Lit.wf, IntKind.min, IntKind.max, IntKind.bits, IntKind.signed] at hs
      exact hs
abbrev KU : Kd Int := Kd.int .u16
set_option maxRecDepth 100000 in
theorem open_u16s (hv : Value.okWide Try.prog w .any b0 59 v) (h : DataW.Trod enc Try.prog w base spare held 59 v d p) : ∃ A c l, v = .slice A l.length c ∧ l.length ≤ c ∧ KU.C w A l.length l ∧ ∀ x ∈ l, 0 ≤ x ∧ x ≤ 65535 := by
  obtain ⟨A, n, c, rfl⟩ := okWide_slice Try.underlying59 hv
  obtain ⟨fuel, h⟩ := h
  rcases open_ints Try.underlying59 Try.underlying62 (by kernel_rfl) h with ⟨hcs, _⟩ | ⟨a, len, cap, zs, hcs, _, hl, hm, hzl, _, hat, hwf⟩
  · simp [Value.cells] at hcs
    obtain ⟨rfl, rfl, rfl⟩ := hcs
    exact ⟨none, 0, [], rfl, Nat.le_refl _, Kd.C_nil _ _, fun _ h => by cases h⟩
  · simp [Value.cells] at hcs
    obtain ⟨rfl, rfl, rfl⟩ := hcs
    have hnz : n ≤ zs.length := by rw [hzl]; split <;> omega
    obtain ⟨l, hle⟩ : ∃ l, l = zs.take n := ⟨_, rfl⟩
    have hll : l.length = n := by rw [hle, List.length_take]; omega
    have hnm := hnz
    rw [← hll]
    refine ⟨some a, c, l, rfl, by omega, ⟨rfl, ?_, fun _ => ⟨a, rfl, fun j q hj => ⟨[.int .u16 q], rfl, rfl, fun i u hu => ?_⟩⟩⟩, fun x hx => ?_⟩
    · unfold maxLen at hm
      omega
    · cases i with
      | succ _ => cases hu
      | zero =>
        cases hu
        have hjl : j < n := by have := (List.getElem?_eq_some_iff.1 hj).1; omega
        have := hat j (by omega)
        rw [hle, List.getElem?_take, if_pos hjl] at hj
        have e : zs.getD j 0 = q := by rw [List.getD, hj]; rfl
        rw [e] at this
        show w.cell? (a.add (j * 1 + 0)) = _
        rw [Nat.mul_one, Nat.add_zero]
        exact this
    · have := hwf x (List.mem_of_mem_take (hle ▸ hx))
      simp [Lit.wf, IntKind.min, IntKind.max, IntKind.bits, IntKind.signed] at this
      exact this
end
end Go.Proofs.Ytjckghdgogkeaaa

namespace Go.Proofs.Ytjckghdgogkeaaa
open Go.ChangeShapes Go.WideShapes Go.ChangeAt Go.RowKit
set_option linter.unusedVariables false
set_option maxRecDepth 100000 in
theorem maySound_lifted (os : Os) (started : os.Started) (H : Type) (enc : TypeId × Value → H) :
    ReturnsInHanded {} Try.checked os 5 .any (Rows.maySoundSpec.pre6 enc Try.prog Try.f5 Rows.maySoundRow.domain false) (Rows.maySoundSpec.post enc Try.prog Try.f5 false true false false) := by
  refine returnsInHanded_of_change_sized (C := Try.checked) ownNone started (by kernel_rfl) Try.func5
    (ChangeSpec.witness6 (enc := enc) (C := Try.checked) false ⟨#[], #[.agg #[.int .i64 0, .int .i64 0, .int .i64 0], .slice none 0 0, .slice none 0 0], []⟩ 8 (by kernel_rfl) (by kernel_rfl) (by kernel_rfl) (by kernel_rfl)) ?_
  intro W base args ds gs before hval0 hW hcnd hsz0 _
  have hval : ∀ (j : Nat) t v, Try.f5.params[j]? = some t → args[j]? = some v → Value.okWide Try.prog W .any base t v := hval0
  have hW' := hW
  obtain ⟨p, q, hA0, hV, rfl, hfz, hnd⟩ := hW
  have hA : DataW.TrodAll enc Try.prog W 0 (fun _ => true) true Try.f5.params.toList args.toList ds p := hA0
  rw [Try.params5] at hA hval
  obtain ⟨v0, vs0, d0, ds0, p0, q0, hargs, rfl, rfl, h0, r0⟩ := trodAll_cons hA
  obtain ⟨v1, vs1, d1, ds1, p1, q1, rfl, rfl, rfl, h1, r1⟩ := trodAll_cons r0
  obtain ⟨v2, vs2, d2, ds2, p2, q2, rfl, rfl, rfl, h2, r2⟩ := trodAll_cons r1
  obtain ⟨rfl, rfl, rfl⟩ := trodAll_nil r2
  obtain rfl : args = #[v0, v1, v2] := by cases args; simp_all
  obtain ⟨rfl, rfl⟩ := trodVars_none hV
  have k0 := h0
  have lt0 : ∀ x ∈ p0, x.block < W.heap.size := by obtain ⟨m, hm⟩ := k0; exact DataW.trod_lt m _ _ _ hm
  obtain ⟨S, Wy, L, rfl⟩ := open_cache (hval 0 23 v0 rfl rfl) h0
  have k1 := h1
  have lt1 : ∀ x ∈ p1, x.block < W.heap.size := by obtain ⟨m, hm⟩ := k1; exact DataW.trod_lt m _ _ _ hm
  obtain ⟨A1, c1, l1, rfl, hc1, hr1, hw1⟩ := open_steps2 (hval 1 24 v1 rfl rfl) h1
  have k2 := h2
  have lt2 : ∀ x ∈ p2, x.block < W.heap.size := by obtain ⟨m, hm⟩ := k2; exact DataW.trod_lt m _ _ _ hm
  obtain ⟨A2, c2, l2, rfl, hc2, hr2, hw2⟩ := open_steps2 (hval 2 24 v2 rfl rfl) h2
  clear hA0 hval0 hsz0
  refine (sound_walk S Wy L A1 c1 l1 A2 c2 l2 W hr1 hc1 hw1 hr2 hc2 hw2).mono fun e W' ⟨he, bel⟩ => ?_
  subst he
  exact ⟨_, rfl, _, _, _, [], _, [], hW', trodAll_mk1 (shut_bool Try.underlying4 _), (trodAll_cons_mk (Below.trod laidOut (by kernel_rfl) (of_decide_eq_true (by kernel_rfl)) k0 bel lt0) (trodAll_cons_mk (Below.trod laidOut (by kernel_rfl) (of_decide_eq_true (by kernel_rfl)) k1 bel lt1) (trodAll_cons_mk (Below.trod laidOut (by kernel_rfl) (of_decide_eq_true (by kernel_rfl)) k2 bel lt2) trodAll_mk0))), rfl, bel.frame _, fun h => by cases h⟩
theorem maySound_over : Rows.maySoundRow.holds Try.pinned (OpenSpec.ofChange Rows.maySoundSpec) :=
  OpenClaim.holds_of_wide 5 Try.f5 rfl rfl rfl rfl rfl rfl rfl ⟨rfl, rfl, rfl, rfl, rfl⟩ rfl rfl rfl rfl rfl (by kernel_rfl) Try.func5 (by kernel_rfl)
    (of_decide_eq_true (by kernel_rfl)) (by unfold Func.isWrapper; first | (rw [if_pos (by decide +kernel)]; kernel_rfl) | (rw [if_neg (by decide +kernel)]; exact ⟨rfl, rfl⟩))
    (fun os started H enc _ => maySound_lifted os started H enc)
/-- The row, for the claim. -/
theorem maySound_holds : Rows.MaySoundSaid := maySound_over
#print axioms maySound_holds
end Go.Proofs.Ytjckghdgogkeaaa
