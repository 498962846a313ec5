/- The contracts of ontimelaw32.ints (of equal lists) and ontimelaw32.awake. -/
import Derived.Test.YtdbgnniedcibeaaPe3
namespace Go.Proofs.Ytdbgnniedcibeaa
open Go.RowKit Go.Maps Go.Proofs.YtdbgnniedcibeaaW.PrintWords Go.Proofs.Ytdbgnniedcibeaa.Pusable
set_option linter.unusedVariables false

set_option maxHeartbeats 1000000 in
theorem ints_yes (A : Option Addr) (c n : Nat) (B : Option Addr) (d : Nat) (xs : List Int) (w : World) (h : KI.C w A n xs) (k : KI.C w B n xs) :
    Calls Try.prog 20 #[.slice A n c, .slice B n d] w fun e w' => e = .returned (.bool true) ∧ Ext w w' := by
  have hm := C_max h
  go_enter Try.func20, Try.ntmps20
  go_wp2
  go_loopw [13] (fun i wr => ∃ j : Nat, i = .int .i64 j ∧ j ≤ n ∧ Ext w wr) (fun i _ => n - (Go.RowKit.intOf i).toNat)
  case atStart => exact ⟨0, rfl, Nat.zero_le _, Ext.refl _⟩
  case round =>
    obtain ⟨j, rfl, hj, hext⟩ := hrel
    by_cases hlt : j < n
    · obtain ⟨ad, rfl, c0⟩ := at_num (C_ext h hext) j hlt
      obtain ⟨bd, rfl, c1⟩ := at_num (C_ext k hext) j hlt
      go_wp2
      go_region
      all_goals
        go_wp2
        go_round
        case rel => exact ⟨j + 1, by go_num, by omega, hext.drew⟩
        case measure => simp [Go.RowKit.intOf]; omega
    · obtain rfl : j = n := by omega
      go_wp2
      go_ret
      exact ⟨rfl, hext⟩

theorem lit_row {w : World} {B : Nat} {xs : List Int} (h : Blk w B (.cells (xs.map (Value.int .i64)).toArray 3)) (hl : xs.length ≤ 1000) : KI.C w (some ⟨B, 0, none⟩) xs.length xs := by
  have := (RowB.intro (base := 0) (r := xs) (cap := xs.length) (Nat.zero_le _) h (Nat.le_refl _) (by omega) (by simp) (fun j hj => by simp [List.getD, hj])).C
  obtain ⟨A, c, e, _, hC⟩ := this
  cases e
  exact hC
def l3 : List S44 := [⟨0, 0⟩, ⟨1, 1⟩, ⟨2, 2⟩]
theorem l3_lines : IsLines l3 [0, 1, 2] := by
  refine ⟨by decide, fun x => ?_⟩
  unfold accS l3 acc1
  simp
  omega
theorem l3_C {w : World} {B : Nat} (h : Blk w B (.cells #[.int .i64 0, .int .i64 0, .int .i64 1, .int .i64 1, .int .i64 2, .int .i64 2] 44)) : k44.C w (some ⟨B, 0, none⟩) 3 l3 := by
  refine ⟨rfl, by omega, fun _ => ⟨_, rfl, fun j q hj => ⟨[.int .i64 q.f0, .int .i64 q.f1], rfl, k44_mk _ _, fun i u hu => ?_⟩⟩⟩
  have hc := fun i => h.cell i
  show w.cell? (Addr.add ⟨B, 0, none⟩ (j * 2 + i)) = _
  rw [Addr.add_lit, Nat.zero_add, hc]
  match j, hj, i, hu with
  | 0, hj, 0, hu => cases hj; cases hu; rfl
  | 0, hj, 1, hu => cases hj; cases hu; rfl
  | 1, hj, 0, hu => cases hj; cases hu; rfl
  | 1, hj, 1, hu => cases hj; cases hu; rfl
  | 2, hj, 0, hu => cases hj; cases hu; rfl
  | 2, hj, 1, hu => cases hj; cases hu; rfl
  | _, hj, i + 2, hu => cases hu
  | j + 3, hj, _, _ => cases hj
theorem l3_hi : ∀ r ∈ l3, r.f1 ≤ 3000 := by decide
theorem geo1 : Geo 2 1 4 := ⟨by decide, by decide, by decide, by decide, by decide⟩
theorem geo2 : Geo 2 2 4 := ⟨by decide, by decide, by decide, by decide, by decide⟩
theorem l3_facts : confs 2 [0, 1, 2] = [2, 1] ∧ pers 1 2 [0, 1, 2] = [1] ∧ (pers 2 2 [0, 1, 2]).length = 3 := by decide

theorem conf_l3 (A : Option Addr) (c : Nat) (w : World) (h : k44.C w A 3 l3) :
    Calls Try.prog 14 #[.agg #[.int .i64 2, .int .i64 1, .int .i64 4], .slice A 3 c] w fun e w' => ∃ A' c', e = .returned (.slice A' 2 c') ∧ KI.C w' A' 2 [2, 1] ∧ Ext w w' := by
  refine (conflicts_at geo1 A c l3 [0, 1, 2] l3_lines w h (by decide) l3_hi).mono ?_
  rintro e w' ⟨A', c', rfl, _, h1, _, h2⟩
  have e2 : confs (Int.toNat 2) [0, 1, 2] = [2, 1] := l3_facts.1
  rw [e2] at h1
  obtain ⟨A9, c9, e9, _, hC⟩ := h1.C
  cases e9
  exact ⟨_, _, rfl, hC, h2⟩
theorem pers_l3 (A : Option Addr) (c : Nat) (w : World) (h : k44.C w A 3 l3) :
    Calls Try.prog 15 #[.agg #[.int .i64 2, .int .i64 1, .int .i64 4], .slice A 3 c] w fun e w' => ∃ A' c', e = .returned (.slice A' 1 c') ∧ KI.C w' A' 1 [1] ∧ Ext w w' := by
  refine (persistent_at geo1 A c l3 [0, 1, 2] l3_lines w h (by decide) l3_hi).mono ?_
  have e2 : pers 1 (Int.toNat 2) [0, 1, 2] = [1] := l3_facts.2.1
  rw [e2]
  rintro e w' ⟨A', c', rfl, h1, h2⟩
  obtain ⟨A9, c9, e9, _, hC⟩ := h1.C
  cases e9
  exact ⟨_, _, rfl, hC, h2⟩
theorem miss1_l3 (A : Option Addr) (c : Nat) (w : World) (h : k44.C w A 3 l3) :
    Calls Try.prog 16 #[.agg #[.int .i64 2, .int .i64 1, .int .i64 4], .slice A 3 c] w fun e w' => e = .returned (.int .i64 1) ∧ Ext w w' := by
  have := misses_at geo1 A c l3 [0, 1, 2] l3_lines w h (by decide) l3_hi
  have e2 : pers 1 (Int.toNat 2) [0, 1, 2] = [1] := l3_facts.2.1
  rw [e2] at this
  exact this
theorem miss2_l3 (A : Option Addr) (c : Nat) (w : World) (h : k44.C w A 3 l3) :
    Calls Try.prog 16 #[.agg #[.int .i64 2, .int .i64 2, .int .i64 4], .slice A 3 c] w fun e w' => e = .returned (.int .i64 3) ∧ Ext w w' := by
  have := misses_at geo2 A c l3 [0, 1, 2] l3_lines w h (by decide) l3_hi
  have e2 : (pers 2 (Int.toNat 2) [0, 1, 2]).length = 3 := l3_facts.2.2
  rw [e2] at this
  exact this
theorem flush_l3 (w : World) :
    Calls Try.prog 18 #[.agg #[.int .i64 2, .int .i64 2, .int .i64 4]] w fun e w' => e = .returned (.int .i64 4) ∧ Ext w w' := flush_at geo2 w

set_option maxHeartbeats 2000000 in
theorem awake_yes (w : World) : Calls Try.prog 11 #[] w fun e w' => e = .returned (.bool true) ∧ Ext w w' := by
  go_enter Try.func11, Try.ntmps11
  go_wp2_with fail
  obtain ⟨w0, hw0⟩ : ∃ w0, w0 = ((w.alloc (.cells #[.int .i64 0, .int .i64 0, .int .i64 1, .int .i64 1, .int .i64 2, .int .i64 2] 44)).alloc (.cells #[.int .i64 2, .int .i64 1, .int .i64 4] 23)).alloc (.cells #[.int .i64 2, .int .i64 2, .int .i64 4] 23) := ⟨_, rfl⟩
  have kl : Blk w0 w.heap.size (.cells #[.int .i64 0, .int .i64 0, .int .i64 1, .int .i64 1, .int .i64 2, .int .i64 2] 44) := by rw [hw0]; exact Blk.alloc (Blk.alloc (Blk.new rfl))
  have k2 : Blk w0 (w.heap.size + 1) (.cells #[.int .i64 2, .int .i64 1, .int .i64 4] 23) := by rw [hw0]; exact Blk.alloc (Blk.new (by simp))
  have k3 : Blk w0 (w.heap.size + 1 + 1) (.cells #[.int .i64 2, .int .i64 2, .int .i64 4] 23) := by rw [hw0]; exact Blk.new (by simp)
  have hx0 : Ext w w0 := by rw [hw0]; exact (by repeat (first | ((with_reducible refine Ext.set1 ?_ ?_); (first | (focus (simp; done)) | (focus (simp; omega)) | (focus omega))) | (with_reducible refine Ext.alloc ?_ _) | (with_reducible exact Ext.refl _) | (refine Ext.trans ?_ (by with_reducible assumption))))
  have hl3 := l3_C kl
  rw [← hw0]
  clear hw0 kl
  refine Calls.mono (conf_l3 _ 3 w0 hl3) ?_
  rintro e w1 ⟨A1, c1, rfl, hC1, hb1⟩
  obtain ⟨a0, a1, a2⟩ := (k2.ext hb1).c3
  have z2 := (k2.ext hb1).lt
  have z3 := (k3.ext hb1).lt
  go_wp2_with (first
    | (go_at_call 18; refine Calls.mono (flush_l3 _) ?_; rintro e w7 ⟨rfl, hb7⟩)
    | (have gq := hb5; clear gq; go_at_call 16; refine Calls.mono (miss2_l3 _ 3 _ (C_ext hl3 (hb1.trans (hb2.trans (hb3.trans (hb4.trans hb5)))))) ?_; rintro e w6 ⟨rfl, hb6⟩; obtain ⟨f0, f1, f2⟩ := (k3.ext (hb1.trans (hb2.trans (hb3.trans (hb4.trans (hb5.trans hb6)))))).c3)
    | (go_at_call 16; refine Calls.mono (miss1_l3 _ 3 _ (C_ext hl3 (hb1.trans (hb2.trans (hb3.trans hb4))))) ?_; rintro e w5 ⟨rfl, hb5⟩; obtain ⟨f0, f1, f2⟩ := (k3.ext (hb1.trans (hb2.trans (hb3.trans (hb4.trans hb5))))).c3)
    | (have gq := hb3; clear gq; go_at_call 20; refine Calls.mono (ints_yes A3 c3 1 _ 1 [1] _ (C_ext hC3 ((Ext.refl _).alloc _)) (lit_row (xs := [1]) (Blk.new rfl) (by decide))) ?_; rintro e w4 ⟨rfl, hb4'⟩; have hb4 : Ext w3 w4 := ((Ext.refl _).alloc _).trans hb4'; clear hb4'; obtain ⟨f0, f1, f2⟩ := (k2.ext (hb1.trans (hb2.trans (hb3.trans hb4)))).c3)
    | (go_at_call 15; refine Calls.mono (pers_l3 _ 3 _ (C_ext hl3 (hb1.trans hb2))) ?_; rintro e w3 ⟨A3, c3, rfl, hC3, hb3⟩)
    | (go_at_call 20; refine Calls.mono (ints_yes A1 c1 2 _ 2 [2, 1] _ (C_ext hC1 ((Ext.refl _).alloc _)) (lit_row (xs := [2, 1]) (Blk.new rfl) (by decide))) ?_; rintro e w2 ⟨rfl, hb2'⟩; have hb2 : Ext w1 w2 := ((Ext.refl _).alloc _).trans hb2'; clear hb2'; obtain ⟨f0, f1, f2⟩ := (k2.ext (hb1.trans hb2)).c3))
  go_ret
  exact ⟨rfl, hx0.trans (hb1.trans (hb2.trans (hb3.trans (hb4.trans (hb5.trans (hb6.trans hb7))))))⟩
end Go.Proofs.Ytdbgnniedcibeaa
