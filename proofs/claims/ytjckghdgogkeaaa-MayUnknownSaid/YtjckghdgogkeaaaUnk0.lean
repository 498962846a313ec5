/- The walk of ontimelaw31.MayUnknown. -/
import Derived.Test.YtjckghdgogkeaaaMono0
import Derived.Test.YtjckghdgogkeaaaDescr0
namespace Go.Proofs.Ytjckghdgogkeaaa
open Go.RowKit Go.Maps Go.Proofs.YtjckghdgogkeaaaW.PrintWords Go.Proofs.Ytjckghdgogkeaaa.PMayDescribes
set_option linter.unusedVariables false

theorem StB.none_inv {w : World} {W : Int} {n : Nat} {u : Bool} {p : Option Nat} (h : StB w W n none u p) : u = true ∧ p = none := by
  rcases h with ⟨h1, h2, _⟩ | ⟨_, f, h, _⟩
  · exact ⟨h1, h2⟩
  · cases h
/-- A call that hands back the unknown state. -/
theorem gives_unk {S W L : Int} {n : Nat} {w w' : World} {e : Ending} (h : Gives S W L n none w e w') : e = .returned (.agg #[.int .i64 S, .int .i64 W, .int .i64 L, .bool true, .map none]) ∧ Ext w w' := by
  obtain ⟨u, p, he, hs, hb⟩ := h
  obtain ⟨rfl, rfl⟩ := hs.none_inv
  exact ⟨he, hb⟩
theorem lines_any {S W L : Int} (u : Bool) (p : Option Nat) (n : Nat) (st : St) (w : World) (h : StB w W n st u p) (hn : n ≤ 1000000) :
    Calls Try.prog 29 #[.agg #[.int .i64 S, .int .i64 W, .int .i64 L, .bool u, .map p]] w fun e w' => ∃ v, e = .returned (.tuple #[v, .bool st.isSome]) ∧ Ext w w' := by
  rcases h with ⟨rfl, rfl, rfl⟩ | ⟨rfl, f, rfl, him, _⟩
  · exact (may_lines_unknown S W L none w).mono fun e w' ⟨he, hb⟩ => ⟨_, he, hb⟩
  · exact (may_lines S W L p n f w him hn).mono fun e w' ⟨v, K, ⟨he, _⟩, _, hb⟩ => ⟨v, he, hb⟩
theorem wide_none {S W : Int} {st : St} (x : Int) (hx : 0 ≤ x) : sRange S W st x (x + 64) = none := by
  cases st with
  | none => rfl
  | some f =>
    unfold sRange
    simp only
    rw [if_neg (by omega), if_neg (by omega), if_pos (by omega)]
theorem near_some {S W : Int} {st : St} (x : Int) (hx : 0 ≤ x) : (sRange S W st x (x + 64 - 1)).isSome = st.isSome := by
  cases st with
  | none => rfl
  | some f =>
    unfold sRange
    simp only
    rw [if_neg (by omega), if_neg (by omega), if_neg (by omega)]
    rfl
theorem join_none1 (st : St) : sJoin st none = none := by cases st <;> rfl
theorem join_none2 (st : St) : sJoin none st = none := by cases st <;> rfl
theorem step_none (S W lo hi : Int) : sStep S W none lo hi = none := by unfold sStep; split <;> rfl

set_option maxHeartbeats 1000000 in
theorem unk_walk (S W L : Int) (A : Option Addr) (c : Nat) (l : List S45) (x : Int) (w : World) (hr : k45.C w A l.length l) (hc : l.length ≤ c) (hx : 0 ≤ x ∧ x ≤ 65535) :
    Calls Try.prog 9 #[.agg #[.int .i64 S, .int .i64 W, .int .i64 L], .slice A l.length c, .int .u16 x] w fun e w' => e = .returned (.bool true) ∧ Ext w w' := by
  obtain ⟨hx0, hx1⟩ := hx
  cases hs : smallB S W L l with
  | false =>
    have HS := Lib.hid hs; clear hs
    go_enter Try.func9, Try.ntmps9
    go_wp2_with (first
      | (go_at_call 12; refine Calls.mono (small_any S W L A c l _ (C_ext hr (by exact (by repeat (first | ((with_reducible refine Ext.set1 ?_ ?_); (first | (focus (simp; done)) | (focus (simp; omega)) | (focus omega))) | (with_reducible refine Ext.alloc ?_ _) | (with_reducible exact Ext.refl _) | (refine Ext.trans ?_ (by with_reducible assumption)))))) hc) ?_; rintro e w2 ⟨rfl, hb2⟩; rw [HS.out])
      | (have gq := hb2; clear gq; go_at_call 11; refine Calls.mono (awake_yes _) ?_; rintro e w3 ⟨rfl, hb3⟩)
      | (go_at_call 11; refine Calls.mono (awake_yes _) ?_; rintro e w1 ⟨rfl, hb1⟩; obtain ⟨a0, a1, a2⟩ := Blk.c3 (w := w1) (B := w.heap.size) (by repeat (first | (with_reducible assumption) | ((with_reducible refine Blk.new ?_); (first | (focus rfl) | (focus (simp; done)) | (focus omega))) | ((with_reducible refine Blk.set1 ?_ ?_); (focus omega)) | (with_reducible refine Blk.alloc ?_) | (refine Blk.ext ?_ (by with_reducible assumption))))))
    go_ret
    exact ⟨rfl, (by repeat (first | ((with_reducible refine Ext.set1 ?_ ?_); (first | (focus (simp; done)) | (focus (simp; omega)) | (focus omega))) | (with_reducible refine Ext.alloc ?_ _) | (with_reducible exact Ext.refl _) | (refine Ext.trans ?_ (by with_reducible assumption))))⟩
  | true =>
    have sm := small_is hs
    have HS := Lib.hid hs; clear hs
    have g := sm.geo
    have hll : l.length ≤ 40 := sm.len
    go_enter Try.func9, Try.ntmps9
    go_wp2_with (first
      | (have gq := hb7; clear gq; go_at_call 29; refine Calls.mono (lines_any u4 p4 (64 * l.length) (sSteps S W (some noF) l) _ (by repeat (first | (with_reducible assumption) | (with_reducible refine StB.set ?_) | (with_reducible refine StB.alloc ?_ _) | (refine StB.ext ?_ (by with_reducible assumption)))) (by omega)) ?_; rintro e w8 ⟨v8, rfl, hb8⟩)
      | (have gq := hb6; clear gq; go_at_call 29; refine Calls.mono (lines_any u6 p6 (64 * l.length + 64) (sRange S W (sSteps S W (some noF) l) x (x + 64 - 1)) _ (by repeat (first | (with_reducible assumption) | (with_reducible refine StB.set ?_) | (with_reducible refine StB.alloc ?_ _) | (refine StB.ext ?_ (by with_reducible assumption)))) (by omega)) ?_; rintro e w7 ⟨v7, rfl, hb7⟩; rw [near_some x hx0]; obtain ⟨e0, e1, e2, e3, e4⟩ := Blk.c5 (w := w7) (B := w4.heap.size) (by repeat (first | (with_reducible assumption) | ((with_reducible refine Blk.new ?_); (first | (focus rfl) | (focus (simp; done)) | (focus omega))) | ((with_reducible refine Blk.set1 ?_ ?_); (focus omega)) | (with_reducible refine Blk.alloc ?_) | (refine Blk.ext ?_ (by with_reducible assumption)))))
      | (have gq := hb5; clear gq; go_at_call 31; refine Calls.mono (range_st g x (x + 64 - 1) (by omega) u4 p4 (64 * l.length) (sSteps S W (some noF) l) _ (by repeat (first | (with_reducible assumption) | (with_reducible refine StB.set ?_) | (with_reducible refine StB.alloc ?_ _) | (refine StB.ext ?_ (by with_reducible assumption)))) (by omega)) ?_; rintro e w6 ⟨u6, p6, rfl, h6, hb6⟩; have hz6 := hb6.size; simp at hz6; have q6 : w4.heap.size < w6.heap.size := (by omega))
      | (have gq := hb4; clear gq; go_at_call 31; refine Calls.mono (range_st g x (x + 64) (by omega) u4 p4 (64 * l.length) (sSteps S W (some noF) l) _ (by repeat (first | (with_reducible assumption) | (with_reducible refine StB.set ?_) | (with_reducible refine StB.alloc ?_ _) | (refine StB.ext ?_ (by with_reducible assumption)))) (by omega)) ?_; intro e w5 hh; rw [wide_none x hx0] at hh; obtain ⟨rfl, hb5⟩ := gives_unk hh; obtain ⟨b0, b1, b2, b3, b4⟩ := Blk.c5 (w := w5) (B := w4.heap.size) (by repeat (first | (with_reducible assumption) | ((with_reducible refine Blk.new ?_); (first | (focus rfl) | (focus (simp; done)) | (focus omega))) | ((with_reducible refine Blk.set1 ?_ ?_); (focus omega)) | (with_reducible refine Blk.alloc ?_) | (refine Blk.ext ?_ (by with_reducible assumption)))); have hz5 := hb5.size; simp at hz5; have q5 : w4.heap.size < w5.heap.size := (by omega))
      | (go_at_call 13; refine Calls.mono (after_st g A c l _ (C_ext hr (by repeat (first | ((with_reducible refine Ext.set1 ?_ ?_); (first | (focus (simp; done)) | (focus (simp; omega)) | (focus omega))) | (with_reducible refine Ext.alloc ?_ _) | (with_reducible exact Ext.refl _) | (refine Ext.trans ?_ (by with_reducible assumption))))) (by omega) sm.step) ?_; rintro e w4 ⟨u4, p4, v4, rfl, h4, hrf4, hb4⟩; obtain ⟨A4, cc4, rfl⟩ := Kd.R_slice hrf4; have hz4 := hb4.size; simp at hz4)
      | (go_at_call 14; refine Calls.mono (may_unknown_yes g _) ?_; rintro e w3 ⟨rfl, hb3⟩; obtain ⟨j0, j1, j2⟩ := Blk.c3 (w := w3) (B := w.heap.size) (by repeat (first | (with_reducible assumption) | ((with_reducible refine Blk.new ?_); (first | (focus rfl) | (focus (simp; done)) | (focus omega))) | ((with_reducible refine Blk.set1 ?_ ?_); (focus omega)) | (with_reducible refine Blk.alloc ?_) | (refine Blk.ext ?_ (by with_reducible assumption)))); have q3 : w.heap.size < w3.heap.size := (by have := hb3.size; have := hb2.size; have := hb1.size; simp at this; omega))
      | (go_at_call 12; refine Calls.mono (small_any S W L A c l _ (C_ext hr (by exact (by repeat (first | ((with_reducible refine Ext.set1 ?_ ?_); (first | (focus (simp; done)) | (focus (simp; omega)) | (focus omega))) | (with_reducible refine Ext.alloc ?_ _) | (with_reducible exact Ext.refl _) | (refine Ext.trans ?_ (by with_reducible assumption)))))) hc) ?_; rintro e w2 ⟨rfl, hb2⟩; rw [HS.out]; obtain ⟨d0, d1, d2⟩ := Blk.c3 (w := w2) (B := w.heap.size) (by repeat (first | (with_reducible assumption) | ((with_reducible refine Blk.new ?_); (first | (focus rfl) | (focus (simp; done)) | (focus omega))) | ((with_reducible refine Blk.set1 ?_ ?_); (focus omega)) | (with_reducible refine Blk.alloc ?_) | (refine Blk.ext ?_ (by with_reducible assumption)))))
      | (go_at_call 11; refine Calls.mono (awake_yes _) ?_; rintro e w1 ⟨rfl, hb1⟩; obtain ⟨a0, a1, a2⟩ := Blk.c3 (w := w1) (B := w.heap.size) (by repeat (first | (with_reducible assumption) | ((with_reducible refine Blk.new ?_); (first | (focus rfl) | (focus (simp; done)) | (focus omega))) | ((with_reducible refine Blk.set1 ?_ ?_); (focus omega)) | (with_reducible refine Blk.alloc ?_) | (refine Blk.ext ?_ (by with_reducible assumption))))))
    have e7 : Blk w8 w3.heap.size (mayO S W L true none) := (by repeat (first | (with_reducible assumption) | ((with_reducible refine Blk.new ?_); (first | (focus rfl) | (focus (simp; done)) | (focus omega))) | ((with_reducible refine Blk.set1 ?_ ?_); (focus omega)) | (with_reducible refine Blk.alloc ?_) | (refine Blk.ext ?_ (by with_reducible assumption))))
    have e9 : Blk w8 w4.heap.size (mayO S W L u4 p4) := (by repeat (first | (with_reducible assumption) | ((with_reducible refine Blk.new ?_); (first | (focus rfl) | (focus (simp; done)) | (focus omega))) | ((with_reducible refine Blk.set1 ?_ ?_); (focus omega)) | (with_reducible refine Blk.alloc ?_) | (refine Blk.ext ?_ (by with_reducible assumption))))
    have e11 : Blk w8 w5.heap.size (mayO S W L true none) := (by repeat (first | (with_reducible assumption) | ((with_reducible refine Blk.new ?_); (first | (focus rfl) | (focus (simp; done)) | (focus omega))) | ((with_reducible refine Blk.set1 ?_ ?_); (focus omega)) | (with_reducible refine Blk.alloc ?_) | (refine Blk.ext ?_ (by with_reducible assumption))))
    have est : StB w8 W (64 * l.length) (sSteps S W (some noF) l) u4 p4 := (by repeat (first | (with_reducible assumption) | (with_reducible refine StB.set ?_) | (with_reducible refine StB.alloc ?_ _) | (refine StB.ext ?_ (by with_reducible assumption))))
    have eext : Ext w w8 := (by repeat (first | ((with_reducible refine Ext.set1 ?_ ?_); (first | (focus (simp; done)) | (focus (simp; omega)) | (focus omega))) | (with_reducible refine Ext.alloc ?_ _) | (with_reducible exact Ext.refl _) | (refine Ext.trans ?_ (by with_reducible assumption))))
    have hw38 := e7.lt
    clear hb1 hb2 hb3 hb4 hb5 hb6 hb7 hb8 a0 a1 a2 d0 d1 d2 j0 j1 j2 b0 b1 b2 b3 b4 e0 e1 e2 e3 e4 h4 h6 hrf4
    refine wp_region_ext (by kernel_rfl) ?_
    repeat (
      refine wpQuiet_step (fun K hK => ?_)
      go_simp
      first
        | (refine hK _ ?_; clear hK K)
        | (refine ⟨_, fun w' hw' => rfl, hK _ ?_⟩; clear hK K)
        | (apply Exists.intro
           refine ⟨fun w' hw' => ?_, hK _ ?_⟩
           (first
             | (go_at_call 19; with_reducible refine Calls.mono (equal_st (S := S) (W := W) (L := L) true true none none 0 0 none none w' (.unk _ _ _) (.unk _ _ _)) ?_; intro e w'' hh; obtain ⟨he, hx⟩ := hh.yes rfl; exact ⟨he, hw'.trans hx⟩)
             | (go_at_call 17; with_reducible refine Calls.mono (join_st (S := S) (W := W) (L := L) u4 true p4 none (64 * l.length) 0 (sSteps S W (some noF) l) none w' (est.ext hw') (.unk _ _ _) (by omega) (by omega)) ?_; intro e w'' hh; rw [join_none1] at hh; obtain ⟨he, hb⟩ := gives_unk hh; exact ⟨he, hw'.trans hb⟩)
             | (go_at_call 17; with_reducible refine Calls.mono (join_st (S := S) (W := W) (L := L) true u4 none p4 0 (64 * l.length) none (sSteps S W (some noF) l) w' (.unk _ _ _) (est.ext hw') (by omega) (by omega)) ?_; intro e w'' hh; rw [join_none2] at hh; obtain ⟨he, hb⟩ := gives_unk hh; exact ⟨he, hw'.trans hb⟩)
             | (obtain ⟨q0, q1, q2, q3, q4⟩ := (e7.ext hw').c5; obtain ⟨r0, r1, r2, r3, r4⟩ := (e9.ext hw').c5; obtain ⟨s0, s1, s2, s3, s4⟩ := (e11.ext hw').c5; go_simp; rfl))
           clear hK K))
    refine wpQuiet_nil ?_
    intro w9 hb9
    have k7 := e7.ext hb9
    have hext9 := eext.trans hb9
    clear e7 e9 e11 est eext hb9
    go_wp2
    go_loopw [99] (fun i wr => ∃ j : Nat, i = .int .i64 j ∧ j ≤ l.length ∧ Blk wr w3.heap.size (mayO S W L true none) ∧ Ext w wr) (fun i _ => l.length - (Go.RowKit.intOf i).toNat)
    case atStart => exact ⟨0, rfl, Nat.zero_le _, k7, hext9⟩
    case round =>
      obtain ⟨j, rfl, hj, k8, hext⟩ := hrel
      have hl8 := k8.lt
      obtain ⟨t0, t1, t2, t3, t4⟩ := k8.c5
      by_cases hlt : j < l.length
      · have hr4 := C_ext hr hext
        obtain ⟨ad, rfl, c0, c1, c2⟩ := at_step hr4 j hlt
        have hxm : l.getD j z45 ∈ l := by
          rw [List.getD_eq_getElem?_getD, List.getElem?_eq_getElem hlt]
          exact List.getElem_mem hlt
        have hbx := sm.step _ hxm
        clear hxm
        obtain ⟨⟨x0, x1, x2⟩, hx⟩ : ∃ x, x = l.getD j z45 := ⟨_, rfl⟩
        rw [← hx] at c0 c1 c2 hbx
        dsimp only at c0 c1 c2 hbx
        clear hx
        obtain ⟨b0, b1, b2, b3⟩ := hbx
        go_wp2_with (go_at_call 18; refine Calls.mono (step_st g x0 x1 x2 (by omega) true none 0 none _ (.unk _ _ _) (by omega)) ?_; intro e w10 hh; rw [step_none] at hh; obtain ⟨rfl, hb10⟩ := gives_unk hh; have m8 : Blk w10 w3.heap.size (mayO S W L true none) := (by repeat (first | (with_reducible assumption) | ((with_reducible refine Blk.new ?_); (first | (focus rfl) | (focus (simp; done)) | (focus omega))) | ((with_reducible refine Blk.set1 ?_ ?_); (focus omega)) | (with_reducible refine Blk.alloc ?_) | (refine Blk.ext ?_ (by with_reducible assumption)))); obtain ⟨i0, i1, i2, i3, i4⟩ := m8.c5; obtain ⟨f0, f1, f2, f3, f4⟩ := m8.f5)
        go_roundw
        case rel => exact ⟨j + 1, by go_num, by omega, Blk.put5 m8, (by repeat (first | ((with_reducible refine Ext.set1 ?_ ?_); (first | (focus (simp; done)) | (focus (simp; omega)) | (focus omega))) | (with_reducible refine Ext.alloc ?_ _) | (with_reducible exact Ext.refl _) | (refine Ext.trans ?_ (by with_reducible assumption))))⟩
        case measure => simp [Go.RowKit.intOf]; omega
      · obtain rfl : j = l.length := by omega
        go_wp2_with (first
          | (go_at_call 29; refine Calls.mono (may_lines_unknown S W L none _) ?_; rintro e w10 ⟨rfl, hb10⟩; obtain ⟨i0, i1, i2, i3, i4⟩ := (k8.ext hb10).c5)
          | (go_at_call 23; refine Calls.mono (may_age_unknown S W L x none _) ?_; rintro e w11 ⟨rfl, hb11⟩))
        have hd : decide (0 ≤ x) = true := decide_eq_true hx0
        go_ret
        exact ⟨rfl, (by repeat (first | ((with_reducible refine Ext.set1 ?_ ?_); (first | (focus (simp; done)) | (focus (simp; omega)) | (focus omega))) | (with_reducible refine Ext.alloc ?_ _) | (with_reducible exact Ext.refl _) | (refine Ext.trans ?_ (by with_reducible assumption))))⟩
end Go.Proofs.Ytjckghdgogkeaaa
