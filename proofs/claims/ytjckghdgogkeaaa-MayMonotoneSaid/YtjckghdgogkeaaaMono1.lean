/- The walk of ontimelaw31.MayMonotone. -/
import Derived.Test.YtjckghdgogkeaaaMono0
import Derived.Test.YtjckghdgogkeaaaOpen
import Derived.Deep.RegionHeld3
import Derived.Deep.DeepCutAuto
import Derived.Deep.CutRange
import Derived.Deep.DrawnRows
namespace Go.Proofs.Ytjckghdgogkeaaa
open Go.RowKit Go.Maps Go.Proofs.YtjckghdgogkeaaaW.PrintWords Go.Proofs.Ytjckghdgogkeaaa.PMayDescribes
set_option linter.unusedVariables false
attribute [local go_sem ↓] Go.wp_at_zero Go.wp_at_succ

abbrev cacheO (S W L : Int) : Obj := .cells #[.int .i64 S, .int .i64 W, .int .i64 L] 23
abbrev stepO (a b c : Int) : Obj := .cells #[.int .i64 a, .int .i64 b, .int .u8 c] 45

theorem Blk.far5 {w : World} {B g : Nat} {o : Obj} {a b c d e : Value} (hne : B ≠ g) (h : Blk w B o) : Blk (((((w.setCell ⟨g, 0, none⟩ a).setCell ⟨g, 1, none⟩ b).setCell ⟨g, 2, none⟩ c).setCell ⟨g, 3, none⟩ d).setCell ⟨g, 4, none⟩ e) B o :=
  Blk.set1 hne (Blk.set1 hne (Blk.set1 hne (Blk.set1 hne (Blk.set1 hne h))))

set_option maxHeartbeats 1000000 in
theorem mono_small (S W L : Int) (A : Option Addr) (c : Nat) (l : List S45) (B : Option Addr) (d : Nat) (m : List S45) (C : Option Addr) (e : Nat) (k : List S45) (w : World) (hr : k45.C w A l.length l) (hc : l.length ≤ c) (hr2 : k45.C w B m.length m) (hc2 : m.length ≤ d) (hr3 : k45.C w C k.length k) (hc3 : k.length ≤ e)
    (hno : ¬ (smallB S W L l = true ∧ smallB S W L m = true ∧ smallB S W L k = true)) :
    Calls Try.prog 4 #[.agg #[.int .i64 S, .int .i64 W, .int .i64 L], .slice A l.length c, .slice B m.length d, .slice C k.length e] w fun e w' => e = .returned (.bool true) ∧ Ext w w' := by
  cases h1 : smallB S W L l with
  | false =>
    have H1 := Lib.hid h1; clear h1 hno
    go_enter Try.func4, Try.ntmps4
    go_wp2_with (first
      | (go_at_call 12; refine Calls.mono (small_any S W L A c l _ (C_ext hr (by exact (by repeat (first | ((with_reducible refine Ext.set1 ?_ ?_); (first | (focus (simp; done)) | (focus (simp; omega)) | (focus omega))) | (with_reducible refine Ext.alloc ?_ _) | (with_reducible exact Ext.refl _) | (refine Ext.trans ?_ (by with_reducible assumption)))))) hc) ?_; rintro e w2 ⟨rfl, hb2⟩; rw [H1.out])
      | (have gq := hb2; clear gq; go_at_call 11; refine Calls.mono (awake_yes _) ?_; rintro e w9 ⟨rfl, hb9⟩)
      | (go_at_call 11; refine Calls.mono (awake_yes _) ?_; rintro e w1 ⟨rfl, hb1⟩; obtain ⟨a0, a1, a2⟩ := Blk.c3 (w := w1) (B := w.heap.size) (by repeat (first | (with_reducible assumption) | ((with_reducible refine Blk.new ?_); (first | (focus rfl) | (focus (simp; done)) | (focus omega))) | ((with_reducible refine Blk.set1 ?_ ?_); (focus omega)) | (with_reducible refine Blk.alloc ?_) | (refine Blk.ext ?_ (by with_reducible assumption))))))
    go_ret
    exact ⟨rfl, (by repeat (first | ((with_reducible refine Ext.set1 ?_ ?_); (first | (focus (simp; done)) | (focus (simp; omega)) | (focus omega))) | (with_reducible refine Ext.alloc ?_ _) | (with_reducible exact Ext.refl _) | (refine Ext.trans ?_ (by with_reducible assumption))))⟩
  | true =>
    cases h2 : smallB S W L m with
    | false =>
      have H1 := Lib.hid h1; have H2 := Lib.hid h2; clear h1 h2 hno
      go_enter Try.func4, Try.ntmps4
      go_wp2_with (first
        | (have gq := hb2; clear gq; go_at_call 12; refine Calls.mono (small_any S W L B d m _ (C_ext hr2 (by exact (by repeat (first | ((with_reducible refine Ext.set1 ?_ ?_); (first | (focus (simp; done)) | (focus (simp; omega)) | (focus omega))) | (with_reducible refine Ext.alloc ?_ _) | (with_reducible exact Ext.refl _) | (refine Ext.trans ?_ (by with_reducible assumption)))))) hc2) ?_; rintro e w3 ⟨rfl, hb3⟩; rw [H2.out])
        | (go_at_call 12; refine Calls.mono (small_any S W L A c l _ (C_ext hr (by exact (by repeat (first | ((with_reducible refine Ext.set1 ?_ ?_); (first | (focus (simp; done)) | (focus (simp; omega)) | (focus omega))) | (with_reducible refine Ext.alloc ?_ _) | (with_reducible exact Ext.refl _) | (refine Ext.trans ?_ (by with_reducible assumption)))))) hc) ?_; rintro e w2 ⟨rfl, hb2⟩; rw [H1.out]; obtain ⟨d0, d1, d2⟩ := Blk.c3 (w := w2) (B := w.heap.size) (by repeat (first | (with_reducible assumption) | ((with_reducible refine Blk.new ?_); (first | (focus rfl) | (focus (simp; done)) | (focus omega))) | ((with_reducible refine Blk.set1 ?_ ?_); (focus omega)) | (with_reducible refine Blk.alloc ?_) | (refine Blk.ext ?_ (by with_reducible assumption)))))
        | (have gq := hb2; clear gq; go_at_call 11; refine Calls.mono (awake_yes _) ?_; rintro e w9 ⟨rfl, hb9⟩)
        | (go_at_call 11; refine Calls.mono (awake_yes _) ?_; rintro e w1 ⟨rfl, hb1⟩; obtain ⟨a0, a1, a2⟩ := Blk.c3 (w := w1) (B := w.heap.size) (by repeat (first | (with_reducible assumption) | ((with_reducible refine Blk.new ?_); (first | (focus rfl) | (focus (simp; done)) | (focus omega))) | ((with_reducible refine Blk.set1 ?_ ?_); (focus omega)) | (with_reducible refine Blk.alloc ?_) | (refine Blk.ext ?_ (by with_reducible assumption))))))
      go_ret
      exact ⟨rfl, (by repeat (first | ((with_reducible refine Ext.set1 ?_ ?_); (first | (focus (simp; done)) | (focus (simp; omega)) | (focus omega))) | (with_reducible refine Ext.alloc ?_ _) | (with_reducible exact Ext.refl _) | (refine Ext.trans ?_ (by with_reducible assumption))))⟩
    | true =>
      have h3 : smallB S W L k = false := by
        cases h : smallB S W L k with
        | false => rfl
        | true => exact absurd ⟨h1, h2, h⟩ hno
      have H1 := Lib.hid h1; have H2 := Lib.hid h2; have H3 := Lib.hid h3; clear h1 h2 h3 hno
      go_enter Try.func4, Try.ntmps4
      go_wp2_with (first
        | (have gq := hb3; clear gq; go_at_call 12; refine Calls.mono (small_any S W L C e k _ (C_ext hr3 (by exact (by repeat (first | ((with_reducible refine Ext.set1 ?_ ?_); (first | (focus (simp; done)) | (focus (simp; omega)) | (focus omega))) | (with_reducible refine Ext.alloc ?_ _) | (with_reducible exact Ext.refl _) | (refine Ext.trans ?_ (by with_reducible assumption)))))) hc3) ?_; rintro e w4 ⟨rfl, hb4⟩; rw [H3.out])
        | (have gq := hb2; clear gq; go_at_call 12; refine Calls.mono (small_any S W L B d m _ (C_ext hr2 (by exact (by repeat (first | ((with_reducible refine Ext.set1 ?_ ?_); (first | (focus (simp; done)) | (focus (simp; omega)) | (focus omega))) | (with_reducible refine Ext.alloc ?_ _) | (with_reducible exact Ext.refl _) | (refine Ext.trans ?_ (by with_reducible assumption)))))) hc2) ?_; rintro e w3 ⟨rfl, hb3⟩; rw [H2.out]; obtain ⟨i0, i1, i2⟩ := Blk.c3 (w := w3) (B := w.heap.size) (by repeat (first | (with_reducible assumption) | ((with_reducible refine Blk.new ?_); (first | (focus rfl) | (focus (simp; done)) | (focus omega))) | ((with_reducible refine Blk.set1 ?_ ?_); (focus omega)) | (with_reducible refine Blk.alloc ?_) | (refine Blk.ext ?_ (by with_reducible assumption)))))
        | (go_at_call 12; refine Calls.mono (small_any S W L A c l _ (C_ext hr (by exact (by repeat (first | ((with_reducible refine Ext.set1 ?_ ?_); (first | (focus (simp; done)) | (focus (simp; omega)) | (focus omega))) | (with_reducible refine Ext.alloc ?_ _) | (with_reducible exact Ext.refl _) | (refine Ext.trans ?_ (by with_reducible assumption)))))) hc) ?_; rintro e w2 ⟨rfl, hb2⟩; rw [H1.out]; obtain ⟨d0, d1, d2⟩ := Blk.c3 (w := w2) (B := w.heap.size) (by repeat (first | (with_reducible assumption) | ((with_reducible refine Blk.new ?_); (first | (focus rfl) | (focus (simp; done)) | (focus omega))) | ((with_reducible refine Blk.set1 ?_ ?_); (focus omega)) | (with_reducible refine Blk.alloc ?_) | (refine Blk.ext ?_ (by with_reducible assumption)))))
        | (have gq := hb2; clear gq; go_at_call 11; refine Calls.mono (awake_yes _) ?_; rintro e w9 ⟨rfl, hb9⟩)
        | (go_at_call 11; refine Calls.mono (awake_yes _) ?_; rintro e w1 ⟨rfl, hb1⟩; obtain ⟨a0, a1, a2⟩ := Blk.c3 (w := w1) (B := w.heap.size) (by repeat (first | (with_reducible assumption) | ((with_reducible refine Blk.new ?_); (first | (focus rfl) | (focus (simp; done)) | (focus omega))) | ((with_reducible refine Blk.set1 ?_ ?_); (focus omega)) | (with_reducible refine Blk.alloc ?_) | (refine Blk.ext ?_ (by with_reducible assumption))))))
      go_ret
      exact ⟨rfl, (by repeat (first | ((with_reducible refine Ext.set1 ?_ ?_); (first | (focus (simp; done)) | (focus (simp; omega)) | (focus omega))) | (with_reducible refine Ext.alloc ?_ _) | (with_reducible exact Ext.refl _) | (refine Ext.trans ?_ (by with_reducible assumption))))⟩

set_option maxHeartbeats 2000000 in
theorem mono_walk (S W L : Int) (A : Option Addr) (c : Nat) (l : List S45) (B : Option Addr) (d : Nat) (m : List S45) (C : Option Addr) (e : Nat) (k : List S45) (w : World) (hr : k45.C w A l.length l) (hc : l.length ≤ c) (hr2 : k45.C w B m.length m) (hc2 : m.length ≤ d) (hr3 : k45.C w C k.length k) (hc3 : k.length ≤ e) :
    Calls Try.prog 4 #[.agg #[.int .i64 S, .int .i64 W, .int .i64 L], .slice A l.length c, .slice B m.length d, .slice C k.length e] w fun e w' => e = .returned (.bool true) ∧ Ext w w' := by
  by_cases hall : smallB S W L l = true ∧ smallB S W L m = true ∧ smallB S W L k = true
  case neg => exact mono_small S W L A c l B d m C e k w hr hc hr2 hc2 hr3 hc3 hall
  case pos =>
    obtain ⟨h1, h2, h3⟩ := hall
    have sl := small_is h1
    have sm := small_is h2
    have sk := small_is h3
    have H1 := Lib.hid h1; have H2 := Lib.hid h2; have H3 := Lib.hid h3; clear h1 h2 h3
    have g := sl.geo
    have gw := g.w1
    have hnk : k.length ≤ 40 := sk.len
    have hml : m.length ≤ 40 := sm.len
    have hll : l.length ≤ 40 := sl.len
    go_enter Try.func4, Try.ntmps4
    go_wp2_with (first
      | (have gq := hb6; clear gq; go_at_call 17; refine Calls.mono (join_st (S := S) (W := W) (L := L) u5 u6 p5 p6 (64 * l.length) (64 * m.length) (sSteps S W (some noF) l) (sSteps S W (some noF) m) _ (by repeat (first | (with_reducible assumption) | (with_reducible refine StB.set ?_) | (with_reducible refine StB.alloc ?_ _) | (refine StB.ext ?_ (by with_reducible assumption)))) (by repeat (first | (with_reducible assumption) | (with_reducible refine StB.set ?_) | (with_reducible refine StB.alloc ?_ _) | (refine StB.ext ?_ (by with_reducible assumption)))) (by omega) (by omega)) ?_; rintro e w7 ⟨u7, p7, rfl, h7, hb7⟩; have hz7 := hb7.size; simp at hz7)
      | (have gq := hb5; clear gq; go_at_call 13; refine Calls.mono (after_st g B d m _ (C_ext hr2 (by repeat (first | ((with_reducible refine Ext.set1 ?_ ?_); (first | (focus (simp; done)) | (focus (simp; omega)) | (focus omega))) | (with_reducible refine Ext.alloc ?_ _) | (with_reducible exact Ext.refl _) | (refine Ext.trans ?_ (by with_reducible assumption))))) (by omega) sm.step) ?_; rintro e w6 ⟨u6, p6, v6, rfl, h6, hrf6, hb6⟩; obtain ⟨A6, cc6, rfl⟩ := Kd.R_slice hrf6; have hz6 := hb6.size; simp at hz6; have q6 : w5.heap.size < w6.heap.size := (by omega); obtain ⟨r0, r1, r2, r3, r4⟩ := Blk.c5 (w := w6) (B := w5.heap.size) (by repeat (first | (with_reducible assumption) | ((with_reducible refine Blk.new ?_); (first | (focus rfl) | (focus (simp; done)) | (focus omega))) | ((with_reducible refine Blk.set1 ?_ ?_); (focus omega)) | (with_reducible refine Blk.alloc ?_) | (refine Blk.ext ?_ (by with_reducible assumption)))))
      | (go_at_call 13; refine Calls.mono (after_st g A c l _ (C_ext hr (by repeat (first | ((with_reducible refine Ext.set1 ?_ ?_); (first | (focus (simp; done)) | (focus (simp; omega)) | (focus omega))) | (with_reducible refine Ext.alloc ?_ _) | (with_reducible exact Ext.refl _) | (refine Ext.trans ?_ (by with_reducible assumption))))) (by omega) sl.step) ?_; rintro e w5 ⟨u5, p5, v5, rfl, h5, hrf5, hb5⟩; obtain ⟨A5, cc5, rfl⟩ := Kd.R_slice hrf5; obtain ⟨s0, s1, s2⟩ := Blk.c3 (w := w5) (B := w.heap.size) (by repeat (first | (with_reducible assumption) | ((with_reducible refine Blk.new ?_); (first | (focus rfl) | (focus (simp; done)) | (focus omega))) | ((with_reducible refine Blk.set1 ?_ ?_); (focus omega)) | (with_reducible refine Blk.alloc ?_) | (refine Blk.ext ?_ (by with_reducible assumption)))); have q5 : w.heap.size < w5.heap.size := (by have := hb5.size; have := hb4.size; have := hb3.size; have := hb2.size; have := hb1.size; simp at this; omega))
      | (have gq := hb3; clear gq; go_at_call 12; refine Calls.mono (small_any S W L C e k _ (C_ext hr3 (by exact (by repeat (first | ((with_reducible refine Ext.set1 ?_ ?_); (first | (focus (simp; done)) | (focus (simp; omega)) | (focus omega))) | (with_reducible refine Ext.alloc ?_ _) | (with_reducible exact Ext.refl _) | (refine Ext.trans ?_ (by with_reducible assumption)))))) hc3) ?_; rintro e w4 ⟨rfl, hb4⟩; rw [H3.out]; obtain ⟨j0, j1, j2⟩ := Blk.c3 (w := w4) (B := w.heap.size) (by repeat (first | (with_reducible assumption) | ((with_reducible refine Blk.new ?_); (first | (focus rfl) | (focus (simp; done)) | (focus omega))) | ((with_reducible refine Blk.set1 ?_ ?_); (focus omega)) | (with_reducible refine Blk.alloc ?_) | (refine Blk.ext ?_ (by with_reducible assumption)))))
      | (have gq := hb2; clear gq; go_at_call 12; refine Calls.mono (small_any S W L B d m _ (C_ext hr2 (by exact (by repeat (first | ((with_reducible refine Ext.set1 ?_ ?_); (first | (focus (simp; done)) | (focus (simp; omega)) | (focus omega))) | (with_reducible refine Ext.alloc ?_ _) | (with_reducible exact Ext.refl _) | (refine Ext.trans ?_ (by with_reducible assumption)))))) hc2) ?_; rintro e w3 ⟨rfl, hb3⟩; rw [H2.out]; obtain ⟨i0, i1, i2⟩ := Blk.c3 (w := w3) (B := w.heap.size) (by repeat (first | (with_reducible assumption) | ((with_reducible refine Blk.new ?_); (first | (focus rfl) | (focus (simp; done)) | (focus omega))) | ((with_reducible refine Blk.set1 ?_ ?_); (focus omega)) | (with_reducible refine Blk.alloc ?_) | (refine Blk.ext ?_ (by with_reducible assumption)))))
      | (go_at_call 12; refine Calls.mono (small_any S W L A c l _ (C_ext hr (by exact (by repeat (first | ((with_reducible refine Ext.set1 ?_ ?_); (first | (focus (simp; done)) | (focus (simp; omega)) | (focus omega))) | (with_reducible refine Ext.alloc ?_ _) | (with_reducible exact Ext.refl _) | (refine Ext.trans ?_ (by with_reducible assumption)))))) hc) ?_; rintro e w2 ⟨rfl, hb2⟩; rw [H1.out]; obtain ⟨d0, d1, d2⟩ := Blk.c3 (w := w2) (B := w.heap.size) (by repeat (first | (with_reducible assumption) | ((with_reducible refine Blk.new ?_); (first | (focus rfl) | (focus (simp; done)) | (focus omega))) | ((with_reducible refine Blk.set1 ?_ ?_); (focus omega)) | (with_reducible refine Blk.alloc ?_) | (refine Blk.ext ?_ (by with_reducible assumption)))))
      | (go_at_call 11; refine Calls.mono (awake_yes _) ?_; rintro e w1 ⟨rfl, hb1⟩; obtain ⟨a0, a1, a2⟩ := Blk.c3 (w := w1) (B := w.heap.size) (by repeat (first | (with_reducible assumption) | ((with_reducible refine Blk.new ?_); (first | (focus rfl) | (focus (simp; done)) | (focus omega))) | ((with_reducible refine Blk.set1 ?_ ?_); (focus omega)) | (with_reducible refine Blk.alloc ?_) | (refine Blk.ext ?_ (by with_reducible assumption))))))
    have hq7 : w5.heap.size < w7.heap.size ∧ w6.heap.size < w7.heap.size := by omega
    obtain ⟨hq71, hq72⟩ := hq7
    have hg0 : FitS W (sSteps S W (some noF) l) := fitS_steps gw l (fitS_start W)
    have hg1 : FitS W (sSteps S W (some noF) m) := fitS_steps gw m (fitS_start W)
    have hle0 : Le (sSteps S W (some noF) l) (sJoin (sSteps S W (some noF) l) (sSteps S W (some noF) m)) := Le.join
    obtain ⟨st0, hst0⟩ : ∃ st, st = sSteps S W (some noF) l := ⟨_, rfl⟩
    have h50 : StB w5 W (64 * l.length) st0 u5 p5 := by rw [hst0]; exact h5
    obtain ⟨su0, hsu0⟩ : ∃ st, st = sJoin (sSteps S W (some noF) l) (sSteps S W (some noF) m) := ⟨_, rfl⟩
    have h70 : StB w7 W (64 * l.length + 64 * m.length) su0 u7 p7 := by rw [hsu0]; exact h7
    have HLE : Hid (Le st0 su0) := by show Le st0 su0; rw [hst0, hsu0]; exact hle0
    clear hle0 hst0 hsu0 h5 h7 hg0 hg1 h6
    have hx4 : Ext w w4 := (by repeat (first | ((with_reducible refine Ext.set1 ?_ ?_); (first | (focus (simp; done)) | (focus (simp; omega)) | (focus omega))) | (with_reducible refine Ext.alloc ?_ _) | (with_reducible exact Ext.refl _) | (refine Ext.trans ?_ (by with_reducible assumption))))
    clear hb1 hb2 hb3 hb4 a0 a1 a2 d0 d1 d2 i0 i1 i2 j0 j1 j2 s0 s1 s2
    go_loopw [54] (fun i wr => ∃ (j : Nat) (ux : Bool) (px : Option Nat) (uz : Bool) (pz : Option Nat), i = .int .i64 j ∧ j ≤ k.length ∧ (Blk wr w5.heap.size (mayO S W L ux px) ∧ Blk wr w7.heap.size (mayO S W L uz pz) ∧
        StB wr W (64 * l.length + 64 * j) (sSteps S W st0 (k.take j)) ux px ∧ StB wr W (64 * l.length + 64 * m.length + 64 * j) (sSteps S W su0 (k.take j)) uz pz ∧ Ext w wr) ∧ Hid (Le (sSteps S W st0 (k.take j)) (sSteps S W su0 (k.take j)))) (fun i _ => k.length - (Go.RowKit.intOf i).toNat)
    case atStart =>
      refine ⟨0, u5, p5, u7, p7, rfl, Nat.zero_le _, ⟨(by repeat (first | (with_reducible assumption) | ((with_reducible refine Blk.new ?_); (first | (focus rfl) | (focus (simp; done)) | (focus omega))) | ((with_reducible refine Blk.set1 ?_ ?_); (focus omega)) | (with_reducible refine Blk.alloc ?_) | (refine Blk.ext ?_ (by with_reducible assumption)))), (by repeat (first | (with_reducible assumption) | ((with_reducible refine Blk.new ?_); (first | (focus rfl) | (focus (simp; done)) | (focus omega))) | ((with_reducible refine Blk.set1 ?_ ?_); (focus omega)) | (with_reducible refine Blk.alloc ?_) | (refine Blk.ext ?_ (by with_reducible assumption)))), ?_, ?_, (by repeat (first | ((with_reducible refine Ext.set1 ?_ ?_); (first | (focus (simp; done)) | (focus (simp; omega)) | (focus omega))) | (with_reducible refine Ext.alloc ?_ _) | (with_reducible exact Ext.refl _) | (refine Ext.trans ?_ (by with_reducible assumption))))⟩, HLE⟩
      · have h50' : StB w5 W (64 * l.length + 64 * 0) (sSteps S W st0 (k.take 0)) u5 p5 := h50
        clear h50
        exact (by repeat (first | (with_reducible assumption) | (with_reducible refine StB.set ?_) | (with_reducible refine StB.alloc ?_ _) | (refine StB.ext ?_ (by with_reducible assumption))))
      · have h70' : StB w7 W (64 * l.length + 64 * m.length + 64 * 0) (sSteps S W su0 (k.take 0)) u7 p7 := h70
        clear h70
        exact (by repeat (first | (with_reducible assumption) | (with_reducible refine StB.set ?_) | (with_reducible refine StB.alloc ?_ _) | (refine StB.ext ?_ (by with_reducible assumption))))
    case round =>
      obtain ⟨j, ux, px, uz, pz, rfl, hj, ⟨k9, k13, hsx, hsz, hext⟩, HL⟩ := hrel
      have hl9 := k9.lt
      have hl13 := k13.lt
      by_cases hlt : j < k.length
      · have hr4 := C_ext hr3 hext
        obtain ⟨ad, rfl, c0, c1, c2⟩ := at_step hr4 j hlt
        have hxm : k.getD j z45 ∈ k := by
          rw [List.getD_eq_getElem?_getD, List.getElem?_eq_getElem hlt]
          exact List.getElem_mem hlt
        have hbx := sk.step _ hxm
        have htk : k.take (j + 1) = k.take j ++ [k.getD j z45] := by
          rw [List.take_add_one, List.getElem?_eq_getElem hlt, List.getD_eq_getElem?_getD, List.getElem?_eq_getElem hlt]
          rfl
        have e1 : ∀ st, sSteps S W st (k.take (j + 1)) = sStep S W (sSteps S W st (k.take j)) (k.getD j z45).f0 (k.getD j z45).f1 := by
          intro st
          rw [htk]
          simp [sSteps, List.foldl_append]
        clear hxm htk
        obtain ⟨⟨x0, x1, x2⟩, hx⟩ : ∃ x, x = k.getD j z45 := ⟨_, rfl⟩
        rw [← hx] at c0 c1 c2 hbx e1
        dsimp only at c0 c1 c2 hbx e1
        clear hx
        have E1 := Lib.hid e1
        have hle1 : Le (sStep S W (sSteps S W st0 (k.take j)) x0 x1) (sStep S W (sSteps S W su0 (k.take j)) x0 x1) := HL.out.step (fitS_of hsx) (fitS_of hsz) x0 x1
        have HL1 := Lib.hid hle1
        clear e1 hle1
        obtain ⟨st, hst⟩ : ∃ st, st = sSteps S W st0 (k.take j) := ⟨_, rfl⟩
        obtain ⟨su, hsu⟩ : ∃ su, su = sSteps S W su0 (k.take j) := ⟨_, rfl⟩
        rw [← hst] at hsx HL1
        rw [← hsu] at hsz HL1
        have HST := Lib.hid hst
        have HSU := Lib.hid hsu
        clear hst hsu
        obtain ⟨b0, b1, b2, b3⟩ := hbx
        obtain ⟨s0, s1, s2, s3, s4⟩ := k9.c5
        go_wp2
        have y9 : Blk (wr.alloc (stepO x0 x1 x2)) w5.heap.size (mayO S W L ux px) := (by repeat (first | (with_reducible assumption) | ((with_reducible refine Blk.new ?_); (first | (focus rfl) | (focus (simp; done)) | (focus omega))) | ((with_reducible refine Blk.set1 ?_ ?_); (focus omega)) | (with_reducible refine Blk.alloc ?_) | (refine Blk.ext ?_ (by with_reducible assumption))))
        have y13 : Blk (wr.alloc (stepO x0 x1 x2)) w7.heap.size (mayO S W L uz pz) := (by repeat (first | (with_reducible assumption) | ((with_reducible refine Blk.new ?_); (first | (focus rfl) | (focus (simp; done)) | (focus omega))) | ((with_reducible refine Blk.set1 ?_ ?_); (focus omega)) | (with_reducible refine Blk.alloc ?_) | (refine Blk.ext ?_ (by with_reducible assumption))))
        have y15 : Blk (wr.alloc (stepO x0 x1 x2)) wr.heap.size (stepO x0 x1 x2) := (by repeat (first | (with_reducible assumption) | ((with_reducible refine Blk.new ?_); (first | (focus rfl) | (focus (simp; done)) | (focus omega))) | ((with_reducible refine Blk.set1 ?_ ?_); (focus omega)) | (with_reducible refine Blk.alloc ?_) | (refine Blk.ext ?_ (by with_reducible assumption))))
        have ysx : StB (wr.alloc (stepO x0 x1 x2)) W (64 * l.length + 64 * j) st ux px := (by repeat (first | (with_reducible assumption) | (with_reducible refine StB.set ?_) | (with_reducible refine StB.alloc ?_ _) | (refine StB.ext ?_ (by with_reducible assumption))))
        have ysz : StB (wr.alloc (stepO x0 x1 x2)) W (64 * l.length + 64 * m.length + 64 * j) su uz pz := (by repeat (first | (with_reducible assumption) | (with_reducible refine StB.set ?_) | (with_reducible refine StB.alloc ?_ _) | (refine StB.ext ?_ (by with_reducible assumption))))
        have yext : Ext w (wr.alloc (stepO x0 x1 x2)) := (by repeat (first | ((with_reducible refine Ext.set1 ?_ ?_); (first | (focus (simp; done)) | (focus (simp; omega)) | (focus omega))) | (with_reducible refine Ext.alloc ?_ _) | (with_reducible exact Ext.refl _) | (refine Ext.trans ?_ (by with_reducible assumption))))
        have yl15 : wr.heap.size < (wr.alloc (stepO x0 x1 x2)).heap.size := by simp
        obtain ⟨wq, hwq⟩ : ∃ wq, wq = wr.alloc (stepO x0 x1 x2) := ⟨_, rfl⟩
        rw [← hwq] at y9 y13 y15 ysx ysz yext yl15 ⊢
        clear hwq s0 s1 s2 s3 s4 c0 c1 c2 k9 k13 hsx hsz hext
        go_cut [] (fun wc => ∃ (ux2 : Bool) (px2 : Option Nat) (uz2 : Bool) (pz2 : Option Nat), (Blk wc w5.heap.size (mayO S W L ux2 px2) ∧ Blk wc w7.heap.size (mayO S W L uz2 pz2) ∧
          StB wc W (64 * l.length + 64 * (j + 1)) (sStep S W st x0 x1) ux2 px2 ∧ StB wc W (64 * l.length + 64 * m.length + 64 * (j + 1)) (sStep S W su x0 x1) uz2 pz2 ∧ Ext w wc))
        case first =>
          obtain ⟨t0, t1, t2, t3, t4⟩ := y9.c5
          obtain ⟨i0, i1, i2, i3, i4⟩ := y13.c5
          obtain ⟨r0, r1, r2⟩ := y15.c3
          have ne1 : ¬ wr.heap.size = w5.heap.size := by omega
          have ne2 : ¬ wr.heap.size = w7.heap.size := by omega
          have ne3 : ¬ w5.heap.size = wr.heap.size := by omega
          have ne4 : ¬ w7.heap.size = wr.heap.size := by omega
          have ne5 : ¬ w5.heap.size = w7.heap.size := by omega
          have ne6 : ¬ w7.heap.size = w5.heap.size := by omega
          go_region_with
            (first
              | (have gq := hb10; clear gq; go_at_call 18; refine Calls.mono (step_st g x0 x1 x2 (by omega) uz pz (64 * l.length + 64 * m.length + 64 * j) su _ (ysz.ext hb10) (by omega)) ?_; rintro e w11 ⟨u11, p11, rfl, h11, hb11⟩; obtain ⟨aa0, aa1, aa2⟩ := (y15.ext (hb10.trans hb11)).c3; have m9 := y9.ext (hb10.trans hb11); have m13 := y13.ext (hb10.trans hb11); obtain ⟨ab0, ab1, ab2, ab3, ab4⟩ := m9.c5; obtain ⟨ac0, ac1, ac2, ac3, ac4⟩ := m9.f5; obtain ⟨ad0, ad1, ad2, ad3, ad4⟩ := m13.c5; obtain ⟨ae0, ae1, ae2, ae3, ae4⟩ := m13.f5)
              | (go_at_call 18; refine Calls.mono (step_st g x0 x1 x2 (by omega) ux px (64 * l.length + 64 * j) st _ (ysx.ext (Ext.drew (Ext.refl _))) (by omega)) ?_; rintro e w10 ⟨u10, p10, rfl, h10, hb10'⟩; have hb10 : Ext wq w10 := (Ext.drew (Ext.refl _)).trans hb10'; clear hb10'; obtain ⟨af0, af1, af2⟩ := (y15.ext hb10).c3; obtain ⟨ag0, ag1, ag2, ag3, ag4⟩ := (y13.ext hb10).c5))
          all_goals
            go_wp2_with fail
            go_meet
          all_goals
            have v10 := h10.mono (n' := 64 * l.length + 64 * (j + 1)) (by omega)
            have v11 := h11.mono (n' := 64 * l.length + 64 * m.length + 64 * (j + 1)) (by omega)
            clear h10 h11
            exact ⟨u10, p10, u11, p11, Blk.far5 ne5 (Blk.put5 m9), Blk.put5 (Blk.far5 ne6 m13), (by repeat (first | (with_reducible assumption) | (with_reducible refine StB.set ?_) | (with_reducible refine StB.alloc ?_ _) | (refine StB.ext ?_ (by with_reducible assumption)))), (by repeat (first | (with_reducible assumption) | (with_reducible refine StB.set ?_) | (with_reducible refine StB.alloc ?_ _) | (refine StB.ext ?_ (by with_reducible assumption)))), (by repeat (first | ((with_reducible refine Ext.set1 ?_ ?_); (first | (focus (simp; done)) | (focus (simp; omega)) | (focus omega))) | (with_reducible refine Ext.alloc ?_ _) | (with_reducible exact Ext.refl _) | (refine Ext.trans ?_ (by with_reducible assumption))))⟩
        case rest =>
          obtain ⟨ux2, px2, uz2, pz2, z9, z13, zsx, zsz, zext⟩ := hcut
          clear y9 y13 y15 ysx ysz yext yl15
          obtain ⟨t0, t1, t2, t3, t4⟩ := z9.c5
          obtain ⟨i0, i1, i2, i3, i4⟩ := z13.c5
          go_wp2
          go_region_held3 (fun w' => w'.cell? ⟨w5.heap.size, 0, none⟩ = some (.int .i64 S) ∧ w'.cell? ⟨w5.heap.size, 1, none⟩ = some (.int .i64 W) ∧ w'.cell? ⟨w5.heap.size, 2, none⟩ = some (.int .i64 L) ∧ w'.cell? ⟨w5.heap.size, 3, none⟩ = some (.bool ux2) ∧ w'.cell? ⟨w5.heap.size, 4, none⟩ = some (.map px2) ∧
              w'.cell? ⟨w7.heap.size, 0, none⟩ = some (.int .i64 S) ∧ w'.cell? ⟨w7.heap.size, 1, none⟩ = some (.int .i64 W) ∧ w'.cell? ⟨w7.heap.size, 2, none⟩ = some (.int .i64 L) ∧ w'.cell? ⟨w7.heap.size, 3, none⟩ = some (.bool uz2) ∧ w'.cell? ⟨w7.heap.size, 4, none⟩ = some (.map pz2)) (go_keep)
            (first
              | (go_at_call 19; refine Calls.mono (equal_st u12 uz2 p12 pz2 _ _ _ _ _ h12 (zsz.ext hb12)) ?_; intro e w13 hh; obtain ⟨rfl, hb13⟩ := hh.yes HL1.out.eq; obtain ⟨ab0, ab1, ab2, ab3, ab4⟩ := (z9.ext (hb12.trans hb13)).c5; obtain ⟨ac0, ac1, ac2, ac3, ac4⟩ := (z13.ext (hb12.trans hb13)).c5)
              | (go_at_call 17; refine Calls.mono (join_st (S := S) (W := W) (L := L) ux2 uz2 px2 pz2 (64 * l.length + 64 * (j + 1)) (64 * l.length + 64 * m.length + 64 * (j + 1)) (sStep S W st x0 x1) (sStep S W su x0 x1) _ (zsx.ext (Ext.drew (Ext.refl _))) (zsz.ext (Ext.drew (Ext.refl _))) (by omega) (by omega)) ?_; rintro e w12 ⟨u12, p12, rfl, h12, hb12'⟩; have hb12 : Ext wc w12 := (Ext.drew (Ext.refl _)).trans hb12'; clear hb12'; obtain ⟨ad0, ad1, ad2, ad3, ad4⟩ := (z9.ext hb12).c5; obtain ⟨ae0, ae1, ae2, ae3, ae4⟩ := (z13.ext hb12).c5))
          go_wp2
          have hE := hb12.trans hb13
          refine ⟨⟨j + 1, ux2, px2, uz2, pz2, by go_num, by omega, ⟨z9.ext hE, z13.ext hE, ?_, ?_, zext.trans hE⟩, ?_⟩, ?_⟩
          · rw [E1.out, ← HST.out]
            exact zsx.ext hE
          · rw [E1.out, ← HSU.out]
            exact zsz.ext hE
          · show Le _ _
            rw [E1.out, E1.out, ← HST.out, ← HSU.out]
            exact HL1.out
          · simp [Go.RowKit.intOf]
            omega
      · obtain rfl : j = k.length := by omega
        go_wp2
        go_ret
        exact ⟨rfl, hext⟩
end Go.Proofs.Ytjckghdgogkeaaa
