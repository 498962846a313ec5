/- The contract of (may.State).AccessRange. -/
import Derived.Test.YtjckghdgogkeaaaMay2
namespace Go.Proofs.Ytjckghdgogkeaaa
open Go.RowKit Go.Maps
set_option linter.unusedVariables false

set_option maxHeartbeats 400000 in
theorem may_range_unknown_pos (S W L lo hi : Int) (p : Option Nat) (w : World) (hl : 0 ≤ lo) :
    Calls Try.prog 31 #[.agg #[.int .i64 S, .int .i64 W, .int .i64 L, .bool true, .map p], .int .i64 lo, .int .i64 hi] w fun e w' => e = .returned (.agg #[.int .i64 S, .int .i64 W, .int .i64 L, .bool true, .map p]) ∧ Ext w w' := by
  go_enter Try.func31, Try.ntmps31
  go_wp2
  refine bodyPost_ret (v := .agg #[.int .i64 S, .int .i64 W, .int .i64 L, .bool true, .map p]) ?_ rfl ⟨rfl, (by repeat (first | ((with_reducible refine Ext.set1 ?_ ?_); (first | (focus (simp; done)) | (focus (simp; omega)) | (focus omega))) | (with_reducible refine Ext.alloc ?_ _) | (with_reducible exact Ext.refl _) | (refine Ext.trans ?_ (by with_reducible assumption))))⟩
  simp [results, Try.results31, go_sem]

set_option maxHeartbeats 400000 in
theorem may_range_empty_pos (S W L lo hi : Int) (p : Option Nat) (w : World) (hl : 0 ≤ lo) (h : hi < lo) :
    Calls Try.prog 31 #[.agg #[.int .i64 S, .int .i64 W, .int .i64 L, .bool false, .map p], .int .i64 lo, .int .i64 hi] w fun e w' => e = .returned (.agg #[.int .i64 S, .int .i64 W, .int .i64 L, .bool false, .map p]) ∧ Ext w w' := by
  go_enter Try.func31, Try.ntmps31
  go_wp2
  refine bodyPost_ret (v := .agg #[.int .i64 S, .int .i64 W, .int .i64 L, .bool false, .map p]) ?_ rfl ⟨rfl, (by repeat (first | ((with_reducible refine Ext.set1 ?_ ?_); (first | (focus (simp; done)) | (focus (simp; omega)) | (focus omega))) | (with_reducible refine Ext.alloc ?_ _) | (with_reducible exact Ext.refl _) | (refine Ext.trans ?_ (by with_reducible assumption))))⟩
  simp [results, Try.results31, go_sem]

set_option maxHeartbeats 400000 in
theorem may_range_wide_pos {S W L : Int} (g : Geo S W L) (lo hi : Int) (p : Option Nat) (w : World) (hl : 0 ≤ lo) (h : lo + 64 ≤ hi) (hhi : hi ≤ 1000000) :
    Calls Try.prog 31 #[.agg #[.int .i64 S, .int .i64 W, .int .i64 L, .bool false, .map p], .int .i64 lo, .int .i64 hi] w fun e w' => e = .returned (.agg #[.int .i64 S, .int .i64 W, .int .i64 L, .bool true, .map none]) ∧ Ext w w' := by
  have ht : ((lo : Int) == hi) = false := by rw [beq_eq_false_iff_ne]; omega
  go_enter Try.func31, Try.ntmps31
  go_wp2_with (go_at_call 30; refine (valid_yes g _).mono ?_; rintro e w1 ⟨rfl, hb1⟩; have hz1 := hb1.size; simp at hz1; have q1 : w.heap.size < w1.heap.size := (by omega); have r1 : w.heap.size + 1 < w1.heap.size := (by omega); obtain ⟨a10, a11, a12, a13, a14⟩ := Blk.c5 (w := w1) (B := w.heap.size) (by repeat (first | (with_reducible assumption) | ((with_reducible refine Blk.new ?_); (first | (focus rfl) | (focus (simp; done)) | (focus omega))) | ((with_reducible refine Blk.set1 ?_ ?_); (focus omega)) | (with_reducible refine Blk.alloc ?_) | (refine Blk.ext ?_ (by with_reducible assumption)))); have kr : Blk w1 (w.heap.size + 1) (.cells #[.int .i64 0, .int .i64 0, .int .i64 0, .bool false, .map none] 31) := (by repeat (first | (with_reducible assumption) | ((with_reducible refine Blk.new ?_); (first | (focus rfl) | (focus (simp; done)) | (focus omega))) | ((with_reducible refine Blk.set1 ?_ ?_); (focus omega)) | (with_reducible refine Blk.alloc ?_) | (refine Blk.ext ?_ (by with_reducible assumption)))); obtain ⟨b10, b11, b12, b13, b14⟩ := kr.c5; obtain ⟨f10, f11, f12, f13, f14⟩ := kr.f5)
  refine bodyPost_ret (v := .agg #[.int .i64 S, .int .i64 W, .int .i64 L, .bool true, .map none]) ?_ rfl ⟨rfl, ?_⟩
  · simp [results, Try.results31, go_sem, b10, b11, b12, b13, b14]
  · exact (by repeat (first | ((with_reducible refine Ext.set1 ?_ ?_); (first | (focus (simp; done)) | (focus (simp; omega)) | (focus omega))) | (with_reducible refine Ext.alloc ?_ _) | (with_reducible exact Ext.refl _) | (refine Ext.trans ?_ (by with_reducible assumption))))

set_option maxHeartbeats 400000 in
theorem may_range_one_pos {S W L : Int} (g : Geo S W L) (lo hi : Int) (p : Option Nat) (n : Nat) (f : FM) (w : World) (hl : 0 ≤ lo) (hhi : hi = lo) (hh2 : hi ≤ 1000000) (h : IMapO w p n f) (hn : n ≤ 1000000) (hfit : Fit W f) :
    Calls Try.prog 31 #[.agg #[.int .i64 S, .int .i64 W, .int .i64 L, .bool false, .map p], .int .i64 lo, .int .i64 hi] w fun e w' => ∃ b', (e = .returned (.agg #[.int .i64 S, .int .i64 W, .int .i64 L, .bool false, .map (some b')]) ∧ w.heap.size ≤ b') ∧ IMap w' b' (n + 1) (mayAcc S W f hi) ∧ Ext w w' := by
  subst hhi
  have HFIT := Lib.hid hfit; clear hfit
  go_enter Try.func31, Try.ntmps31
  go_wp2_with (first
    | (go_at_call 30; refine (valid_yes g _).mono ?_; rintro e w1 ⟨rfl, hb1⟩; have hz1 := hb1.size; simp at hz1; have q1 : w.heap.size < w1.heap.size := (by omega); have r1 : w.heap.size + 1 < w1.heap.size := (by omega); obtain ⟨a10, a11, a12, a13, a14⟩ := Blk.c5 (w := w1) (B := w.heap.size) (by repeat (first | (with_reducible assumption) | ((with_reducible refine Blk.new ?_); (first | (focus rfl) | (focus (simp; done)) | (focus omega))) | ((with_reducible refine Blk.set1 ?_ ?_); (focus omega)) | (with_reducible refine Blk.alloc ?_) | (refine Blk.ext ?_ (by with_reducible assumption)))); have kr : Blk w1 (w.heap.size + 1) (.cells #[.int .i64 0, .int .i64 0, .int .i64 0, .bool false, .map none] 31) := (by repeat (first | (with_reducible assumption) | ((with_reducible refine Blk.new ?_); (first | (focus rfl) | (focus (simp; done)) | (focus omega))) | ((with_reducible refine Blk.set1 ?_ ?_); (focus omega)) | (with_reducible refine Blk.alloc ?_) | (refine Blk.ext ?_ (by with_reducible assumption)))); obtain ⟨b10, b11, b12, b13, b14⟩ := kr.c5; obtain ⟨f10, f11, f12, f13, f14⟩ := kr.f5)
    | (go_at_call 32; refine Calls.mono (may_access g hi (by omega) (by omega) p n f _ (h.ext (by repeat (first | ((with_reducible refine Ext.set1 ?_ ?_); (first | (focus (simp; done)) | (focus (simp; omega)) | (focus omega))) | (with_reducible refine Ext.alloc ?_ _) | (with_reducible exact Ext.refl _) | (refine Ext.trans ?_ (by with_reducible assumption))))) hn HFIT.out) ?_; rintro e w2 ⟨b2, ⟨rfl, hb2⟩, him2, hx2⟩; have hz2 := hx2.size; have kr2 : Blk w2 (w.heap.size + 1) (.cells #[.int .i64 0, .int .i64 0, .int .i64 0, .bool false, .map none] 31) := (by repeat (first | (with_reducible assumption) | ((with_reducible refine Blk.new ?_); (first | (focus rfl) | (focus (simp; done)) | (focus omega))) | ((with_reducible refine Blk.set1 ?_ ?_); (focus omega)) | (with_reducible refine Blk.alloc ?_) | (refine Blk.ext ?_ (by with_reducible assumption)))); obtain ⟨b20, b21, b22, b23, b24⟩ := kr2.c5; obtain ⟨f20, f21, f22, f23, f24⟩ := kr2.f5))
  refine bodyPost_ret (v := .agg #[.int .i64 S, .int .i64 W, .int .i64 L, .bool false, .map (some b2)]) ?_ rfl ⟨b2, ⟨rfl, by omega⟩, ?_, ?_⟩
  · simp [results, Try.results31, go_sem, b20, b21, b22, b23, b24]
  · exact (by (repeat (first | ((with_reducible refine IMap.set1 ?_ ?_); (focus omega)) | (with_reducible refine IMap.alloc ?_ _))); with_reducible assumption)
  · exact (by repeat (first | ((with_reducible refine Ext.set1 ?_ ?_); (first | (focus (simp; done)) | (focus (simp; omega)) | (focus omega))) | (with_reducible refine Ext.alloc ?_ _) | (with_reducible exact Ext.refl _) | (refine Ext.trans ?_ (by with_reducible assumption))))

set_option maxHeartbeats 1000000 in
theorem may_range_some_pos {S W L : Int} (g : Geo S W L) (lo hi : Int) (p : Option Nat) (n : Nat) (f : FM) (w : World) (hl : 0 ≤ lo) (hlh : lo < hi) (hh1 : hi < lo + 64) (hh2 : hi ≤ 1000000) (h : IMapO w p n f) (hn : n ≤ 1000000) :
    Calls Try.prog 31 #[.agg #[.int .i64 S, .int .i64 W, .int .i64 L, .bool false, .map p], .int .i64 lo, .int .i64 hi] w fun e w' => ∃ b', (e = .returned (.agg #[.int .i64 S, .int .i64 W, .int .i64 L, .bool false, .map (some b')]) ∧ w.heap.size ≤ b') ∧ IMap w' b' (n + 64) (puts f lo hi) ∧ Ext w w' := by
  have ht : ((lo : Int) == hi) = false := by rw [beq_eq_false_iff_ne]; omega
  go_enter Try.func31, Try.ntmps31
  go_wp2_with (first
    | (go_at_call 30; refine (valid_yes g _).mono ?_; rintro e w1 ⟨rfl, hb1⟩; have hz1 := hb1.size; simp at hz1; have q1 : w.heap.size < w1.heap.size := (by omega); have r1 : w.heap.size + 1 < w1.heap.size := (by omega); obtain ⟨a10, a11, a12, a13, a14⟩ := Blk.c5 (w := w1) (B := w.heap.size) (by repeat (first | (with_reducible assumption) | ((with_reducible refine Blk.new ?_); (first | (focus rfl) | (focus (simp; done)) | (focus omega))) | ((with_reducible refine Blk.set1 ?_ ?_); (focus omega)) | (with_reducible refine Blk.alloc ?_) | (refine Blk.ext ?_ (by with_reducible assumption)))); have kr : Blk w1 (w.heap.size + 1) (.cells #[.int .i64 0, .int .i64 0, .int .i64 0, .bool false, .map none] 31) := (by repeat (first | (with_reducible assumption) | ((with_reducible refine Blk.new ?_); (first | (focus rfl) | (focus (simp; done)) | (focus omega))) | ((with_reducible refine Blk.set1 ?_ ?_); (focus omega)) | (with_reducible refine Blk.alloc ?_) | (refine Blk.ext ?_ (by with_reducible assumption)))); obtain ⟨b10, b11, b12, b13, b14⟩ := kr.c5; obtain ⟨f10, f11, f12, f13, f14⟩ := kr.f5)
    | (go_at_call 36; refine Calls.mono (may_copied S W L p n f _ (h.ext (by repeat (first | ((with_reducible refine Ext.set1 ?_ ?_); (first | (focus (simp; done)) | (focus (simp; omega)) | (focus omega))) | (with_reducible refine Ext.alloc ?_ _) | (with_reducible exact Ext.refl _) | (refine Ext.trans ?_ (by with_reducible assumption)))))) ?_; rintro e w2 ⟨bo, ⟨rfl, hbo⟩, him2, hb2⟩; have hz2 := hb2.size; have q2 : w.heap.size < w2.heap.size := (by omega); have r2 : w.heap.size + 1 < w2.heap.size := (by omega)))
  have hbo2 := him2.lt
  have k2 : Blk (w2.alloc (.cells #[.int .i64 S, .int .i64 W, .int .i64 L, .bool false, .map (some bo)] 31)) (w.heap.size + 1) (.cells #[.int .i64 0, .int .i64 0, .int .i64 0, .bool false, .map none] 31) := (by repeat (first | (with_reducible assumption) | ((with_reducible refine Blk.new ?_); (first | (focus rfl) | (focus (simp; done)) | (focus omega))) | ((with_reducible refine Blk.set1 ?_ ?_); (focus omega)) | (with_reducible refine Blk.alloc ?_) | (refine Blk.ext ?_ (by with_reducible assumption))))
  have k3 : Blk (w2.alloc (.cells #[.int .i64 S, .int .i64 W, .int .i64 L, .bool false, .map (some bo)] 31)) w2.heap.size (.cells #[.int .i64 S, .int .i64 W, .int .i64 L, .bool false, .map (some bo)] 31) := (by repeat (first | (with_reducible assumption) | ((with_reducible refine Blk.new ?_); (first | (focus rfl) | (focus (simp; done)) | (focus omega))) | ((with_reducible refine Blk.set1 ?_ ?_); (focus omega)) | (with_reducible refine Blk.alloc ?_) | (refine Blk.ext ?_ (by with_reducible assumption))))
  have him3 := him2.alloc (.cells #[.int .i64 S, .int .i64 W, .int .i64 L, .bool false, .map (some bo)] 31)
  have hext3 : Ext w (w2.alloc (.cells #[.int .i64 S, .int .i64 W, .int .i64 L, .bool false, .map (some bo)] 31)) := (by repeat (first | ((with_reducible refine Ext.set1 ?_ ?_); (first | (focus (simp; done)) | (focus (simp; omega)) | (focus omega))) | (with_reducible refine Ext.alloc ?_ _) | (with_reducible exact Ext.refl _) | (refine Ext.trans ?_ (by with_reducible assumption))))
  go_loopw [8] (fun i wr => ∃ k : Nat, i = .int .i64 (lo + k) ∧ (lo + k ≤ hi + 1 ∧ IMap wr bo (n + k) (puts f lo (lo + k - 1)) ∧ Blk wr (w.heap.size + 1) (.cells #[.int .i64 0, .int .i64 0, .int .i64 0, .bool false, .map none] 31) ∧ Blk wr w2.heap.size (.cells #[.int .i64 S, .int .i64 W, .int .i64 L, .bool false, .map (some bo)] 31) ∧ Ext w wr))
    (fun i _ => (hi + 1 - Go.RowKit.intOf i).toNat)
  case atStart => exact ⟨0, by simp, by omega, by rw [show (lo + ((0 : Nat) : Int) - 1) = lo - 1 from by simp, puts_nil]; exact him3, k2, k3, hext3⟩
  case round =>
    clear k2 k3 him3 hext3
    obtain ⟨k, rfl, hk, him, k2, k3, hext⟩ := hrel
    have hl2 := k2.lt
    have hl3 := k3.lt
    have hwb := him.lt
    obtain ⟨c0, c1, c2, c3, c4⟩ := k3.c5
    by_cases hlt : lo + (k : Int) ≤ hi
    · go_wp2_with (at_mapUpdate; refine wpList_store_im _ rfl _ _ _ rfl bo (n + k) _ rfl him (by unfold maxLen; omega) (lo + k) 0 rfl rfl (I64.of (by omega) (by omega)) (I64.of (by omega) (by omega)) ?_; intro w6 him6 hg6; have hz6 := hg6.size; have k26 := k2.grown hg6 (by simp; omega); have k36 := k3.grown hg6 (by simp; omega); have hext6 : Ext w w6 := hext.grown hg6 (fun k e => by cases e; omega))
      go_roundw
      case rel =>
        refine ⟨k + 1, by go_num, by omega, ?_, k26, k36, hext6⟩
        have e := puts_snoc f lo (lo + k - 1) (by omega)
        have e2 : (lo + (k : Int) - 1 + 1) = lo + k := by omega
        rw [e2] at e
        have e3 : (lo + ((k + 1 : Nat) : Int) - 1) = lo + k := by omega
        rw [e3, e, ← Nat.add_assoc]
        exact him6
      case measure => simp [Go.RowKit.intOf]; omega
    · obtain ⟨e0, e1, e2, e3, e4⟩ := k2.c5
      obtain ⟨f0, f1, f2, f3, f4⟩ := k2.f5
      go_wp2
      refine bodyPost_ret (v := .agg #[.int .i64 S, .int .i64 W, .int .i64 L, .bool false, .map (some bo)]) ?_ rfl ⟨bo, ⟨rfl, by omega⟩, ?_, ?_⟩
      · simp [results, Try.results31, go_sem, e0, e1, e2, e3, e4]
      · have e : lo + (k : Int) - 1 = hi := by omega
        have himf : IMap wr bo (n + 64) (puts f lo hi) := by rw [e] at him; exact him.mono (by omega)
        clear him
        exact (by (repeat (first | ((with_reducible refine IMap.set1 ?_ ?_); (focus omega)) | (with_reducible refine IMap.alloc ?_ _))); with_reducible assumption)
      · exact (by repeat (first | ((with_reducible refine Ext.set1 ?_ ?_); (first | (focus (simp; done)) | (focus (simp; omega)) | (focus omega))) | (with_reducible refine Ext.alloc ?_ _) | (with_reducible exact Ext.refl _) | (refine Ext.trans ?_ (by with_reducible assumption))))

set_option maxHeartbeats 400000 in
theorem may_range_unknown_neg (S W L lo hi : Int) (p : Option Nat) (w : World) (hl : lo < 0) :
    Calls Try.prog 31 #[.agg #[.int .i64 S, .int .i64 W, .int .i64 L, .bool true, .map p], .int .i64 lo, .int .i64 hi] w fun e w' => e = .returned (.agg #[.int .i64 S, .int .i64 W, .int .i64 L, .bool true, .map p]) ∧ Ext w w' := by
  go_enter Try.func31, Try.ntmps31
  go_wp2
  refine bodyPost_ret (v := .agg #[.int .i64 S, .int .i64 W, .int .i64 L, .bool true, .map p]) ?_ rfl ⟨rfl, (by repeat (first | ((with_reducible refine Ext.set1 ?_ ?_); (first | (focus (simp; done)) | (focus (simp; omega)) | (focus omega))) | (with_reducible refine Ext.alloc ?_ _) | (with_reducible exact Ext.refl _) | (refine Ext.trans ?_ (by with_reducible assumption))))⟩
  simp [results, Try.results31, go_sem]

set_option maxHeartbeats 400000 in
theorem may_range_empty_neg (S W L lo hi : Int) (p : Option Nat) (w : World) (hl : lo < 0) (h : hi < 0) :
    Calls Try.prog 31 #[.agg #[.int .i64 S, .int .i64 W, .int .i64 L, .bool false, .map p], .int .i64 lo, .int .i64 hi] w fun e w' => e = .returned (.agg #[.int .i64 S, .int .i64 W, .int .i64 L, .bool false, .map p]) ∧ Ext w w' := by
  go_enter Try.func31, Try.ntmps31
  go_wp2
  refine bodyPost_ret (v := .agg #[.int .i64 S, .int .i64 W, .int .i64 L, .bool false, .map p]) ?_ rfl ⟨rfl, (by repeat (first | ((with_reducible refine Ext.set1 ?_ ?_); (first | (focus (simp; done)) | (focus (simp; omega)) | (focus omega))) | (with_reducible refine Ext.alloc ?_ _) | (with_reducible exact Ext.refl _) | (refine Ext.trans ?_ (by with_reducible assumption))))⟩
  simp [results, Try.results31, go_sem]

set_option maxHeartbeats 400000 in
theorem may_range_wide_neg {S W L : Int} (g : Geo S W L) (lo hi : Int) (p : Option Nat) (w : World) (hl : lo < 0) (h : 0 + 64 ≤ hi) (hhi : hi ≤ 1000000) :
    Calls Try.prog 31 #[.agg #[.int .i64 S, .int .i64 W, .int .i64 L, .bool false, .map p], .int .i64 lo, .int .i64 hi] w fun e w' => e = .returned (.agg #[.int .i64 S, .int .i64 W, .int .i64 L, .bool true, .map none]) ∧ Ext w w' := by
  have ht : ((0 : Int) == hi) = false := by rw [beq_eq_false_iff_ne]; omega
  go_enter Try.func31, Try.ntmps31
  go_wp2_with (go_at_call 30; refine (valid_yes g _).mono ?_; rintro e w1 ⟨rfl, hb1⟩; have hz1 := hb1.size; simp at hz1; have q1 : w.heap.size < w1.heap.size := (by omega); have r1 : w.heap.size + 1 < w1.heap.size := (by omega); obtain ⟨a10, a11, a12, a13, a14⟩ := Blk.c5 (w := w1) (B := w.heap.size) (by repeat (first | (with_reducible assumption) | ((with_reducible refine Blk.new ?_); (first | (focus rfl) | (focus (simp; done)) | (focus omega))) | ((with_reducible refine Blk.set1 ?_ ?_); (focus omega)) | (with_reducible refine Blk.alloc ?_) | (refine Blk.ext ?_ (by with_reducible assumption)))); have kr : Blk w1 (w.heap.size + 1) (.cells #[.int .i64 0, .int .i64 0, .int .i64 0, .bool false, .map none] 31) := (by repeat (first | (with_reducible assumption) | ((with_reducible refine Blk.new ?_); (first | (focus rfl) | (focus (simp; done)) | (focus omega))) | ((with_reducible refine Blk.set1 ?_ ?_); (focus omega)) | (with_reducible refine Blk.alloc ?_) | (refine Blk.ext ?_ (by with_reducible assumption)))); obtain ⟨b10, b11, b12, b13, b14⟩ := kr.c5; obtain ⟨f10, f11, f12, f13, f14⟩ := kr.f5)
  refine bodyPost_ret (v := .agg #[.int .i64 S, .int .i64 W, .int .i64 L, .bool true, .map none]) ?_ rfl ⟨rfl, ?_⟩
  · simp [results, Try.results31, go_sem, b10, b11, b12, b13, b14]
  · exact (by repeat (first | ((with_reducible refine Ext.set1 ?_ ?_); (first | (focus (simp; done)) | (focus (simp; omega)) | (focus omega))) | (with_reducible refine Ext.alloc ?_ _) | (with_reducible exact Ext.refl _) | (refine Ext.trans ?_ (by with_reducible assumption))))

set_option maxHeartbeats 400000 in
theorem may_range_one_neg {S W L : Int} (g : Geo S W L) (lo hi : Int) (p : Option Nat) (n : Nat) (f : FM) (w : World) (hl : lo < 0) (hhi : hi = 0) (hh2 : (0 : Int) ≤ 1000000) (h : IMapO w p n f) (hn : n ≤ 1000000) (hfit : Fit W f) :
    Calls Try.prog 31 #[.agg #[.int .i64 S, .int .i64 W, .int .i64 L, .bool false, .map p], .int .i64 lo, .int .i64 hi] w fun e w' => ∃ b', (e = .returned (.agg #[.int .i64 S, .int .i64 W, .int .i64 L, .bool false, .map (some b')]) ∧ w.heap.size ≤ b') ∧ IMap w' b' (n + 1) (mayAcc S W f 0) ∧ Ext w w' := by
  subst hhi
  have HFIT := Lib.hid hfit; clear hfit
  go_enter Try.func31, Try.ntmps31
  go_wp2_with (first
    | (go_at_call 30; refine (valid_yes g _).mono ?_; rintro e w1 ⟨rfl, hb1⟩; have hz1 := hb1.size; simp at hz1; have q1 : w.heap.size < w1.heap.size := (by omega); have r1 : w.heap.size + 1 < w1.heap.size := (by omega); obtain ⟨a10, a11, a12, a13, a14⟩ := Blk.c5 (w := w1) (B := w.heap.size) (by repeat (first | (with_reducible assumption) | ((with_reducible refine Blk.new ?_); (first | (focus rfl) | (focus (simp; done)) | (focus omega))) | ((with_reducible refine Blk.set1 ?_ ?_); (focus omega)) | (with_reducible refine Blk.alloc ?_) | (refine Blk.ext ?_ (by with_reducible assumption)))); have kr : Blk w1 (w.heap.size + 1) (.cells #[.int .i64 0, .int .i64 0, .int .i64 0, .bool false, .map none] 31) := (by repeat (first | (with_reducible assumption) | ((with_reducible refine Blk.new ?_); (first | (focus rfl) | (focus (simp; done)) | (focus omega))) | ((with_reducible refine Blk.set1 ?_ ?_); (focus omega)) | (with_reducible refine Blk.alloc ?_) | (refine Blk.ext ?_ (by with_reducible assumption)))); obtain ⟨b10, b11, b12, b13, b14⟩ := kr.c5; obtain ⟨f10, f11, f12, f13, f14⟩ := kr.f5)
    | (go_at_call 32; refine Calls.mono (may_access g 0 (by omega) (by omega) p n f _ (h.ext (by repeat (first | ((with_reducible refine Ext.set1 ?_ ?_); (first | (focus (simp; done)) | (focus (simp; omega)) | (focus omega))) | (with_reducible refine Ext.alloc ?_ _) | (with_reducible exact Ext.refl _) | (refine Ext.trans ?_ (by with_reducible assumption))))) hn HFIT.out) ?_; rintro e w2 ⟨b2, ⟨rfl, hb2⟩, him2, hx2⟩; have hz2 := hx2.size; have kr2 : Blk w2 (w.heap.size + 1) (.cells #[.int .i64 0, .int .i64 0, .int .i64 0, .bool false, .map none] 31) := (by repeat (first | (with_reducible assumption) | ((with_reducible refine Blk.new ?_); (first | (focus rfl) | (focus (simp; done)) | (focus omega))) | ((with_reducible refine Blk.set1 ?_ ?_); (focus omega)) | (with_reducible refine Blk.alloc ?_) | (refine Blk.ext ?_ (by with_reducible assumption)))); obtain ⟨b20, b21, b22, b23, b24⟩ := kr2.c5; obtain ⟨f20, f21, f22, f23, f24⟩ := kr2.f5))
  refine bodyPost_ret (v := .agg #[.int .i64 S, .int .i64 W, .int .i64 L, .bool false, .map (some b2)]) ?_ rfl ⟨b2, ⟨rfl, by omega⟩, ?_, ?_⟩
  · simp [results, Try.results31, go_sem, b20, b21, b22, b23, b24]
  · exact (by (repeat (first | ((with_reducible refine IMap.set1 ?_ ?_); (focus omega)) | (with_reducible refine IMap.alloc ?_ _))); with_reducible assumption)
  · exact (by repeat (first | ((with_reducible refine Ext.set1 ?_ ?_); (first | (focus (simp; done)) | (focus (simp; omega)) | (focus omega))) | (with_reducible refine Ext.alloc ?_ _) | (with_reducible exact Ext.refl _) | (refine Ext.trans ?_ (by with_reducible assumption))))

set_option maxHeartbeats 1000000 in
theorem may_range_some_neg {S W L : Int} (g : Geo S W L) (lo hi : Int) (p : Option Nat) (n : Nat) (f : FM) (w : World) (hl : lo < 0) (hlh : 0 < hi) (hh1 : hi < 0 + 64) (hh2 : hi ≤ 1000000) (h : IMapO w p n f) (hn : n ≤ 1000000) :
    Calls Try.prog 31 #[.agg #[.int .i64 S, .int .i64 W, .int .i64 L, .bool false, .map p], .int .i64 lo, .int .i64 hi] w fun e w' => ∃ b', (e = .returned (.agg #[.int .i64 S, .int .i64 W, .int .i64 L, .bool false, .map (some b')]) ∧ w.heap.size ≤ b') ∧ IMap w' b' (n + 64) (puts f 0 hi) ∧ Ext w w' := by
  have ht : ((0 : Int) == hi) = false := by rw [beq_eq_false_iff_ne]; omega
  go_enter Try.func31, Try.ntmps31
  go_wp2_with (first
    | (go_at_call 30; refine (valid_yes g _).mono ?_; rintro e w1 ⟨rfl, hb1⟩; have hz1 := hb1.size; simp at hz1; have q1 : w.heap.size < w1.heap.size := (by omega); have r1 : w.heap.size + 1 < w1.heap.size := (by omega); obtain ⟨a10, a11, a12, a13, a14⟩ := Blk.c5 (w := w1) (B := w.heap.size) (by repeat (first | (with_reducible assumption) | ((with_reducible refine Blk.new ?_); (first | (focus rfl) | (focus (simp; done)) | (focus omega))) | ((with_reducible refine Blk.set1 ?_ ?_); (focus omega)) | (with_reducible refine Blk.alloc ?_) | (refine Blk.ext ?_ (by with_reducible assumption)))); have kr : Blk w1 (w.heap.size + 1) (.cells #[.int .i64 0, .int .i64 0, .int .i64 0, .bool false, .map none] 31) := (by repeat (first | (with_reducible assumption) | ((with_reducible refine Blk.new ?_); (first | (focus rfl) | (focus (simp; done)) | (focus omega))) | ((with_reducible refine Blk.set1 ?_ ?_); (focus omega)) | (with_reducible refine Blk.alloc ?_) | (refine Blk.ext ?_ (by with_reducible assumption)))); obtain ⟨b10, b11, b12, b13, b14⟩ := kr.c5; obtain ⟨f10, f11, f12, f13, f14⟩ := kr.f5)
    | (go_at_call 36; refine Calls.mono (may_copied S W L p n f _ (h.ext (by repeat (first | ((with_reducible refine Ext.set1 ?_ ?_); (first | (focus (simp; done)) | (focus (simp; omega)) | (focus omega))) | (with_reducible refine Ext.alloc ?_ _) | (with_reducible exact Ext.refl _) | (refine Ext.trans ?_ (by with_reducible assumption)))))) ?_; rintro e w2 ⟨bo, ⟨rfl, hbo⟩, him2, hb2⟩; have hz2 := hb2.size; have q2 : w.heap.size < w2.heap.size := (by omega); have r2 : w.heap.size + 1 < w2.heap.size := (by omega)))
  have hbo2 := him2.lt
  have k2 : Blk (w2.alloc (.cells #[.int .i64 S, .int .i64 W, .int .i64 L, .bool false, .map (some bo)] 31)) (w.heap.size + 1) (.cells #[.int .i64 0, .int .i64 0, .int .i64 0, .bool false, .map none] 31) := (by repeat (first | (with_reducible assumption) | ((with_reducible refine Blk.new ?_); (first | (focus rfl) | (focus (simp; done)) | (focus omega))) | ((with_reducible refine Blk.set1 ?_ ?_); (focus omega)) | (with_reducible refine Blk.alloc ?_) | (refine Blk.ext ?_ (by with_reducible assumption))))
  have k3 : Blk (w2.alloc (.cells #[.int .i64 S, .int .i64 W, .int .i64 L, .bool false, .map (some bo)] 31)) w2.heap.size (.cells #[.int .i64 S, .int .i64 W, .int .i64 L, .bool false, .map (some bo)] 31) := (by repeat (first | (with_reducible assumption) | ((with_reducible refine Blk.new ?_); (first | (focus rfl) | (focus (simp; done)) | (focus omega))) | ((with_reducible refine Blk.set1 ?_ ?_); (focus omega)) | (with_reducible refine Blk.alloc ?_) | (refine Blk.ext ?_ (by with_reducible assumption))))
  have him3 := him2.alloc (.cells #[.int .i64 S, .int .i64 W, .int .i64 L, .bool false, .map (some bo)] 31)
  have hext3 : Ext w (w2.alloc (.cells #[.int .i64 S, .int .i64 W, .int .i64 L, .bool false, .map (some bo)] 31)) := (by repeat (first | ((with_reducible refine Ext.set1 ?_ ?_); (first | (focus (simp; done)) | (focus (simp; omega)) | (focus omega))) | (with_reducible refine Ext.alloc ?_ _) | (with_reducible exact Ext.refl _) | (refine Ext.trans ?_ (by with_reducible assumption))))
  go_loopw [8] (fun i wr => ∃ k : Nat, i = .int .i64 (0 + k) ∧ (0 + k ≤ hi + 1 ∧ IMap wr bo (n + k) (puts f 0 (0 + k - 1)) ∧ Blk wr (w.heap.size + 1) (.cells #[.int .i64 0, .int .i64 0, .int .i64 0, .bool false, .map none] 31) ∧ Blk wr w2.heap.size (.cells #[.int .i64 S, .int .i64 W, .int .i64 L, .bool false, .map (some bo)] 31) ∧ Ext w wr))
    (fun i _ => (hi + 1 - Go.RowKit.intOf i).toNat)
  case atStart => exact ⟨0, by simp, by omega, by rw [show (0 + ((0 : Nat) : Int) - 1) = 0 - 1 from by simp, puts_nil]; exact him3, k2, k3, hext3⟩
  case round =>
    clear k2 k3 him3 hext3
    obtain ⟨k, rfl, hk, him, k2, k3, hext⟩ := hrel
    have hl2 := k2.lt
    have hl3 := k3.lt
    have hwb := him.lt
    obtain ⟨c0, c1, c2, c3, c4⟩ := k3.c5
    by_cases hlt : 0 + (k : Int) ≤ hi
    · go_wp2_with (at_mapUpdate; refine wpList_store_im _ rfl _ _ _ rfl bo (n + k) _ rfl him (by unfold maxLen; omega) (0 + k) 0 rfl rfl (I64.of (by omega) (by omega)) (I64.of (by omega) (by omega)) ?_; intro w6 him6 hg6; have hz6 := hg6.size; have k26 := k2.grown hg6 (by simp; omega); have k36 := k3.grown hg6 (by simp; omega); have hext6 : Ext w w6 := hext.grown hg6 (fun k e => by cases e; omega))
      go_roundw
      case rel =>
        refine ⟨k + 1, by go_num, by omega, ?_, k26, k36, hext6⟩
        have e := puts_snoc f 0 (0 + k - 1) (by omega)
        have e2 : (0 + (k : Int) - 1 + 1) = 0 + k := by omega
        rw [e2] at e
        have e3 : (0 + ((k + 1 : Nat) : Int) - 1) = 0 + k := by omega
        rw [e3, e, ← Nat.add_assoc]
        exact him6
      case measure => simp [Go.RowKit.intOf]; omega
    · obtain ⟨e0, e1, e2, e3, e4⟩ := k2.c5
      obtain ⟨f0, f1, f2, f3, f4⟩ := k2.f5
      go_wp2
      refine bodyPost_ret (v := .agg #[.int .i64 S, .int .i64 W, .int .i64 L, .bool false, .map (some bo)]) ?_ rfl ⟨bo, ⟨rfl, by omega⟩, ?_, ?_⟩
      · simp [results, Try.results31, go_sem, e0, e1, e2, e3, e4]
      · have e : 0 + (k : Int) - 1 = hi := by omega
        have himf : IMap wr bo (n + 64) (puts f 0 hi) := by rw [e] at him; exact him.mono (by omega)
        clear him
        exact (by (repeat (first | ((with_reducible refine IMap.set1 ?_ ?_); (focus omega)) | (with_reducible refine IMap.alloc ?_ _))); with_reducible assumption)
      · exact (by repeat (first | ((with_reducible refine Ext.set1 ?_ ?_); (first | (focus (simp; done)) | (focus (simp; omega)) | (focus omega))) | (with_reducible refine Ext.alloc ?_ _) | (with_reducible exact Ext.refl _) | (refine Ext.trans ?_ (by with_reducible assumption))))

end Go.Proofs.Ytjckghdgogkeaaa
