/- The contracts of ontimelaw31.step and ontimelaw31.awake. -/
import Derived.Test.YtjckghdgogkeaaaZEx6
import Derived.Test.YtjckghdgogkeaaaZEx9
namespace Go.Proofs.Ytjckghdgogkeaaa
open Go.RowKit Go.Maps
set_option linter.unusedVariables false

def sStep (S W : Int) (st : St) (lo hi : Int) : St := if lo = hi then sAcc S W st lo else sRange S W st lo hi

set_option maxHeartbeats 400000 in
theorem step_st {S W L : Int} (g : Geo S W L) (lo hi pk : Int) (hx2 : hi ≤ 1000000) (u : Bool) (p : Option Nat) (n : Nat) (st : St) (w : World) (h : StB w W n st u p) (hn : n ≤ 1000000) :
    Calls Try.prog 18 #[.agg #[.int .i64 S, .int .i64 W, .int .i64 L, .bool u, .map p], .agg #[.int .i64 lo, .int .i64 hi, .int .u8 pk]] w (Gives S W L (n + 64) (sStep S W st lo hi) w) := by
  by_cases he : lo = hi
  · subst he
    have hs : sStep S W st lo lo = sAcc S W st lo := if_pos rfl
    rw [hs]
    clear hs
    go_enter Try.func18, Try.ntmps18
    go_wp2_with (go_at_call 32; refine Calls.mono (acc_st g lo hx2 u p n st _ (h.ext (by repeat (first | ((with_reducible refine Ext.set1 ?_ ?_); (first | (focus (simp; done)) | (focus (simp; omega)) | (focus omega))) | (with_reducible refine Ext.alloc ?_ _) | (with_reducible exact Ext.refl _) | (refine Ext.trans ?_ (by with_reducible assumption))))) hn) ?_; rintro e w1 ⟨u', p', rfl, h1, hb1⟩; have kr : Blk w1 (w.heap.size + 1 + 1) (.cells #[.int .i64 0, .int .i64 0, .int .i64 0, .bool false, .map none] 31) := (by repeat (first | (with_reducible assumption) | ((with_reducible refine Blk.new ?_); (first | (focus rfl) | (focus (simp; done)) | (focus omega))) | ((with_reducible refine Blk.set1 ?_ ?_); (focus omega)) | (with_reducible refine Blk.alloc ?_) | (refine Blk.ext ?_ (by with_reducible assumption)))); obtain ⟨b0, b1, b2, b3, b4⟩ := kr.c5; obtain ⟨f0, f1, f2, f3, f4⟩ := kr.f5)
    refine bodyPost_ret (v := .agg #[.int .i64 S, .int .i64 W, .int .i64 L, .bool u', .map p']) ?_ rfl ⟨u', p', rfl, ?_, ?_⟩
    · simp [results, Try.results18, go_sem, b0, b1, b2, b3, b4]
    · exact (by repeat (first | (with_reducible assumption) | (with_reducible refine StB.set ?_) | (with_reducible refine StB.alloc ?_ _) | (refine StB.ext ?_ (by with_reducible assumption))))
    · exact (by repeat (first | ((with_reducible refine Ext.set1 ?_ ?_); (first | (focus (simp; done)) | (focus (simp; omega)) | (focus omega))) | (with_reducible refine Ext.alloc ?_ _) | (with_reducible exact Ext.refl _) | (refine Ext.trans ?_ (by with_reducible assumption))))
  · have hs : sStep S W st lo hi = sRange S W st lo hi := if_neg he
    rw [hs]
    clear hs
    have he2 : (lo == hi) = false := by simpa using he
    clear he
    go_enter Try.func18, Try.ntmps18
    go_wp2_with (go_at_call 31; refine Calls.mono (range_st g lo hi hx2 u p n st _ (h.ext (by repeat (first | ((with_reducible refine Ext.set1 ?_ ?_); (first | (focus (simp; done)) | (focus (simp; omega)) | (focus omega))) | (with_reducible refine Ext.alloc ?_ _) | (with_reducible exact Ext.refl _) | (refine Ext.trans ?_ (by with_reducible assumption))))) hn) ?_; rintro e w1 ⟨u', p', rfl, h1, hb1⟩; have kr : Blk w1 (w.heap.size + 1 + 1) (.cells #[.int .i64 0, .int .i64 0, .int .i64 0, .bool false, .map none] 31) := (by repeat (first | (with_reducible assumption) | ((with_reducible refine Blk.new ?_); (first | (focus rfl) | (focus (simp; done)) | (focus omega))) | ((with_reducible refine Blk.set1 ?_ ?_); (focus omega)) | (with_reducible refine Blk.alloc ?_) | (refine Blk.ext ?_ (by with_reducible assumption)))); obtain ⟨b0, b1, b2, b3, b4⟩ := kr.c5; obtain ⟨f0, f1, f2, f3, f4⟩ := kr.f5)
    refine bodyPost_ret (v := .agg #[.int .i64 S, .int .i64 W, .int .i64 L, .bool u', .map p']) ?_ rfl ⟨u', p', rfl, ?_, ?_⟩
    · simp [results, Try.results18, go_sem, b0, b1, b2, b3, b4]
    · exact (by repeat (first | (with_reducible assumption) | (with_reducible refine StB.set ?_) | (with_reducible refine StB.alloc ?_ _) | (refine StB.ext ?_ (by with_reducible assumption))))
    · exact (by repeat (first | ((with_reducible refine Ext.set1 ?_ ?_); (first | (focus (simp; done)) | (focus (simp; omega)) | (focus omega))) | (with_reducible refine Ext.alloc ?_ _) | (with_reducible exact Ext.refl _) | (refine Ext.trans ?_ (by with_reducible assumption))))

/-- The example of the chapter. -/
theorem awake_facts : (mayAcc 1 2 (mayAcc 1 2 noF 4) 7) 4 = some 1 ∧ (mayAcc 1 2 (mayAcc 1 2 noF 4) 7) 7 = some 0 ∧ (mayAcc 1 2 (mayAcc 1 2 (mayAcc 1 2 noF 4) 7) 9) 4 = none := by
  refine ⟨?_, ?_, ?_⟩ <;> rfl
end Go.Proofs.Ytjckghdgogkeaaa

namespace Go.Proofs.Ytjckghdgogkeaaa
open Go.RowKit Go.Maps
set_option linter.unusedVariables false

theorem g121 : Geo 1 2 1 := ⟨.inl rfl, by decide, by decide, .inl rfl, by decide⟩
theorem sAcc_pos {S W : Int} {f : FM} {x : Int} (h : ¬ x < 0) : sAcc S W (some f) x = some (mayAcc S W f x) := if_neg h

/-- An age asked of a known state. -/
theorem age_st {S W L : Int} (x : Int) (u : Bool) (p : Option Nat) (n : Nat) (f : FM) (w : World) (h : StB w W n (some f) u p) (hx : I64 x) (c : Int) (ok : Bool) (hc : (f x).getD 0 = c) (hok : (f x).isSome = ok) :
    Calls Try.prog 23 #[.agg #[.int .i64 S, .int .i64 W, .int .i64 L, .bool u, .map p], .int .i64 x] w fun e w' => e = .returned (.tuple #[.int .i64 c, .bool ok]) ∧ Ext w w' := by
  rcases h with ⟨_, _, h⟩ | ⟨rfl, f', he, him, _⟩
  · cases h
  · cases he
    exact may_age S W L x p n f w him hx c ok hc hok

def AW1 : FM := mayAcc 1 2 noF 4
def AW2 : FM := mayAcc 1 2 AW1 7
def AW3 : FM := mayAcc 1 2 AW2 9
theorem aw1 : AW2 4 = some 1 := awake_facts.1
theorem aw2 : AW2 7 = some 0 := awake_facts.2.1
theorem aw3 : AW3 4 = none := awake_facts.2.2
theorem awake_acc1 (u : Bool) (p : Option Nat) (n : Nat) (w : World) (h : StB w 2 n (some noF) u p) (hn : n ≤ 1000000) :
    Calls Try.prog 32 #[.agg #[.int .i64 1, .int .i64 2, .int .i64 1, .bool u, .map p], .int .i64 4] w (Gives 1 2 1 (n + 64) (some AW1) w) := acc_st g121 4 (by decide) u p n _ w h hn
theorem awake_acc2 (u : Bool) (p : Option Nat) (n : Nat) (w : World) (h : StB w 2 n (some AW1) u p) (hn : n ≤ 1000000) :
    Calls Try.prog 32 #[.agg #[.int .i64 1, .int .i64 2, .int .i64 1, .bool u, .map p], .int .i64 7] w (Gives 1 2 1 (n + 64) (some AW2) w) := acc_st g121 7 (by decide) u p n _ w h hn
theorem awake_acc3 (u : Bool) (p : Option Nat) (n : Nat) (w : World) (h : StB w 2 n (some AW2) u p) (hn : n ≤ 1000000) :
    Calls Try.prog 32 #[.agg #[.int .i64 1, .int .i64 2, .int .i64 1, .bool u, .map p], .int .i64 9] w (Gives 1 2 1 (n + 64) (some AW3) w) := acc_st g121 9 (by decide) u p n _ w h hn
theorem awake_age1 (u : Bool) (p : Option Nat) (n : Nat) (w : World) (h : StB w 2 n (some AW2) u p) :
    Calls Try.prog 23 #[.agg #[.int .i64 1, .int .i64 2, .int .i64 1, .bool u, .map p], .int .i64 4] w fun e w' => e = .returned (.tuple #[.int .i64 1, .bool true]) ∧ Ext w w' := age_st 4 u p n _ w h (.of (by decide) (by decide)) _ _ (by rw [aw1]; rfl) (by rw [aw1]; rfl)
theorem awake_age2 (u : Bool) (p : Option Nat) (n : Nat) (w : World) (h : StB w 2 n (some AW2) u p) :
    Calls Try.prog 23 #[.agg #[.int .i64 1, .int .i64 2, .int .i64 1, .bool u, .map p], .int .i64 7] w fun e w' => e = .returned (.tuple #[.int .i64 0, .bool true]) ∧ Ext w w' := age_st 7 u p n _ w h (.of (by decide) (by decide)) _ _ (by rw [aw2]; rfl) (by rw [aw2]; rfl)
theorem awake_age3 (u : Bool) (p : Option Nat) (n : Nat) (w : World) (h : StB w 2 n (some AW3) u p) :
    Calls Try.prog 23 #[.agg #[.int .i64 1, .int .i64 2, .int .i64 1, .bool u, .map p], .int .i64 4] w fun e w' => e = .returned (.tuple #[.int .i64 0, .bool false]) ∧ Ext w w' := age_st 4 u p n _ w h (.of (by decide) (by decide)) _ _ (by rw [aw3]; rfl) (by rw [aw3]; rfl)

set_option maxHeartbeats 1000000 in
theorem awake_yes (w : World) : Calls Try.prog 11 #[] w fun e w' => e = .returned (.bool true) ∧ Ext w w' := by
  go_enter Try.func11, Try.ntmps11
  go_wp2_with (first
    | (have g := hb6; clear g; go_at_call 23; refine Calls.mono (awake_age3 _ _ (0 + 64 + 64 + 64) _ (by repeat (first | (with_reducible assumption) | (with_reducible refine StB.set ?_) | (with_reducible refine StB.alloc ?_ _) | (refine StB.ext ?_ (by with_reducible assumption))))) ?_; rintro e w7 ⟨rfl, hb7⟩)
    | (have g := hb5; clear g; go_at_call 32; refine Calls.mono (awake_acc3 _ _ (0 + 64 + 64) _ (by repeat (first | (with_reducible assumption) | (with_reducible refine StB.set ?_) | (with_reducible refine StB.alloc ?_ _) | (refine StB.ext ?_ (by with_reducible assumption)))) (by omega)) ?_; rintro e w6 ⟨u6, p6, rfl, h6, hb6⟩)
    | (have g := hb4; clear g; go_at_call 23; refine Calls.mono (awake_age2 _ _ (0 + 64 + 64) _ (by repeat (first | (with_reducible assumption) | (with_reducible refine StB.set ?_) | (with_reducible refine StB.alloc ?_ _) | (refine StB.ext ?_ (by with_reducible assumption))))) ?_; rintro e w5 ⟨rfl, hb5⟩; obtain ⟨d0, d1, d2, d3, d4⟩ := Blk.c5 (w := w5) (B := w3.heap.size) (by repeat (first | (with_reducible assumption) | ((with_reducible refine Blk.new ?_); (first | (focus rfl) | (focus (simp; done)) | (focus omega))) | ((with_reducible refine Blk.set1 ?_ ?_); (focus omega)) | (with_reducible refine Blk.alloc ?_) | (refine Blk.ext ?_ (by with_reducible assumption)))))
    | (have g := hb3; clear g; go_at_call 23; refine Calls.mono (awake_age1 _ _ (0 + 64 + 64) _ (by repeat (first | (with_reducible assumption) | (with_reducible refine StB.set ?_) | (with_reducible refine StB.alloc ?_ _) | (refine StB.ext ?_ (by with_reducible assumption))))) ?_; rintro e w4 ⟨rfl, hb4⟩; obtain ⟨a0, a1, a2, a3, a4⟩ := Blk.c5 (w := w4) (B := w3.heap.size) (by repeat (first | (with_reducible assumption) | ((with_reducible refine Blk.new ?_); (first | (focus rfl) | (focus (simp; done)) | (focus omega))) | ((with_reducible refine Blk.set1 ?_ ?_); (focus omega)) | (with_reducible refine Blk.alloc ?_) | (refine Blk.ext ?_ (by with_reducible assumption)))); have q4 : w3.heap.size < w4.heap.size := (by have := hb4.size; simp at this; omega))
    | (have g := hb2; clear g; go_at_call 32; refine Calls.mono (awake_acc2 _ _ _ _ h2 (by omega)) ?_; rintro e w3 ⟨u3, p3, rfl, h3, hb3⟩)
    | (have g := hb1; clear g; go_at_call 32; refine Calls.mono (awake_acc1 _ _ 0 _ (StB.nil _ _ _) (by omega)) ?_; rintro e w2 ⟨u2, p2, rfl, h2, hb2⟩)
    | (go_at_call 21; refine Calls.mono (may_new_yes g121 _) ?_; rintro e w1 ⟨rfl, hb1⟩))
  go_ret
  exact ⟨rfl, (by repeat (first | ((with_reducible refine Ext.set1 ?_ ?_); (first | (focus (simp; done)) | (focus (simp; omega)) | (focus omega))) | (with_reducible refine Ext.alloc ?_ _) | (with_reducible exact Ext.refl _) | (refine Ext.trans ?_ (by with_reducible assumption))))⟩
end Go.Proofs.Ytjckghdgogkeaaa
