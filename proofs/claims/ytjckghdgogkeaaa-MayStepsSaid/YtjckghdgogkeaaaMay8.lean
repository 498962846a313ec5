/- The contracts of ontimelaw31.step and ontimelaw31.awake. -/
import Derived.Test.YtjckghdgogkeaaaMay7
import Derived.Test.YtjckghdgogkeaaaMay6
namespace Go.Proofs.Ytjckghdgogkeaaa
open Go.RowKit Go.Maps
set_option linter.unusedVariables false

def sStep (S W : Int) (st : St) (lo hi : Int) : St := if lo = hi then sAcc S W st lo else sRange S W st lo hi

set_option maxHeartbeats 400000 in
theorem step_st {S W L : Int} (g : Geo S W L) (lo hi pk : Int) (hx2 : hi ≤ 1000000) (u : Bool) (p : Option Nat) (n : Nat) (st : St) (w : World) (h : StB w W n st u p) (hn : n ≤ 1000000) :
    Calls Try.prog 18 #[.agg #[.int .i64 S, .int .i64 W, .int .i64 L, .bool u, .map p], .agg #[.int .i64 lo, .int .i64 hi, .int .u8 pk]] w (Gives S W L (n + 64) (sStep S W st lo hi) w) := by
  by_cases he : lo = hi
  · subst he
    have hs : sStep S W st lo lo = sAcc S W st lo := if_pos rfl
    rw [hs]
    clear hs
    go_enter Try.func18, Try.ntmps18
    go_wp2_with (go_at_call 32; refine Calls.mono (acc_st g lo hx2 u p n st _ (h.ext (by repeat (first | ((with_reducible refine Ext.set1 ?_ ?_); (first | (focus (simp; done)) | (focus (simp; omega)) | (focus omega))) | (with_reducible refine Ext.alloc ?_ _) | (with_reducible exact Ext.refl _) | (refine Ext.trans ?_ (by with_reducible assumption))))) hn) ?_; rintro e w1 ⟨u', p', rfl, h1, hb1⟩; have kr : Blk w1 (w.heap.size + 1 + 1) (.cells #[.int .i64 0, .int .i64 0, .int .i64 0, .bool false, .map none] 31) := (by repeat (first | (with_reducible assumption) | ((with_reducible refine Blk.new ?_); (first | (focus rfl) | (focus (simp; done)) | (focus omega))) | ((with_reducible refine Blk.set1 ?_ ?_); (focus omega)) | (with_reducible refine Blk.alloc ?_) | (refine Blk.ext ?_ (by with_reducible assumption)))); obtain ⟨b0, b1, b2, b3, b4⟩ := kr.c5; obtain ⟨f0, f1, f2, f3, f4⟩ := kr.f5)
    refine bodyPost_ret (v := .agg #[.int .i64 S, .int .i64 W, .int .i64 L, .bool u', .map p']) ?_ rfl ⟨u', p', rfl, ?_, ?_⟩
    · simp [results, Try.results18, go_sem, b0, b1, b2, b3, b4]
    · exact (by repeat (first | (with_reducible assumption) | (with_reducible refine StB.set ?_) | (with_reducible refine StB.alloc ?_ _) | (refine StB.ext ?_ (by with_reducible assumption))))
    · exact (by repeat (first | ((with_reducible refine Ext.set1 ?_ ?_); (first | (focus (simp; done)) | (focus (simp; omega)) | (focus omega))) | (with_reducible refine Ext.alloc ?_ _) | (with_reducible exact Ext.refl _) | (refine Ext.trans ?_ (by with_reducible assumption))))
  · have hs : sStep S W st lo hi = sRange S W st lo hi := if_neg he
    rw [hs]
    clear hs
    have he2 : (lo == hi) = false := by simpa using he
    clear he
    go_enter Try.func18, Try.ntmps18
    go_wp2_with (go_at_call 31; refine Calls.mono (range_st g lo hi hx2 u p n st _ (h.ext (by repeat (first | ((with_reducible refine Ext.set1 ?_ ?_); (first | (focus (simp; done)) | (focus (simp; omega)) | (focus omega))) | (with_reducible refine Ext.alloc ?_ _) | (with_reducible exact Ext.refl _) | (refine Ext.trans ?_ (by with_reducible assumption))))) hn) ?_; rintro e w1 ⟨u', p', rfl, h1, hb1⟩; have kr : Blk w1 (w.heap.size + 1 + 1) (.cells #[.int .i64 0, .int .i64 0, .int .i64 0, .bool false, .map none] 31) := (by repeat (first | (with_reducible assumption) | ((with_reducible refine Blk.new ?_); (first | (focus rfl) | (focus (simp; done)) | (focus omega))) | ((with_reducible refine Blk.set1 ?_ ?_); (focus omega)) | (with_reducible refine Blk.alloc ?_) | (refine Blk.ext ?_ (by with_reducible assumption)))); obtain ⟨b0, b1, b2, b3, b4⟩ := kr.c5; obtain ⟨f0, f1, f2, f3, f4⟩ := kr.f5)
    refine bodyPost_ret (v := .agg #[.int .i64 S, .int .i64 W, .int .i64 L, .bool u', .map p']) ?_ rfl ⟨u', p', rfl, ?_, ?_⟩
    · simp [results, Try.results18, go_sem, b0, b1, b2, b3, b4]
    · exact (by repeat (first | (with_reducible assumption) | (with_reducible refine StB.set ?_) | (with_reducible refine StB.alloc ?_ _) | (refine StB.ext ?_ (by with_reducible assumption))))
    · exact (by repeat (first | ((with_reducible refine Ext.set1 ?_ ?_); (first | (focus (simp; done)) | (focus (simp; omega)) | (focus omega))) | (with_reducible refine Ext.alloc ?_ _) | (with_reducible exact Ext.refl _) | (refine Ext.trans ?_ (by with_reducible assumption))))

/-- The example of the chapter. -/
theorem awake_facts : (mayAcc 1 2 (mayAcc 1 2 noF 4) 7) 4 = some 1 ∧ (mayAcc 1 2 (mayAcc 1 2 noF 4) 7) 7 = some 0 ∧ (mayAcc 1 2 (mayAcc 1 2 (mayAcc 1 2 noF 4) 7) 9) 4 = none := by
  refine ⟨?_, ?_, ?_⟩ <;> rfl
end Go.Proofs.Ytjckghdgogkeaaa
