/- The contracts of ontimelaw30.do and ontimelaw30.awake. -/
import Derived.Test.YtaekkfgggmighaaMu5
namespace Go.Proofs.Ytaekkfgggmighaa
open Go.RowKit Go.Maps
set_option linter.unusedVariables false

def uAccS (S W : Int) (f : FM) (x : Int) : FM := if x < 0 then f else uAcc S W f x
def uDo (S W : Int) (f : FM) (lo hi : Int) : FM := if lo = -1 ∧ hi = -1 then noF else if lo = hi then uAccS S W f lo else uRange S W f lo hi
theorem fit_uAccS {S W : Int} {f : FM} (hf : Fit W f) (hw : 1 ≤ W) {x : Int} : Fit W (uAccS S W f x) := by
  unfold uAccS
  split
  · exact hf
  · exact fit_uAcc hf hw (by omega)
theorem fit_uDo {S W : Int} {f : FM} (hf : Fit W f) (hw : 1 ≤ W) {lo hi : Int} : Fit W (uDo S W f lo hi) := by
  unfold uDo
  split
  · exact fit_no W
  · split
    · exact fit_uAccS hf hw
    · exact fit_uRange hf hw

theorem acc_mb {S W L : Int} (g : Geo S W L) (x : Int) (hx2 : x ≤ 1000000) (p : Option Nat) (n : Nat) (f : FM) (w : World) (h : MB w W n f p) (hn : n ≤ 1000000) :
    Calls Try.prog 27 #[.agg #[.int .i64 S, .int .i64 W, .int .i64 L, .map p], .int .i64 x] w (GivesM S W L (n + 1) (uAccS S W f x) w) := by
  unfold uAccS
  by_cases hx : x < 0
  · rw [if_pos hx]
    exact (must_access_neg g x hx p w).mono fun e w' ⟨he, hb⟩ => ⟨p, he, (h.ext hb).mono (by omega), hb⟩
  · rw [if_neg hx]
    exact must_access g x (by omega) hx2 p n f w h hn

set_option maxHeartbeats 400000 in
theorem do_one {S W L : Int} (g : Geo S W L) (lo pk : Int) (h1 : lo ≠ -1) (hx2 : lo ≤ 1000000) (p : Option Nat) (n : Nat) (f : FM) (w : World) (h : MB w W n f p) (hn : n ≤ 1000000) :
    Calls Try.prog 20 #[.agg #[.int .i64 S, .int .i64 W, .int .i64 L, .map p], .agg #[.int .i64 lo, .int .i64 lo, .int .u8 pk]] w (GivesM S W L (n + 1) (uAccS S W f lo) w) := by
  have h2 : (lo == -1) = false := by simpa using h1
  clear h1
  go_enter Try.func20, Try.ntmps20
  go_wp2_with (go_at_call 27; refine Calls.mono (acc_mb g lo hx2 p n f _ (h.ext (by repeat (first | ((with_reducible refine Ext.set1 ?_ ?_); (first | (focus (simp; done)) | (focus (simp; omega)) | (focus omega))) | (with_reducible refine Ext.alloc ?_ _) | (with_reducible exact Ext.refl _) | (refine Ext.trans ?_ (by with_reducible assumption))))) hn) ?_; rintro e w1 ⟨p', rfl, hm1, hb1⟩; have kr : Blk w1 (w.heap.size + 1 + 1) (.cells #[.int .i64 0, .int .i64 0, .int .i64 0, .map none] 28) := (by repeat (first | (with_reducible assumption) | ((with_reducible refine Blk.new ?_); (first | (focus rfl) | (focus (simp; done)) | (focus omega))) | ((with_reducible refine Blk.set1 ?_ ?_); (focus omega)) | (with_reducible refine Blk.alloc ?_) | (refine Blk.ext ?_ (by with_reducible assumption)))); obtain ⟨b0, b1, b2, b3⟩ := kr.c4; obtain ⟨f0, f1, f2, f3⟩ := kr.f4)
  refine bodyPost_ret (v := .agg #[.int .i64 S, .int .i64 W, .int .i64 L, .map p']) ?_ rfl ⟨p', rfl, ?_, ?_⟩
  · simp [results, Try.results20, go_sem, b0, b1, b2, b3]
  · exact (by repeat (first | (with_reducible assumption) | (with_reducible refine MB.set ?_) | (with_reducible refine MB.alloc ?_ _) | (refine MB.ext ?_ (by with_reducible assumption))))
  · exact (by repeat (first | ((with_reducible refine Ext.set1 ?_ ?_); (first | (focus (simp; done)) | (focus (simp; omega)) | (focus omega))) | (with_reducible refine Ext.alloc ?_ _) | (with_reducible exact Ext.refl _) | (refine Ext.trans ?_ (by with_reducible assumption))))
set_option maxHeartbeats 400000 in
theorem do_off {S W L : Int} (pk : Int) (p : Option Nat) (n : Nat) (w : World) :
    Calls Try.prog 20 #[.agg #[.int .i64 S, .int .i64 W, .int .i64 L, .map p], .agg #[.int .i64 (-1), .int .i64 (-1), .int .u8 pk]] w (GivesM S W L n noF w) := by
  go_enter Try.func20, Try.ntmps20
  go_wp2_with (go_at_call 30; refine Calls.mono (must_forget S W L p _) ?_; rintro e w1 ⟨rfl, hb1⟩; have kr : Blk w1 (w.heap.size + 1 + 1) (.cells #[.int .i64 0, .int .i64 0, .int .i64 0, .map none] 28) := (by repeat (first | (with_reducible assumption) | ((with_reducible refine Blk.new ?_); (first | (focus rfl) | (focus (simp; done)) | (focus omega))) | ((with_reducible refine Blk.set1 ?_ ?_); (focus omega)) | (with_reducible refine Blk.alloc ?_) | (refine Blk.ext ?_ (by with_reducible assumption)))); obtain ⟨b0, b1, b2, b3⟩ := kr.c4; obtain ⟨f0, f1, f2, f3⟩ := kr.f4)
  refine bodyPost_ret (v := .agg #[.int .i64 S, .int .i64 W, .int .i64 L, .map none]) ?_ rfl ⟨none, rfl, MB.nil _ _ _, ?_⟩
  · simp [results, Try.results20, go_sem, b0, b1, b2, b3]
  · exact (by repeat (first | ((with_reducible refine Ext.set1 ?_ ?_); (first | (focus (simp; done)) | (focus (simp; omega)) | (focus omega))) | (with_reducible refine Ext.alloc ?_ _) | (with_reducible exact Ext.refl _) | (refine Ext.trans ?_ (by with_reducible assumption))))
set_option maxHeartbeats 400000 in
theorem do_many {S W L : Int} (g : Geo S W L) (lo hi pk : Int) (h1 : lo ≠ hi) (hx2 : hi ≤ 1000000) (p : Option Nat) (n : Nat) (f : FM) (w : World) (h : MB w W n f p) (hn : n ≤ 1000000) :
    Calls Try.prog 20 #[.agg #[.int .i64 S, .int .i64 W, .int .i64 L, .map p], .agg #[.int .i64 lo, .int .i64 hi, .int .u8 pk]] w (GivesM S W L (n + 1) (uRange S W f lo hi) w) := by
  have h2 : (lo == hi) = false := by simpa using h1
  by_cases h3 : lo = -1
  · subst h3
    have h4 : (hi == -1) = false := by simp; omega
    clear h1
    go_enter Try.func20, Try.ntmps20
    go_wp2_with (go_at_call 32; refine Calls.mono (must_range g (-1) hi hx2 p n f _ (h.ext (by repeat (first | ((with_reducible refine Ext.set1 ?_ ?_); (first | (focus (simp; done)) | (focus (simp; omega)) | (focus omega))) | (with_reducible refine Ext.alloc ?_ _) | (with_reducible exact Ext.refl _) | (refine Ext.trans ?_ (by with_reducible assumption))))) hn) ?_; rintro e w1 ⟨p', rfl, hm1, hb1⟩; have kr : Blk w1 (w.heap.size + 1 + 1) (.cells #[.int .i64 0, .int .i64 0, .int .i64 0, .map none] 28) := (by repeat (first | (with_reducible assumption) | ((with_reducible refine Blk.new ?_); (first | (focus rfl) | (focus (simp; done)) | (focus omega))) | ((with_reducible refine Blk.set1 ?_ ?_); (focus omega)) | (with_reducible refine Blk.alloc ?_) | (refine Blk.ext ?_ (by with_reducible assumption)))); obtain ⟨b0, b1, b2, b3⟩ := kr.c4; obtain ⟨f0, f1, f2, f3⟩ := kr.f4)
    refine bodyPost_ret (v := .agg #[.int .i64 S, .int .i64 W, .int .i64 L, .map p']) ?_ rfl ⟨p', rfl, ?_, ?_⟩
    · simp [results, Try.results20, go_sem, b0, b1, b2, b3]
    · exact (by repeat (first | (with_reducible assumption) | (with_reducible refine MB.set ?_) | (with_reducible refine MB.alloc ?_ _) | (refine MB.ext ?_ (by with_reducible assumption))))
    · exact (by repeat (first | ((with_reducible refine Ext.set1 ?_ ?_); (first | (focus (simp; done)) | (focus (simp; omega)) | (focus omega))) | (with_reducible refine Ext.alloc ?_ _) | (with_reducible exact Ext.refl _) | (refine Ext.trans ?_ (by with_reducible assumption))))
  · have h4 : (lo == -1) = false := by simpa using h3
    clear h1 h3
    go_enter Try.func20, Try.ntmps20
    go_wp2_with (go_at_call 32; refine Calls.mono (must_range g lo hi hx2 p n f _ (h.ext (by repeat (first | ((with_reducible refine Ext.set1 ?_ ?_); (first | (focus (simp; done)) | (focus (simp; omega)) | (focus omega))) | (with_reducible refine Ext.alloc ?_ _) | (with_reducible exact Ext.refl _) | (refine Ext.trans ?_ (by with_reducible assumption))))) hn) ?_; rintro e w1 ⟨p', rfl, hm1, hb1⟩; have kr : Blk w1 (w.heap.size + 1 + 1) (.cells #[.int .i64 0, .int .i64 0, .int .i64 0, .map none] 28) := (by repeat (first | (with_reducible assumption) | ((with_reducible refine Blk.new ?_); (first | (focus rfl) | (focus (simp; done)) | (focus omega))) | ((with_reducible refine Blk.set1 ?_ ?_); (focus omega)) | (with_reducible refine Blk.alloc ?_) | (refine Blk.ext ?_ (by with_reducible assumption)))); obtain ⟨b0, b1, b2, b3⟩ := kr.c4; obtain ⟨f0, f1, f2, f3⟩ := kr.f4)
    refine bodyPost_ret (v := .agg #[.int .i64 S, .int .i64 W, .int .i64 L, .map p']) ?_ rfl ⟨p', rfl, ?_, ?_⟩
    · simp [results, Try.results20, go_sem, b0, b1, b2, b3]
    · exact (by repeat (first | (with_reducible assumption) | (with_reducible refine MB.set ?_) | (with_reducible refine MB.alloc ?_ _) | (refine MB.ext ?_ (by with_reducible assumption))))
    · exact (by repeat (first | ((with_reducible refine Ext.set1 ?_ ?_); (first | (focus (simp; done)) | (focus (simp; omega)) | (focus omega))) | (with_reducible refine Ext.alloc ?_ _) | (with_reducible exact Ext.refl _) | (refine Ext.trans ?_ (by with_reducible assumption))))
theorem do_mb {S W L : Int} (g : Geo S W L) (lo hi pk : Int) (hx2 : hi ≤ 1000000) (p : Option Nat) (n : Nat) (f : FM) (w : World) (h : MB w W n f p) (hn : n ≤ 1000000) :
    Calls Try.prog 20 #[.agg #[.int .i64 S, .int .i64 W, .int .i64 L, .map p], .agg #[.int .i64 lo, .int .i64 hi, .int .u8 pk]] w (GivesM S W L (n + 1) (uDo S W f lo hi) w) := by
  unfold uDo
  by_cases h1 : lo = -1 ∧ hi = -1
  · rw [if_pos h1]
    obtain ⟨rfl, rfl⟩ := h1
    exact do_off pk p (n + 1) w
  rw [if_neg h1]
  by_cases h2 : lo = hi
  · subst h2
    rw [if_pos rfl]
    exact do_one g lo pk (fun e => h1 ⟨e, e⟩) hx2 p n f w h hn
  · rw [if_neg h2]
    exact do_many g lo hi pk h2 hx2 p n f w h hn

/-! ### the example of the chapter -/
theorem g121 : Geo 1 2 1 := ⟨.inl rfl, by decide, by decide, .inl rfl, by decide⟩
def AW1 : FM := uAcc 1 2 noF 1
def AW2 : FM := uAcc 1 2 AW1 2
def AW3 : FM := uRange 1 2 AW2 5 6
theorem aw_facts : AW2 1 = some 1 ∧ AW2 2 = some 0 ∧ AW3 2 = some 1 ∧ AW3 1 = none := by
  refine ⟨?_, ?_, ?_, ?_⟩ <;> rfl
theorem aw2_dom : ∀ y, (AW2 y).isSome = true ↔ y = 1 ∨ y = 2 := fun y => by
  show (put (mUp 2 (accM 1 2 ((AW1 2).getD 2)) AW1) 2 0 y).isSome = true ↔ _
  unfold put
  by_cases h : y = 2
  · simp [h]
  · rw [if_neg h]
    by_cases h1 : y = 1
    · subst h1; simp; rfl
    · have h2 : AW1 y = none := by
        show put _ 1 0 y = none
        unfold put
        rw [if_neg h1]
        exact mUp_none rfl
      rw [mUp_none h2]
      simp [h, h1]
theorem aw3_dom : ∀ y, (AW3 y).isSome = true ↔ y = 2 := fun y => by
  by_cases h2 : y = 2
  · subst h2; simp [aw_facts.2.2.1]
  · by_cases h1 : y = 1
    · subst h1; rw [aw_facts.2.2.2]; simp
    · have h3 : AW2 y = none := by
        have := aw2_dom y
        cases e : AW2 y with
        | none => rfl
        | some c => rw [e] at this; have := this.1 rfl; omega
      have h4 : AW3 y = none := by
        show (uRange 1 2 AW2 5 6) y = none
        have e : uRange 1 2 AW2 5 6 = mUp 2 (rngM 1 5 6) AW2 := rfl
        rw [e]
        exact mUp_none h3
      rw [h4]
      simp [h2]
theorem aw2_len {L : List Int} (h : Dom AW2 L) : L.length = 2 := by
  have : L = [1, 2] := h.unique ⟨by decide, fun x => by rw [aw2_dom]; simp⟩
  rw [this]; rfl
theorem aw3_len {L : List Int} (h : Dom AW3 L) : L.length = 1 := by
  have : L = [2] := h.unique ⟨by decide, fun x => by rw [aw3_dom]; simp⟩
  rw [this]; rfl
end Go.Proofs.Ytaekkfgggmighaa
