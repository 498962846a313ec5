/- The contract of (must.State).older, at the two function literals that are handed to it. -/
import Derived.Test.YtaekkfgggmighaaMu2
import Derived.Maps.RangeWalk
namespace Go.Proofs.Ytaekkfgggmighaa
open Go.RowKit Go.Maps
set_option linter.unusedVariables false

/-- The entries that match grow older by one; those that reach W fall out. -/
def mUp (W : Int) (m : Int → Int → Bool) (f : FM) : FM := fun y =>
  match f y with
  | none => none
  | some c => if m y c = true then (if c + 1 < W then some (c + 1) else none) else some c
theorem mUp_none {W : Int} {m : Int → Int → Bool} {f : FM} {y : Int} (e : f y = none) : mUp W m f y = none := by unfold mUp; rw [e]
theorem mUp_keep {W : Int} {m : Int → Int → Bool} {f : FM} {y c : Int} (e : f y = some c) (k : m y c = false) : mUp W m f y = some c := by unfold mUp; rw [e]; simp [k]
theorem mUp_up {W : Int} {m : Int → Int → Bool} {f : FM} {y c : Int} (e : f y = some c) (k : m y c = true) (h : c + 1 < W) : mUp W m f y = some (c + 1) := by unfold mUp; rw [e]; simp [k, h]
theorem mUp_out {W : Int} {m : Int → Int → Bool} {f : FM} {y c : Int} (e : f y = some c) (k : m y c = true) (h : ¬ c + 1 < W) : mUp W m f y = none := by unfold mUp; rw [e]; simp [k, h]
theorem fit_mUp {W : Int} {m : Int → Int → Bool} {f : FM} (hf : Fit W f) : Fit W (mUp W m f) := fun y c e => by
  unfold mUp at e
  cases hy : f y with
  | none => rw [hy] at e; cases e
  | some d =>
    rw [hy] at e
    have := hf y d hy
    simp only at e
    split at e
    · split at e
      · cases e; exact ⟨this.1, by omega, by omega⟩
      · cases e
    · cases e; exact this
theorem mUp_noF {W : Int} {m : Int → Int → Bool} {f : FM} (h : ∀ y, f y = none) : ∀ y, mUp W m f y = none := fun y => mUp_none (h y)
theorem Mid.cut0 {f g : FM} {lf : Int → Bool} {fo : FM} (h : Mid f g lf fo) {y : Int} (e : g y = none) : Mid f g (fun z => lf z && !decide (z = y)) (Ytaekkfgggmighaa.cut fo y) := fun z => by
  unfold Ytaekkfgggmighaa.cut
  by_cases c : z = y
  · subst c; simp [e]
  · simp [c, h z]

set_option maxHeartbeats 1000000 in
theorem older_acc_some (S W L : Int) (b n : Nat) (f : FM) (w : World) (h : IMap w b n f) (hn : n ≤ 1000000) (hfit : Fit W f) (hw8 : W ≤ 8) (bl bs bt bq : Nat) (M : Int → Int → Bool)
    (hM : ∀ wr y c, Ext w wr → f y = some c → Calls Try.prog 47 #[.int .i64 y, .int .i64 c, .pointer (some ⟨bl, 0, none⟩), .pointer (some ⟨bs, 0, none⟩), .pointer (some ⟨bt, 0, none⟩), .pointer (some ⟨bq, 0, none⟩)] wr fun e w' => e = .returned (.bool (M y c)) ∧ Ext wr w') :
    Calls Try.prog 46 #[.agg #[.int .i64 S, .int .i64 W, .int .i64 L, .map (some b)], .func (.func 47) #[] #[.pointer (some ⟨bl, 0, none⟩), .pointer (some ⟨bs, 0, none⟩), .pointer (some ⟨bt, 0, none⟩), .pointer (some ⟨bq, 0, none⟩)]] w fun e w' => ∃ b', (e = .returned (.agg #[.int .i64 S, .int .i64 W, .int .i64 L, .map (some b')]) ∧ w.heap.size ≤ b') ∧ IMap w' b' n (mUp W M f) ∧ Ext w w' := by
  have HFIT := Lib.hid hfit; clear hfit
  have hb0 := h.lt
  go_enter Try.func46, Try.ntmps46
  go_wp2_with (first
    | (go_at_call 54; refine Calls.mono (must_copied S W L (some b) n f _ (.inr ⟨b, rfl, h.ext (by repeat (first | ((with_reducible refine Ext.set1 ?_ ?_); (first | (focus (simp; done)) | (focus (simp; omega)) | (focus omega))) | (with_reducible refine Ext.alloc ?_ _) | (with_reducible exact Ext.refl _) | (refine Ext.trans ?_ (by with_reducible assumption))))⟩) hn) ?_; rintro e w2 ⟨bo, ⟨rfl, hbo⟩, him2, hb2⟩; simp at hbo; have hz2 := hb2.size; simp at hz2; have q2 : w.heap.size < w2.heap.size := (by omega); have r2 : w.heap.size + 1 < w2.heap.size := (by omega)
       obtain ⟨a20, a21, a22, a23⟩ := Blk.c4 (w := w2) (B := w.heap.size) (by repeat (first | (with_reducible assumption) | ((with_reducible refine Blk.new ?_); (first | (focus rfl) | (focus (simp; done)) | (focus omega))) | ((with_reducible refine Blk.set1 ?_ ?_); (focus omega)) | (with_reducible refine Blk.alloc ?_) | (refine Blk.ext ?_ (by with_reducible assumption)))))
    | (at_range; refine wpList_range_im _ rfl _ rfl w2.heap.size rfl b n f rfl (h.ext (by repeat (first | ((with_reducible refine Ext.set1 ?_ ?_); (first | (focus (simp; done)) | (focus (simp; omega)) | (focus omega))) | (with_reducible refine Ext.alloc ?_ _) | (with_reducible exact Ext.refl _) | (refine Ext.trans ?_ (by with_reducible assumption))))) ?_; intro w4 cnt4 hrm4 hb4 hs4 hcn4))
  have hbo2 := him2.lt
  have hw4 := hb4.size
  have k1 : Blk w4 w.heap.size (.cells #[.int .i64 S, .int .i64 W, .int .i64 L, .map (some b)] 28) := (by repeat (first | (with_reducible assumption) | ((with_reducible refine Blk.new ?_); (first | (focus rfl) | (focus (simp; done)) | (focus omega))) | ((with_reducible refine Blk.set1 ?_ ?_); (focus omega)) | (with_reducible refine Blk.alloc ?_) | (refine Blk.ext ?_ (by with_reducible assumption))))
  have k2 : Blk w4 (w.heap.size + 1) (.cells #[.int .i64 0, .int .i64 0, .int .i64 0, .map none] 28) := (by repeat (first | (with_reducible assumption) | ((with_reducible refine Blk.new ?_); (first | (focus rfl) | (focus (simp; done)) | (focus omega))) | ((with_reducible refine Blk.set1 ?_ ?_); (focus omega)) | (with_reducible refine Blk.alloc ?_) | (refine Blk.ext ?_ (by with_reducible assumption))))
  have him4 : IMap w4 bo n f := him2.ext hb4
  have hext4 : Ext w w4 := (by repeat (first | ((with_reducible refine Ext.set1 ?_ ?_); (first | (focus (simp; done)) | (focus (simp; omega)) | (focus omega))) | (with_reducible refine Ext.alloc ?_ _) | (with_reducible exact Ext.refl _) | (refine Ext.trans ?_ (by with_reducible assumption))))
  clear a20 a21 a22 a23
  go_frame
  go_loopw [6] (fun _ wr => ∃ (lf : Int → Bool) (cnt : Nat) (fo : FM), (RMap wr b w2.heap.size n f lf cnt ∧ IMap wr bo n fo ∧ Blk wr w.heap.size (.cells #[.int .i64 S, .int .i64 W, .int .i64 L, .map (some b)] 28) ∧
      Blk wr (w.heap.size + 1) (.cells #[.int .i64 0, .int .i64 0, .int .i64 0, .map none] 28) ∧ Ext w wr) ∧ Hid (Mid f (mUp W M f) lf fo))
    (fun _ wr => wr.rangeLeft b w2.heap.size)
  case atStart => exact ⟨_, _, f, ⟨hrm4, him4, k1, k2, hext4⟩, Mid.start fun y e => mUp_none e⟩
  case round =>
    clear k1 k2 him4 hext4 hrm4 hb4 hs4 hw4
    obtain ⟨lf, cnt, fo, ⟨hrm, him, k1, k2, hext⟩, HM⟩ := hrel
    have hl1 := k1.lt
    have hl2 := k2.lt
    go_wp2_with (at_next; refine wpList_next_im _ rfl _ rfl b w2.heap.size n f lf cnt rfl hrm ?_ ?_)
    · intro hdone
      have hwb := him.lt
      obtain ⟨c0, c1, c2, c3⟩ := k1.c4
      obtain ⟨e0, e1, e2, e3⟩ := k2.c4
      obtain ⟨f0, f1, f2, f3⟩ := k2.f4
      go_wp2
      refine bodyPost_ret (v := .agg #[.int .i64 S, .int .i64 W, .int .i64 L, .map (some bo)]) ?_ rfl ⟨bo, ⟨rfl, by omega⟩, ?_, ?_⟩
      · simp [results, Try.results46, go_sem, e0, e1, e2, e3]
      · have himf : IMap wr bo n (mUp W M f) := him.congr (HM.out.done hdone)
        clear him
        exact (by (repeat (first | ((with_reducible refine IMap.set1 ?_ ?_); (focus omega)) | (with_reducible refine IMap.alloc ?_ _))); with_reducible assumption)
      · exact (by repeat (first | ((with_reducible refine Ext.set1 ?_ ?_); (first | (focus (simp; done)) | (focus (simp; omega)) | (focus omega))) | (with_reducible refine Ext.alloc ?_ _) | (with_reducible exact Ext.refl _) | (refine Ext.trans ?_ (by with_reducible assumption))))
    · intro y c w5 cnt5 hy hc hly hfy hrm5 hlt5 hg5 hs5 hen
      have FY := Lib.hid hfy
      have LY := Lib.hid hly
      clear hly hfy
      obtain ⟨hy0, hc0, hcW⟩ := HFIT.out y c FY.out
      have him5 := him.grown hg5 (by simp; omega)
      have k15 := k1.grown hg5 (by simp; omega)
      have k25 := k2.grown hg5 (by simp; omega)
      have hext5 : Ext w w5 := hext.grown hg5 (fun k e => by cases e; omega)
      have HLE := Lib.hid hrm.left_eq
      clear him k1 k2 hext hrm
      have hwb := him5.lt
      obtain ⟨c0, c1, c2, c3⟩ := k15.c4
      cases hmv : M y c with
      | false =>
        have HG : Hid (mUp W M f y = f y) := (mUp_keep FY.out hmv).trans FY.out.symm
        go_wp2_with (go_at_call 47; refine Calls.mono (hM _ y c hext5 FY.out) ?_; rintro e w6 ⟨rfl, hb6⟩; rw [hmv]; have hz6 := hb6.size; have him6 := him5.ext hb6; have hrm6 := hrm5.same (hb6.block hrm5.owns.lt) (hb6.block hrm5.lt); have k16 := k15.ext hb6; have k26 := k25.ext hb6; have hext6 := hext5.trans hb6)
        go_roundw
        case rel => exact ⟨_, cnt5, fo, ⟨hrm6, him6, k16, k26, hext6⟩, HM.out.keep HG.out⟩
        case measure => rw [hrm6.left_eq, HLE.out]; exact hlt5
      | true =>
        by_cases hcw : c + 1 < W
        · have HG : Hid (mUp W M f y = some (c + 1)) := mUp_up FY.out hmv hcw
          have hold : Hid ((fo y).isSome = true) := by show (fo y).isSome = true; rw [HM.out y, LY.out]; simp [FY.out]
          go_wp2_with (first
            | (go_at_call 47; refine Calls.mono (hM _ y c hext5 FY.out) ?_; rintro e w6 ⟨rfl, hb6⟩; rw [hmv]; have hz6 := hb6.size; have him6 := him5.ext hb6; have hrm6 := hrm5.same (hb6.block hrm5.owns.lt) (hb6.block hrm5.lt); have k16 := k15.ext hb6; have k26 := k25.ext hb6; have hext6 := hext5.trans hb6; obtain ⟨u0, u1, u2, u3⟩ := k16.c4)
            | (at_mapUpdate; refine wpList_store_old _ rfl _ _ _ rfl bo n fo rfl him6 (by unfold maxLen; omega) y (c + 1) rfl rfl hy (I64.of (by omega) (by omega)) hold.out ?_; intro w7 him7 hg7; have hz7 := hg7.size; have hrm7 := hrm6.grown hg7 (by simp; omega) (by simp; omega); have k17 := k16.grown hg7 (by simp; omega); have k27 := k26.grown hg7 (by simp; omega); have hext7 : Ext w w7 := hext6.grown hg7 (fun k e => by cases e; omega); go_frame))
          go_roundw
          case rel => exact ⟨_, cnt5, _, ⟨hrm7, him7, k17, k27, hext7⟩, HM.out.put HG.out⟩
          case measure => rw [hrm7.left_eq, HLE.out]; exact hlt5
        · have HG : Hid (mUp W M f y = none) := mUp_out FY.out hmv hcw
          go_wp2_with (first
            | (go_at_call 47; refine Calls.mono (hM _ y c hext5 FY.out) ?_; rintro e w6 ⟨rfl, hb6⟩; rw [hmv]; have hz6 := hb6.size; have him6 := him5.ext hb6; have hrm6 := hrm5.same (hb6.block hrm5.owns.lt) (hb6.block hrm5.lt); have k16 := k15.ext hb6; have k26 := k25.ext hb6; have hext6 := hext5.trans hb6; obtain ⟨u0, u1, u2, u3⟩ := k16.c4)
            | (at_delete; refine wpList_delete_im _ rfl _ _ rfl bo n _ rfl him6 y rfl hy ?_; intro w7 him7 hg7; have hz7 := hg7.size; have hrm7 := hrm6.grown hg7 (by simp; omega) (by simp; omega); have k17 := k16.grown hg7 (by simp; omega); have k27 := k26.grown hg7 (by simp; omega); have hext7 : Ext w w7 := hext6.grown hg7 (fun k e => by cases e; omega); go_frame))
          go_roundw
          case rel => exact ⟨_, cnt5, _, ⟨hrm7, him7, k17, k27, hext7⟩, HM.out.cut0 HG.out⟩
          case measure => rw [hrm7.left_eq, HLE.out]; exact hlt5

set_option maxHeartbeats 400000 in
theorem older_acc_nil (S W L : Int) (n : Nat) (f : FM) (w : World) (hf : ∀ y, f y = none) (hn : n ≤ 1000000) (bl bs bt bq : Nat) :
    Calls Try.prog 46 #[.agg #[.int .i64 S, .int .i64 W, .int .i64 L, .map none], .func (.func 47) #[] #[.pointer (some ⟨bl, 0, none⟩), .pointer (some ⟨bs, 0, none⟩), .pointer (some ⟨bt, 0, none⟩), .pointer (some ⟨bq, 0, none⟩)]] w fun e w' => ∃ b', (e = .returned (.agg #[.int .i64 S, .int .i64 W, .int .i64 L, .map (some b')]) ∧ w.heap.size ≤ b') ∧ IMap w' b' n f ∧ Ext w w' := by
  have HF := Lib.hid hf; clear hf
  have hrg := fun w => run_range_nilMap (P := Try.prog) w 26 _ _ Try.underlying26
  have hnx := fun w ty => run_next_nilMap (P := Try.prog) w ty 0 0 #[]
  go_enter Try.func46, Try.ntmps46
  go_wp2_with (go_at_call 54; refine Calls.mono (must_copied S W L none n f _ (.inl ⟨rfl, HF.out⟩) hn) ?_; rintro e w2 ⟨bo, ⟨rfl, hbo⟩, him2, hb2⟩; simp at hbo; have hz2 := hb2.size; simp at hz2; have q2 : w.heap.size < w2.heap.size := (by omega); have r2 : w.heap.size + 1 < w2.heap.size := (by omega); obtain ⟨a20, a21, a22, a23⟩ := Blk.c4 (w := w2) (B := w.heap.size) (by repeat (first | (with_reducible assumption) | ((with_reducible refine Blk.new ?_); (first | (focus rfl) | (focus (simp; done)) | (focus omega))) | ((with_reducible refine Blk.set1 ?_ ?_); (focus omega)) | (with_reducible refine Blk.alloc ?_) | (refine Blk.ext ?_ (by with_reducible assumption)))))
  have k2 : Blk w2 (w.heap.size + 1) (.cells #[.int .i64 0, .int .i64 0, .int .i64 0, .map none] 28) := (by repeat (first | (with_reducible assumption) | ((with_reducible refine Blk.new ?_); (first | (focus rfl) | (focus (simp; done)) | (focus omega))) | ((with_reducible refine Blk.set1 ?_ ?_); (focus omega)) | (with_reducible refine Blk.alloc ?_) | (refine Blk.ext ?_ (by with_reducible assumption))))
  obtain ⟨e0, e1, e2, e3⟩ := k2.c4
  obtain ⟨f0, f1, f2, f3⟩ := k2.f4
  refine wp_loop_rounds 1 ?_
  rw [rounds_succ]
  go_wp2
  refine bodyPost_ret (v := .agg #[.int .i64 S, .int .i64 W, .int .i64 L, .map (some bo)]) ?_ rfl ⟨bo, ⟨rfl, by omega⟩, ?_, ?_⟩
  · simp [results, Try.results46, go_sem, e0, e1, e2, e3, r2]
  · exact (by (repeat (first | ((with_reducible refine IMap.set1 ?_ ?_); (focus omega)) | (with_reducible refine IMap.alloc ?_ _))); with_reducible assumption)
  · exact (by repeat (first | ((with_reducible refine Ext.set1 ?_ ?_); (first | (focus (simp; done)) | (focus (simp; omega)) | (focus omega))) | (with_reducible refine Ext.alloc ?_ _) | (with_reducible exact Ext.refl _) | (refine Ext.trans ?_ (by with_reducible assumption))))

/-- (must.State).older. -/
theorem older_acc (S W L : Int) (p : Option Nat) (n : Nat) (f : FM) (w : World) (h : MB w W n f p) (hn : n ≤ 1000000) (hw8 : W ≤ 8) (bl bs bt bq : Nat) (M : Int → Int → Bool)
    (hM : ∀ wr y c, Ext w wr → f y = some c → Calls Try.prog 47 #[.int .i64 y, .int .i64 c, .pointer (some ⟨bl, 0, none⟩), .pointer (some ⟨bs, 0, none⟩), .pointer (some ⟨bt, 0, none⟩), .pointer (some ⟨bq, 0, none⟩)] wr fun e w' => e = .returned (.bool (M y c)) ∧ Ext wr w') :
    Calls Try.prog 46 #[.agg #[.int .i64 S, .int .i64 W, .int .i64 L, .map p], .func (.func 47) #[] #[.pointer (some ⟨bl, 0, none⟩), .pointer (some ⟨bs, 0, none⟩), .pointer (some ⟨bt, 0, none⟩), .pointer (some ⟨bq, 0, none⟩)]] w fun e w' => ∃ b', (e = .returned (.agg #[.int .i64 S, .int .i64 W, .int .i64 L, .map (some b')]) ∧ w.heap.size ≤ b') ∧ IMap w' b' n (mUp W M f) ∧ Ext w w' := by
  obtain ⟨h, hfit⟩ := h
  rcases h with ⟨rfl, h⟩ | ⟨b, rfl, h⟩
  · exact (older_acc_nil S W L n f w h hn bl bs bt bq).mono fun e w' ⟨b, h1, h2, h3⟩ => ⟨b, h1, h2.congr fun y => (h y).trans (mUp_noF h y).symm, h3⟩
  · exact older_acc_some S W L b n f w h hn hfit hw8 bl bs bt bq M hM

set_option maxHeartbeats 1000000 in
theorem older_rng_some (S W L : Int) (b n : Nat) (f : FM) (w : World) (h : IMap w b n f) (hn : n ≤ 1000000) (hfit : Fit W f) (hw8 : W ≤ 8) (bl bs bt : Nat) (M : Int → Int → Bool)
    (hM : ∀ wr y c, Ext w wr → f y = some c → Calls Try.prog 51 #[.int .i64 y, .int .i64 c, .pointer (some ⟨bl, 0, none⟩), .pointer (some ⟨bs, 0, none⟩), .pointer (some ⟨bt, 0, none⟩)] wr fun e w' => e = .returned (.bool (M y c)) ∧ Ext wr w') :
    Calls Try.prog 46 #[.agg #[.int .i64 S, .int .i64 W, .int .i64 L, .map (some b)], .func (.func 51) #[] #[.pointer (some ⟨bl, 0, none⟩), .pointer (some ⟨bs, 0, none⟩), .pointer (some ⟨bt, 0, none⟩)]] w fun e w' => ∃ b', (e = .returned (.agg #[.int .i64 S, .int .i64 W, .int .i64 L, .map (some b')]) ∧ w.heap.size ≤ b') ∧ IMap w' b' n (mUp W M f) ∧ Ext w w' := by
  have HFIT := Lib.hid hfit; clear hfit
  have hb0 := h.lt
  go_enter Try.func46, Try.ntmps46
  go_wp2_with (first
    | (go_at_call 54; refine Calls.mono (must_copied S W L (some b) n f _ (.inr ⟨b, rfl, h.ext (by repeat (first | ((with_reducible refine Ext.set1 ?_ ?_); (first | (focus (simp; done)) | (focus (simp; omega)) | (focus omega))) | (with_reducible refine Ext.alloc ?_ _) | (with_reducible exact Ext.refl _) | (refine Ext.trans ?_ (by with_reducible assumption))))⟩) hn) ?_; rintro e w2 ⟨bo, ⟨rfl, hbo⟩, him2, hb2⟩; simp at hbo; have hz2 := hb2.size; simp at hz2; have q2 : w.heap.size < w2.heap.size := (by omega); have r2 : w.heap.size + 1 < w2.heap.size := (by omega)
       obtain ⟨a20, a21, a22, a23⟩ := Blk.c4 (w := w2) (B := w.heap.size) (by repeat (first | (with_reducible assumption) | ((with_reducible refine Blk.new ?_); (first | (focus rfl) | (focus (simp; done)) | (focus omega))) | ((with_reducible refine Blk.set1 ?_ ?_); (focus omega)) | (with_reducible refine Blk.alloc ?_) | (refine Blk.ext ?_ (by with_reducible assumption)))))
    | (at_range; refine wpList_range_im _ rfl _ rfl w2.heap.size rfl b n f rfl (h.ext (by repeat (first | ((with_reducible refine Ext.set1 ?_ ?_); (first | (focus (simp; done)) | (focus (simp; omega)) | (focus omega))) | (with_reducible refine Ext.alloc ?_ _) | (with_reducible exact Ext.refl _) | (refine Ext.trans ?_ (by with_reducible assumption))))) ?_; intro w4 cnt4 hrm4 hb4 hs4 hcn4))
  have hbo2 := him2.lt
  have hw4 := hb4.size
  have k1 : Blk w4 w.heap.size (.cells #[.int .i64 S, .int .i64 W, .int .i64 L, .map (some b)] 28) := (by repeat (first | (with_reducible assumption) | ((with_reducible refine Blk.new ?_); (first | (focus rfl) | (focus (simp; done)) | (focus omega))) | ((with_reducible refine Blk.set1 ?_ ?_); (focus omega)) | (with_reducible refine Blk.alloc ?_) | (refine Blk.ext ?_ (by with_reducible assumption))))
  have k2 : Blk w4 (w.heap.size + 1) (.cells #[.int .i64 0, .int .i64 0, .int .i64 0, .map none] 28) := (by repeat (first | (with_reducible assumption) | ((with_reducible refine Blk.new ?_); (first | (focus rfl) | (focus (simp; done)) | (focus omega))) | ((with_reducible refine Blk.set1 ?_ ?_); (focus omega)) | (with_reducible refine Blk.alloc ?_) | (refine Blk.ext ?_ (by with_reducible assumption))))
  have him4 : IMap w4 bo n f := him2.ext hb4
  have hext4 : Ext w w4 := (by repeat (first | ((with_reducible refine Ext.set1 ?_ ?_); (first | (focus (simp; done)) | (focus (simp; omega)) | (focus omega))) | (with_reducible refine Ext.alloc ?_ _) | (with_reducible exact Ext.refl _) | (refine Ext.trans ?_ (by with_reducible assumption))))
  clear a20 a21 a22 a23
  go_frame
  go_loopw [6] (fun _ wr => ∃ (lf : Int → Bool) (cnt : Nat) (fo : FM), (RMap wr b w2.heap.size n f lf cnt ∧ IMap wr bo n fo ∧ Blk wr w.heap.size (.cells #[.int .i64 S, .int .i64 W, .int .i64 L, .map (some b)] 28) ∧
      Blk wr (w.heap.size + 1) (.cells #[.int .i64 0, .int .i64 0, .int .i64 0, .map none] 28) ∧ Ext w wr) ∧ Hid (Mid f (mUp W M f) lf fo))
    (fun _ wr => wr.rangeLeft b w2.heap.size)
  case atStart => exact ⟨_, _, f, ⟨hrm4, him4, k1, k2, hext4⟩, Mid.start fun y e => mUp_none e⟩
  case round =>
    clear k1 k2 him4 hext4 hrm4 hb4 hs4 hw4
    obtain ⟨lf, cnt, fo, ⟨hrm, him, k1, k2, hext⟩, HM⟩ := hrel
    have hl1 := k1.lt
    have hl2 := k2.lt
    go_wp2_with (at_next; refine wpList_next_im _ rfl _ rfl b w2.heap.size n f lf cnt rfl hrm ?_ ?_)
    · intro hdone
      have hwb := him.lt
      obtain ⟨c0, c1, c2, c3⟩ := k1.c4
      obtain ⟨e0, e1, e2, e3⟩ := k2.c4
      obtain ⟨f0, f1, f2, f3⟩ := k2.f4
      go_wp2
      refine bodyPost_ret (v := .agg #[.int .i64 S, .int .i64 W, .int .i64 L, .map (some bo)]) ?_ rfl ⟨bo, ⟨rfl, by omega⟩, ?_, ?_⟩
      · simp [results, Try.results46, go_sem, e0, e1, e2, e3]
      · have himf : IMap wr bo n (mUp W M f) := him.congr (HM.out.done hdone)
        clear him
        exact (by (repeat (first | ((with_reducible refine IMap.set1 ?_ ?_); (focus omega)) | (with_reducible refine IMap.alloc ?_ _))); with_reducible assumption)
      · exact (by repeat (first | ((with_reducible refine Ext.set1 ?_ ?_); (first | (focus (simp; done)) | (focus (simp; omega)) | (focus omega))) | (with_reducible refine Ext.alloc ?_ _) | (with_reducible exact Ext.refl _) | (refine Ext.trans ?_ (by with_reducible assumption))))
    · intro y c w5 cnt5 hy hc hly hfy hrm5 hlt5 hg5 hs5 hen
      have FY := Lib.hid hfy
      have LY := Lib.hid hly
      clear hly hfy
      obtain ⟨hy0, hc0, hcW⟩ := HFIT.out y c FY.out
      have him5 := him.grown hg5 (by simp; omega)
      have k15 := k1.grown hg5 (by simp; omega)
      have k25 := k2.grown hg5 (by simp; omega)
      have hext5 : Ext w w5 := hext.grown hg5 (fun k e => by cases e; omega)
      have HLE := Lib.hid hrm.left_eq
      clear him k1 k2 hext hrm
      have hwb := him5.lt
      obtain ⟨c0, c1, c2, c3⟩ := k15.c4
      cases hmv : M y c with
      | false =>
        have HG : Hid (mUp W M f y = f y) := (mUp_keep FY.out hmv).trans FY.out.symm
        go_wp2_with (go_at_call 51; refine Calls.mono (hM _ y c hext5 FY.out) ?_; rintro e w6 ⟨rfl, hb6⟩; rw [hmv]; have hz6 := hb6.size; have him6 := him5.ext hb6; have hrm6 := hrm5.same (hb6.block hrm5.owns.lt) (hb6.block hrm5.lt); have k16 := k15.ext hb6; have k26 := k25.ext hb6; have hext6 := hext5.trans hb6)
        go_roundw
        case rel => exact ⟨_, cnt5, fo, ⟨hrm6, him6, k16, k26, hext6⟩, HM.out.keep HG.out⟩
        case measure => rw [hrm6.left_eq, HLE.out]; exact hlt5
      | true =>
        by_cases hcw : c + 1 < W
        · have HG : Hid (mUp W M f y = some (c + 1)) := mUp_up FY.out hmv hcw
          have hold : Hid ((fo y).isSome = true) := by show (fo y).isSome = true; rw [HM.out y, LY.out]; simp [FY.out]
          go_wp2_with (first
            | (go_at_call 51; refine Calls.mono (hM _ y c hext5 FY.out) ?_; rintro e w6 ⟨rfl, hb6⟩; rw [hmv]; have hz6 := hb6.size; have him6 := him5.ext hb6; have hrm6 := hrm5.same (hb6.block hrm5.owns.lt) (hb6.block hrm5.lt); have k16 := k15.ext hb6; have k26 := k25.ext hb6; have hext6 := hext5.trans hb6; obtain ⟨u0, u1, u2, u3⟩ := k16.c4)
            | (at_mapUpdate; refine wpList_store_old _ rfl _ _ _ rfl bo n fo rfl him6 (by unfold maxLen; omega) y (c + 1) rfl rfl hy (I64.of (by omega) (by omega)) hold.out ?_; intro w7 him7 hg7; have hz7 := hg7.size; have hrm7 := hrm6.grown hg7 (by simp; omega) (by simp; omega); have k17 := k16.grown hg7 (by simp; omega); have k27 := k26.grown hg7 (by simp; omega); have hext7 : Ext w w7 := hext6.grown hg7 (fun k e => by cases e; omega); go_frame))
          go_roundw
          case rel => exact ⟨_, cnt5, _, ⟨hrm7, him7, k17, k27, hext7⟩, HM.out.put HG.out⟩
          case measure => rw [hrm7.left_eq, HLE.out]; exact hlt5
        · have HG : Hid (mUp W M f y = none) := mUp_out FY.out hmv hcw
          go_wp2_with (first
            | (go_at_call 51; refine Calls.mono (hM _ y c hext5 FY.out) ?_; rintro e w6 ⟨rfl, hb6⟩; rw [hmv]; have hz6 := hb6.size; have him6 := him5.ext hb6; have hrm6 := hrm5.same (hb6.block hrm5.owns.lt) (hb6.block hrm5.lt); have k16 := k15.ext hb6; have k26 := k25.ext hb6; have hext6 := hext5.trans hb6; obtain ⟨u0, u1, u2, u3⟩ := k16.c4)
            | (at_delete; refine wpList_delete_im _ rfl _ _ rfl bo n _ rfl him6 y rfl hy ?_; intro w7 him7 hg7; have hz7 := hg7.size; have hrm7 := hrm6.grown hg7 (by simp; omega) (by simp; omega); have k17 := k16.grown hg7 (by simp; omega); have k27 := k26.grown hg7 (by simp; omega); have hext7 : Ext w w7 := hext6.grown hg7 (fun k e => by cases e; omega); go_frame))
          go_roundw
          case rel => exact ⟨_, cnt5, _, ⟨hrm7, him7, k17, k27, hext7⟩, HM.out.cut0 HG.out⟩
          case measure => rw [hrm7.left_eq, HLE.out]; exact hlt5

set_option maxHeartbeats 400000 in
theorem older_rng_nil (S W L : Int) (n : Nat) (f : FM) (w : World) (hf : ∀ y, f y = none) (hn : n ≤ 1000000) (bl bs bt : Nat) :
    Calls Try.prog 46 #[.agg #[.int .i64 S, .int .i64 W, .int .i64 L, .map none], .func (.func 51) #[] #[.pointer (some ⟨bl, 0, none⟩), .pointer (some ⟨bs, 0, none⟩), .pointer (some ⟨bt, 0, none⟩)]] w fun e w' => ∃ b', (e = .returned (.agg #[.int .i64 S, .int .i64 W, .int .i64 L, .map (some b')]) ∧ w.heap.size ≤ b') ∧ IMap w' b' n f ∧ Ext w w' := by
  have HF := Lib.hid hf; clear hf
  have hrg := fun w => run_range_nilMap (P := Try.prog) w 26 _ _ Try.underlying26
  have hnx := fun w ty => run_next_nilMap (P := Try.prog) w ty 0 0 #[]
  go_enter Try.func46, Try.ntmps46
  go_wp2_with (go_at_call 54; refine Calls.mono (must_copied S W L none n f _ (.inl ⟨rfl, HF.out⟩) hn) ?_; rintro e w2 ⟨bo, ⟨rfl, hbo⟩, him2, hb2⟩; simp at hbo; have hz2 := hb2.size; simp at hz2; have q2 : w.heap.size < w2.heap.size := (by omega); have r2 : w.heap.size + 1 < w2.heap.size := (by omega); obtain ⟨a20, a21, a22, a23⟩ := Blk.c4 (w := w2) (B := w.heap.size) (by repeat (first | (with_reducible assumption) | ((with_reducible refine Blk.new ?_); (first | (focus rfl) | (focus (simp; done)) | (focus omega))) | ((with_reducible refine Blk.set1 ?_ ?_); (focus omega)) | (with_reducible refine Blk.alloc ?_) | (refine Blk.ext ?_ (by with_reducible assumption)))))
  have k2 : Blk w2 (w.heap.size + 1) (.cells #[.int .i64 0, .int .i64 0, .int .i64 0, .map none] 28) := (by repeat (first | (with_reducible assumption) | ((with_reducible refine Blk.new ?_); (first | (focus rfl) | (focus (simp; done)) | (focus omega))) | ((with_reducible refine Blk.set1 ?_ ?_); (focus omega)) | (with_reducible refine Blk.alloc ?_) | (refine Blk.ext ?_ (by with_reducible assumption))))
  obtain ⟨e0, e1, e2, e3⟩ := k2.c4
  obtain ⟨f0, f1, f2, f3⟩ := k2.f4
  refine wp_loop_rounds 1 ?_
  rw [rounds_succ]
  go_wp2
  refine bodyPost_ret (v := .agg #[.int .i64 S, .int .i64 W, .int .i64 L, .map (some bo)]) ?_ rfl ⟨bo, ⟨rfl, by omega⟩, ?_, ?_⟩
  · simp [results, Try.results46, go_sem, e0, e1, e2, e3, r2]
  · exact (by (repeat (first | ((with_reducible refine IMap.set1 ?_ ?_); (focus omega)) | (with_reducible refine IMap.alloc ?_ _))); with_reducible assumption)
  · exact (by repeat (first | ((with_reducible refine Ext.set1 ?_ ?_); (first | (focus (simp; done)) | (focus (simp; omega)) | (focus omega))) | (with_reducible refine Ext.alloc ?_ _) | (with_reducible exact Ext.refl _) | (refine Ext.trans ?_ (by with_reducible assumption))))

/-- (must.State).older. -/
theorem older_rng (S W L : Int) (p : Option Nat) (n : Nat) (f : FM) (w : World) (h : MB w W n f p) (hn : n ≤ 1000000) (hw8 : W ≤ 8) (bl bs bt : Nat) (M : Int → Int → Bool)
    (hM : ∀ wr y c, Ext w wr → f y = some c → Calls Try.prog 51 #[.int .i64 y, .int .i64 c, .pointer (some ⟨bl, 0, none⟩), .pointer (some ⟨bs, 0, none⟩), .pointer (some ⟨bt, 0, none⟩)] wr fun e w' => e = .returned (.bool (M y c)) ∧ Ext wr w') :
    Calls Try.prog 46 #[.agg #[.int .i64 S, .int .i64 W, .int .i64 L, .map p], .func (.func 51) #[] #[.pointer (some ⟨bl, 0, none⟩), .pointer (some ⟨bs, 0, none⟩), .pointer (some ⟨bt, 0, none⟩)]] w fun e w' => ∃ b', (e = .returned (.agg #[.int .i64 S, .int .i64 W, .int .i64 L, .map (some b')]) ∧ w.heap.size ≤ b') ∧ IMap w' b' n (mUp W M f) ∧ Ext w w' := by
  obtain ⟨h, hfit⟩ := h
  rcases h with ⟨rfl, h⟩ | ⟨b, rfl, h⟩
  · exact (older_rng_nil S W L n f w h hn bl bs bt).mono fun e w' ⟨b, h1, h2, h3⟩ => ⟨b, h1, h2.congr fun y => (h y).trans (mUp_noF h y).symm, h3⟩
  · exact older_rng_some S W L b n f w h hn hfit hw8 bl bs bt M hM
end Go.Proofs.Ytaekkfgggmighaa
