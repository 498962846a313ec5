/- The contract of (may.State).Access. -/
import Derived.Test.YtjckghdgogkeaaaZSo2
import Derived.Maps.RangeWalk
import Derived.Test.YtjckghdgogkeaaaZSo1
namespace Go.Proofs.Ytjckghdgogkeaaa
open Go.RowKit Go.Maps
set_option linter.unusedVariables false

set_option maxHeartbeats 1000000 in
theorem may_access_some {S W L : Int} (g : Geo S W L) (x : Int) (hx : 0 ≤ x) (hx2 : x ≤ 1000000) (b n : Nat) (f : FM) (w : World) (h : IMap w b n f) (hn : n ≤ 1000000) (hfit : Fit W f) (hh : Int) (hfx : f x = some hh) :
    Calls Try.prog 32 #[.agg #[.int .i64 S, .int .i64 W, .int .i64 L, .bool false, .map (some b)], .int .i64 x] w fun e w' => ∃ b', (e = .returned (.agg #[.int .i64 S, .int .i64 W, .int .i64 L, .bool false, .map (some b')]) ∧ w.heap.size ≤ b') ∧ IMap w' b' (n + 1) (mayAcc S W f x) ∧ Ext w w' := by
  have hw1 := g.w1
  have hw8 := g.w8
  have wx : I64 x := I64.of (by omega) (by omega)
  have HF := Lib.hid hfx; clear hfx
  have HFIT := Lib.hid hfit; clear hfit
  have hb0 := h.lt
  go_enter Try.func32, Try.ntmps32
  go_wp2_with (first
    | (go_at_call 30; refine (valid_yes g _).mono ?_; rintro e w1 ⟨rfl, hb1⟩; have hz1 := hb1.size; simp at hz1; have q1 : w.heap.size < w1.heap.size := (by omega); have r1 : w.heap.size + 1 < w1.heap.size := (by omega)
       obtain ⟨a10, a11, a12, a13, a14⟩ := Blk.c5 (w := w1) (B := w.heap.size) (by repeat (first | (with_reducible assumption) | ((with_reducible refine Blk.new ?_); (first | (focus rfl) | (focus (simp; done)) | (focus omega))) | ((with_reducible refine Blk.set1 ?_ ?_); (focus omega)) | (with_reducible refine Blk.alloc ?_) | (refine Blk.ext ?_ (by with_reducible assumption)))))
    | (go_at_call 36; refine Calls.mono (may_copied S W L (some b) n f _ (.inr ⟨b, rfl, h.ext (by repeat (first | ((with_reducible refine Ext.set1 ?_ ?_); (first | (focus (simp; done)) | (focus (simp; omega)) | (focus omega))) | (with_reducible refine Ext.alloc ?_ _) | (with_reducible exact Ext.refl _) | (refine Ext.trans ?_ (by with_reducible assumption))))⟩)) ?_; rintro e w2 ⟨bo, ⟨rfl, hbo⟩, him2, hb2⟩; have hz2 := hb2.size; have q2 : w.heap.size < w2.heap.size := (by omega); have r2 : w.heap.size + 1 < w2.heap.size := (by omega)
       obtain ⟨a20, a21, a22, a23, a24⟩ := Blk.c5 (w := w2) (B := w.heap.size) (by repeat (first | (with_reducible assumption) | ((with_reducible refine Blk.new ?_); (first | (focus rfl) | (focus (simp; done)) | (focus omega))) | ((with_reducible refine Blk.set1 ?_ ?_); (focus omega)) | (with_reducible refine Blk.alloc ?_) | (refine Blk.ext ?_ (by with_reducible assumption)))))
    | (at_lookup; refine wpList_look_some _ rfl _ _ rfl (some b) n f rfl (.inr ⟨b, rfl, h.ext (by repeat (first | ((with_reducible refine Ext.set1 ?_ ?_); (first | (focus (simp; done)) | (focus (simp; omega)) | (focus omega))) | (with_reducible refine Ext.alloc ?_ _) | (with_reducible exact Ext.refl _) | (refine Ext.trans ?_ (by with_reducible assumption))))⟩) x rfl wx hh HF.out ?_)
    | (go_at_call 46; refine (set_yes g x hx _).mono ?_; rintro e w3 ⟨rfl, hb3⟩; have hz3 := hb3.size; simp at hz3; have q3 : w.heap.size < w3.heap.size := (by omega); have r3 : w.heap.size + 1 < w3.heap.size := (by omega); have s3 : w2.heap.size < w3.heap.size := (by omega)
       obtain ⟨a30, a31, a32, a33, a34⟩ := Blk.c5 (w := w3) (B := w.heap.size) (by repeat (first | (with_reducible assumption) | ((with_reducible refine Blk.new ?_); (first | (focus rfl) | (focus (simp; done)) | (focus omega))) | ((with_reducible refine Blk.set1 ?_ ?_); (focus omega)) | (with_reducible refine Blk.alloc ?_) | (refine Blk.ext ?_ (by with_reducible assumption)))))
    | (at_range; refine wpList_range_im _ rfl _ rfl w3.heap.size rfl b n f rfl (h.ext (by repeat (first | ((with_reducible refine Ext.set1 ?_ ?_); (first | (focus (simp; done)) | (focus (simp; omega)) | (focus omega))) | (with_reducible refine Ext.alloc ?_ _) | (with_reducible exact Ext.refl _) | (refine Ext.trans ?_ (by with_reducible assumption))))) ?_; intro w4 cnt4 hrm4 hb4 hs4 hcn4))
  have hbo2 := him2.lt
  have hw4 := hb4.size
  have k1 : Blk w4 w.heap.size (.cells #[.int .i64 S, .int .i64 W, .int .i64 L, .bool false, .map (some b)] 31) := (by repeat (first | (with_reducible assumption) | ((with_reducible refine Blk.new ?_); (first | (focus rfl) | (focus (simp; done)) | (focus omega))) | ((with_reducible refine Blk.set1 ?_ ?_); (focus omega)) | (with_reducible refine Blk.alloc ?_) | (refine Blk.ext ?_ (by with_reducible assumption))))
  have k2 : Blk w4 (w.heap.size + 1) (.cells #[.int .i64 0, .int .i64 0, .int .i64 0, .bool false, .map none] 31) := (by repeat (first | (with_reducible assumption) | ((with_reducible refine Blk.new ?_); (first | (focus rfl) | (focus (simp; done)) | (focus omega))) | ((with_reducible refine Blk.set1 ?_ ?_); (focus omega)) | (with_reducible refine Blk.alloc ?_) | (refine Blk.ext ?_ (by with_reducible assumption))))
  have k3 : Blk w4 w2.heap.size (.cells #[.int .i64 S, .int .i64 W, .int .i64 L, .bool false, .map (some bo)] 31) := (by repeat (first | (with_reducible assumption) | ((with_reducible refine Blk.new ?_); (first | (focus rfl) | (focus (simp; done)) | (focus omega))) | ((with_reducible refine Blk.set1 ?_ ?_); (focus omega)) | (with_reducible refine Blk.alloc ?_) | (refine Blk.ext ?_ (by with_reducible assumption))))
  have him4 : IMap w4 bo n f := (him2.alloc _).ext (hb3.trans hb4)
  have hext4 : Ext w w4 := (by repeat (first | ((with_reducible refine Ext.set1 ?_ ?_); (first | (focus (simp; done)) | (focus (simp; omega)) | (focus omega))) | (with_reducible refine Ext.alloc ?_ _) | (with_reducible exact Ext.refl _) | (refine Ext.trans ?_ (by with_reducible assumption))))
  clear a10 a11 a12 a13 a14 a20 a21 a22 a23 a24 a30 a31 a32 a33 a34
  go_frame
  go_loopw [9] (fun _ wr => ∃ (lf : Int → Bool) (cnt : Nat) (fo : FM), (RMap wr b w3.heap.size n f lf cnt ∧ IMap wr bo n fo ∧ Blk wr w.heap.size (.cells #[.int .i64 S, .int .i64 W, .int .i64 L, .bool false, .map (some b)] 31) ∧
      Blk wr (w.heap.size + 1) (.cells #[.int .i64 0, .int .i64 0, .int .i64 0, .bool false, .map none] 31) ∧ Blk wr w2.heap.size (.cells #[.int .i64 S, .int .i64 W, .int .i64 L, .bool false, .map (some bo)] 31) ∧ Ext w wr) ∧ Hid (Mid f (aged S W hh x f) lf fo))
    (fun _ wr => wr.rangeLeft b w3.heap.size)
  case atStart => exact ⟨_, _, f, ⟨hrm4, him4, k1, k2, k3, hext4⟩, Mid.start fun y e => aged_none e⟩
  case round =>
    clear k1 k2 k3 him4 hext4 hrm4 hb4 hs4 hw4
    obtain ⟨lf, cnt, fo, ⟨hrm, him, k1, k2, k3, hext⟩, HM⟩ := hrel
    have hl1 := k1.lt
    have hl2 := k2.lt
    have hl3 := k3.lt
    go_wp2_with (at_next; refine wpList_next_im _ rfl _ rfl b w3.heap.size n f lf cnt rfl hrm ?_ ?_)
    · intro hdone
      have hwb := him.lt
      obtain ⟨c0, c1, c2, c3, c4⟩ := k3.c5
      go_wp2_with (at_mapUpdate; refine wpList_store_im _ rfl _ _ _ rfl bo n fo rfl him (by unfold maxLen; omega) x 0 rfl rfl wx (I64.of (by omega) (by omega)) ?_; intro w6 him6 hg6; have hz6 := hg6.size; obtain ⟨d0, d1, d2, d3, d4⟩ := (k3.grown hg6 (by simp; omega)).c5; have k26 := k2.grown hg6 (by simp; omega); obtain ⟨e0, e1, e2, e3, e4⟩ := k26.c5; obtain ⟨f0, f1, f2, f3, f4⟩ := k26.f5)
      have hext6 : Ext w w6 := hext.grown hg6 (fun k e => by cases e; omega)
      refine bodyPost_ret (v := .agg #[.int .i64 S, .int .i64 W, .int .i64 L, .bool false, .map (some bo)]) ?_ rfl ⟨bo, ⟨rfl, by omega⟩, ?_, ?_⟩
      · simp [results, Try.results32, go_sem, e0, e1, e2, e3, e4]
      · have himf : IMap w6 bo (n + 1) (mayAcc S W f x) := him6.congr (fun y => by unfold mayAcc; rw [HF.out]; unfold put; rw [HM.out.done hdone y]; rfl)
        clear him6
        exact (by (repeat (first | ((with_reducible refine IMap.set1 ?_ ?_); (focus omega)) | (with_reducible refine IMap.alloc ?_ _))); with_reducible assumption)
      · exact (by repeat (first | ((with_reducible refine Ext.set1 ?_ ?_); (first | (focus (simp; done)) | (focus (simp; omega)) | (focus omega))) | (with_reducible refine Ext.alloc ?_ _) | (with_reducible exact Ext.refl _) | (refine Ext.trans ?_ (by with_reducible assumption))))
    · intro y c w5 cnt5 hy hc hly hfy hrm5 hlt5 hg5 hs5 hen
      have FY := Lib.hid hfy
      have LY := Lib.hid hly
      clear hly hfy
      obtain ⟨hy0, hc0, hcW⟩ := HFIT.out y c FY.out
      have him5 := him.grown hg5 (by simp; omega)
      have k15 := k1.grown hg5 (by simp; omega)
      have k25 := k2.grown hg5 (by simp; omega)
      have k35 := k3.grown hg5 (by simp; omega)
      have hext5 : Ext w w5 := hext.grown hg5 (fun k e => by cases e; omega)
      have HLE := Lib.hid hrm.left_eq
      clear him k1 k2 k3 hext hrm
      have hwb := him5.lt
      obtain ⟨c0, c1, c2, c3, c4⟩ := k15.c5
      obtain ⟨d0, d1, d2, d3, d4⟩ := k35.c5
      by_cases hyx : y = x
      · -- the line itself
        have HG : Hid (aged S W hh x f y = f y) := (aged_keep FY.out (.inl hyx)).trans FY.out.symm
        have hyx2 : (y == x) = true := by simpa using hyx
        clear hyx
        go_wp2
        go_roundw
        case rel => exact ⟨_, cnt5, fo, ⟨hrm5, him5, k15, k25, k35, hext5⟩, HM.out.keep HG.out⟩
        case measure => rw [hrm5.left_eq, HLE.out]; exact hlt5
      · have hyx2 : (y == x) = false := by simpa using hyx
        by_cases hs : y % S = x % S
        · have hs2 : (y % S != x % S) = false := by simpa using hs
          have HS := Lib.hid hs
          clear hs
          by_cases hch : c ≤ hh
          · have hch2 : ¬ hh < c := by omega
            by_cases hcw : c + 1 < W
            · have HG : Hid (aged S W hh x f y = some (c + 1)) := aged_up FY.out hyx HS.out hch hcw
              have hold : Hid ((fo y).isSome = true) := by show (fo y).isSome = true; rw [HM.out y, LY.out]; simp [FY.out]
              clear hyx
              go_wp2_with (first
                | (go_at_call 46; refine (set_yes g y hy0 _).mono ?_; rintro e w6 ⟨rfl, hb6⟩; have hz6 := hb6.size; have him6 := him5.ext hb6; have hrm6 := hrm5.same (hb6.block hrm5.owns.lt) (hb6.block hrm5.lt); have k16 := k15.ext hb6; have k26 := k25.ext hb6; have k36 := k35.ext hb6; have hext6 := hext5.trans hb6; obtain ⟨u0, u1, u2, u3, u4⟩ := k16.c5; obtain ⟨v0, v1, v2, v3, v4⟩ := k36.c5)
                | (at_mapUpdate; refine wpList_store_old _ rfl _ _ _ rfl bo n fo rfl him6 (by unfold maxLen; omega) y (c + 1) rfl rfl hy (I64.of (by omega) (by omega)) hold.out ?_; intro w7 him7 hg7; have hz7 := hg7.size; have hrm7 := hrm6.grown hg7 (by simp; omega) (by simp; omega); have k17 := k16.grown hg7 (by simp; omega); have k27 := k26.grown hg7 (by simp; omega); have k37 := k36.grown hg7 (by simp; omega); have hext7 : Ext w w7 := hext6.grown hg7 (fun k e => by cases e; omega); obtain ⟨x0, x1, x2, x3, x4⟩ := k17.c5))
              go_roundw
              case rel => exact ⟨_, cnt5, _, ⟨hrm7, him7, k17, k27, k37, hext7⟩, HM.out.put HG.out⟩
              case measure => rw [hrm7.left_eq, HLE.out]; exact hlt5
            · have HG : Hid (aged S W hh x f y = none) := aged_out FY.out hyx HS.out hch (by omega)
              have hold : Hid ((fo y).isSome = true) := by show (fo y).isSome = true; rw [HM.out y, LY.out]; simp [FY.out]
              clear hyx
              go_wp2_with (first
                | (go_at_call 46; refine (set_yes g y hy0 _).mono ?_; rintro e w6 ⟨rfl, hb6⟩; have hz6 := hb6.size; have him6 := him5.ext hb6; have hrm6 := hrm5.same (hb6.block hrm5.owns.lt) (hb6.block hrm5.lt); have k16 := k15.ext hb6; have k26 := k25.ext hb6; have k36 := k35.ext hb6; have hext6 := hext5.trans hb6; obtain ⟨u0, u1, u2, u3, u4⟩ := k16.c5; obtain ⟨v0, v1, v2, v3, v4⟩ := k36.c5)
                | (at_mapUpdate; refine wpList_store_old _ rfl _ _ _ rfl bo n fo rfl him6 (by unfold maxLen; omega) y (c + 1) rfl rfl hy (I64.of (by omega) (by omega)) hold.out ?_; intro w7 him7 hg7; have hz7 := hg7.size; have hrm7 := hrm6.grown hg7 (by simp; omega) (by simp; omega); have k17 := k16.grown hg7 (by simp; omega); have k27 := k26.grown hg7 (by simp; omega); have k37 := k36.grown hg7 (by simp; omega); have hext7 : Ext w w7 := hext6.grown hg7 (fun k e => by cases e; omega); obtain ⟨x0, x1, x2, x3, x4⟩ := k17.c5; obtain ⟨y0, y1, y2, y3, y4⟩ := k37.c5)
                | (at_delete; refine wpList_delete_im _ rfl _ _ rfl bo n _ rfl him7 y rfl hy ?_; intro w8 him8 hg8; have hz8 := hg8.size; have hrm8 := hrm7.grown hg8 (by simp; omega) (by simp; omega); have k18 := k17.grown hg8 (by simp; omega); have k28 := k27.grown hg8 (by simp; omega); have k38 := k37.grown hg8 (by simp; omega); have hext8 : Ext w w8 := hext7.grown hg8 (fun k e => by cases e; omega); go_frame))
              go_roundw
              case rel => exact ⟨_, cnt5, _, ⟨hrm8, him8, k18, k28, k38, hext8⟩, HM.out.cut HG.out⟩
              case measure => rw [hrm8.left_eq, HLE.out]; exact hlt5
          · have hch2 : hh < c := by omega
            have HG : Hid (aged S W hh x f y = f y) := (aged_keep FY.out (.inr (.inr hch2))).trans FY.out.symm
            clear hyx
            go_wp2_with (go_at_call 46; refine (set_yes g y hy0 _).mono ?_; rintro e w6 ⟨rfl, hb6⟩; have hz6 := hb6.size; have him6 := him5.ext hb6; have hrm6 := hrm5.same (hb6.block hrm5.owns.lt) (hb6.block hrm5.lt); have k16 := k15.ext hb6; have k26 := k25.ext hb6; have k36 := k35.ext hb6; have hext6 := hext5.trans hb6; obtain ⟨u0, u1, u2, u3, u4⟩ := k16.c5; obtain ⟨v0, v1, v2, v3, v4⟩ := k36.c5)
            go_roundw
            case rel => exact ⟨_, cnt5, fo, ⟨hrm6, him6, k16, k26, k36, hext6⟩, HM.out.keep HG.out⟩
            case measure => rw [hrm6.left_eq, HLE.out]; exact hlt5
        · have hs2 : (y % S != x % S) = true := by simpa using hs
          have HG : Hid (aged S W hh x f y = f y) := (aged_keep FY.out (.inr (.inl hs))).trans FY.out.symm
          clear hyx hs
          go_wp2_with (go_at_call 46; refine (set_yes g y hy0 _).mono ?_; rintro e w6 ⟨rfl, hb6⟩; have hz6 := hb6.size; have him6 := him5.ext hb6; have hrm6 := hrm5.same (hb6.block hrm5.owns.lt) (hb6.block hrm5.lt); have k16 := k15.ext hb6; have k26 := k25.ext hb6; have k36 := k35.ext hb6; have hext6 := hext5.trans hb6; obtain ⟨u0, u1, u2, u3, u4⟩ := k16.c5; obtain ⟨v0, v1, v2, v3, v4⟩ := k36.c5)
          go_roundw
          case rel => exact ⟨_, cnt5, fo, ⟨hrm6, him6, k16, k26, k36, hext6⟩, HM.out.keep HG.out⟩
          case measure => rw [hrm6.left_eq, HLE.out]; exact hlt5
set_option maxHeartbeats 1000000 in
theorem may_access_none {S W L : Int} (g : Geo S W L) (x : Int) (hx : 0 ≤ x) (hx2 : x ≤ 1000000) (b n : Nat) (f : FM) (w : World) (h : IMap w b n f) (hn : n ≤ 1000000) (hfit : Fit W f) (hfx : f x = none) :
    Calls Try.prog 32 #[.agg #[.int .i64 S, .int .i64 W, .int .i64 L, .bool false, .map (some b)], .int .i64 x] w fun e w' => ∃ b', (e = .returned (.agg #[.int .i64 S, .int .i64 W, .int .i64 L, .bool false, .map (some b')]) ∧ w.heap.size ≤ b') ∧ IMap w' b' (n + 1) (mayAcc S W f x) ∧ Ext w w' := by
  have hw1 := g.w1
  have hw8 := g.w8
  have wx : I64 x := I64.of (by omega) (by omega)
  have HF := Lib.hid hfx; clear hfx
  have HFIT := Lib.hid hfit; clear hfit
  have hb0 := h.lt
  go_enter Try.func32, Try.ntmps32
  go_wp2_with (first
    | (go_at_call 30; refine (valid_yes g _).mono ?_; rintro e w1 ⟨rfl, hb1⟩; have hz1 := hb1.size; simp at hz1; have q1 : w.heap.size < w1.heap.size := (by omega); have r1 : w.heap.size + 1 < w1.heap.size := (by omega)
       obtain ⟨a10, a11, a12, a13, a14⟩ := Blk.c5 (w := w1) (B := w.heap.size) (by repeat (first | (with_reducible assumption) | ((with_reducible refine Blk.new ?_); (first | (focus rfl) | (focus (simp; done)) | (focus omega))) | ((with_reducible refine Blk.set1 ?_ ?_); (focus omega)) | (with_reducible refine Blk.alloc ?_) | (refine Blk.ext ?_ (by with_reducible assumption)))))
    | (go_at_call 36; refine Calls.mono (may_copied S W L (some b) n f _ (.inr ⟨b, rfl, h.ext (by repeat (first | ((with_reducible refine Ext.set1 ?_ ?_); (first | (focus (simp; done)) | (focus (simp; omega)) | (focus omega))) | (with_reducible refine Ext.alloc ?_ _) | (with_reducible exact Ext.refl _) | (refine Ext.trans ?_ (by with_reducible assumption))))⟩)) ?_; rintro e w2 ⟨bo, ⟨rfl, hbo⟩, him2, hb2⟩; have hz2 := hb2.size; have q2 : w.heap.size < w2.heap.size := (by omega); have r2 : w.heap.size + 1 < w2.heap.size := (by omega)
       obtain ⟨a20, a21, a22, a23, a24⟩ := Blk.c5 (w := w2) (B := w.heap.size) (by repeat (first | (with_reducible assumption) | ((with_reducible refine Blk.new ?_); (first | (focus rfl) | (focus (simp; done)) | (focus omega))) | ((with_reducible refine Blk.set1 ?_ ?_); (focus omega)) | (with_reducible refine Blk.alloc ?_) | (refine Blk.ext ?_ (by with_reducible assumption)))))
    | (at_lookup; refine wpList_look_none _ rfl _ _ rfl (some b) n f rfl (.inr ⟨b, rfl, h.ext (by repeat (first | ((with_reducible refine Ext.set1 ?_ ?_); (first | (focus (simp; done)) | (focus (simp; omega)) | (focus omega))) | (with_reducible refine Ext.alloc ?_ _) | (with_reducible exact Ext.refl _) | (refine Ext.trans ?_ (by with_reducible assumption))))⟩) x rfl wx HF.out ?_)
    | (go_at_call 46; refine (set_yes g x hx _).mono ?_; rintro e w3 ⟨rfl, hb3⟩; have hz3 := hb3.size; simp at hz3; have q3 : w.heap.size < w3.heap.size := (by omega); have r3 : w.heap.size + 1 < w3.heap.size := (by omega); have s3 : w2.heap.size < w3.heap.size := (by omega)
       obtain ⟨a30, a31, a32, a33, a34⟩ := Blk.c5 (w := w3) (B := w.heap.size) (by repeat (first | (with_reducible assumption) | ((with_reducible refine Blk.new ?_); (first | (focus rfl) | (focus (simp; done)) | (focus omega))) | ((with_reducible refine Blk.set1 ?_ ?_); (focus omega)) | (with_reducible refine Blk.alloc ?_) | (refine Blk.ext ?_ (by with_reducible assumption)))))
    | (at_range; refine wpList_range_im _ rfl _ rfl w3.heap.size rfl b n f rfl (h.ext (by repeat (first | ((with_reducible refine Ext.set1 ?_ ?_); (first | (focus (simp; done)) | (focus (simp; omega)) | (focus omega))) | (with_reducible refine Ext.alloc ?_ _) | (with_reducible exact Ext.refl _) | (refine Ext.trans ?_ (by with_reducible assumption))))) ?_; intro w4 cnt4 hrm4 hb4 hs4 hcn4))
  have hbo2 := him2.lt
  have hw4 := hb4.size
  have k1 : Blk w4 w.heap.size (.cells #[.int .i64 S, .int .i64 W, .int .i64 L, .bool false, .map (some b)] 31) := (by repeat (first | (with_reducible assumption) | ((with_reducible refine Blk.new ?_); (first | (focus rfl) | (focus (simp; done)) | (focus omega))) | ((with_reducible refine Blk.set1 ?_ ?_); (focus omega)) | (with_reducible refine Blk.alloc ?_) | (refine Blk.ext ?_ (by with_reducible assumption))))
  have k2 : Blk w4 (w.heap.size + 1) (.cells #[.int .i64 0, .int .i64 0, .int .i64 0, .bool false, .map none] 31) := (by repeat (first | (with_reducible assumption) | ((with_reducible refine Blk.new ?_); (first | (focus rfl) | (focus (simp; done)) | (focus omega))) | ((with_reducible refine Blk.set1 ?_ ?_); (focus omega)) | (with_reducible refine Blk.alloc ?_) | (refine Blk.ext ?_ (by with_reducible assumption))))
  have k3 : Blk w4 w2.heap.size (.cells #[.int .i64 S, .int .i64 W, .int .i64 L, .bool false, .map (some bo)] 31) := (by repeat (first | (with_reducible assumption) | ((with_reducible refine Blk.new ?_); (first | (focus rfl) | (focus (simp; done)) | (focus omega))) | ((with_reducible refine Blk.set1 ?_ ?_); (focus omega)) | (with_reducible refine Blk.alloc ?_) | (refine Blk.ext ?_ (by with_reducible assumption))))
  have him4 : IMap w4 bo n f := (him2.alloc _).ext (hb3.trans hb4)
  have hext4 : Ext w w4 := (by repeat (first | ((with_reducible refine Ext.set1 ?_ ?_); (first | (focus (simp; done)) | (focus (simp; omega)) | (focus omega))) | (with_reducible refine Ext.alloc ?_ _) | (with_reducible exact Ext.refl _) | (refine Ext.trans ?_ (by with_reducible assumption))))
  clear a10 a11 a12 a13 a14 a20 a21 a22 a23 a24 a30 a31 a32 a33 a34
  go_frame
  go_loopw [9] (fun _ wr => ∃ (lf : Int → Bool) (cnt : Nat) (fo : FM), (RMap wr b w3.heap.size n f lf cnt ∧ IMap wr bo n fo ∧ Blk wr w.heap.size (.cells #[.int .i64 S, .int .i64 W, .int .i64 L, .bool false, .map (some b)] 31) ∧
      Blk wr (w.heap.size + 1) (.cells #[.int .i64 0, .int .i64 0, .int .i64 0, .bool false, .map none] 31) ∧ Blk wr w2.heap.size (.cells #[.int .i64 S, .int .i64 W, .int .i64 L, .bool false, .map (some bo)] 31) ∧ Ext w wr) ∧ Hid (Mid f (aged S W W x f) lf fo))
    (fun _ wr => wr.rangeLeft b w3.heap.size)
  case atStart => exact ⟨_, _, f, ⟨hrm4, him4, k1, k2, k3, hext4⟩, Mid.start fun y e => aged_none e⟩
  case round =>
    clear k1 k2 k3 him4 hext4 hrm4 hb4 hs4 hw4
    obtain ⟨lf, cnt, fo, ⟨hrm, him, k1, k2, k3, hext⟩, HM⟩ := hrel
    have hl1 := k1.lt
    have hl2 := k2.lt
    have hl3 := k3.lt
    go_wp2_with (at_next; refine wpList_next_im _ rfl _ rfl b w3.heap.size n f lf cnt rfl hrm ?_ ?_)
    · intro hdone
      have hwb := him.lt
      obtain ⟨c0, c1, c2, c3, c4⟩ := k3.c5
      go_wp2_with (at_mapUpdate; refine wpList_store_im _ rfl _ _ _ rfl bo n fo rfl him (by unfold maxLen; omega) x 0 rfl rfl wx (I64.of (by omega) (by omega)) ?_; intro w6 him6 hg6; have hz6 := hg6.size; obtain ⟨d0, d1, d2, d3, d4⟩ := (k3.grown hg6 (by simp; omega)).c5; have k26 := k2.grown hg6 (by simp; omega); obtain ⟨e0, e1, e2, e3, e4⟩ := k26.c5; obtain ⟨f0, f1, f2, f3, f4⟩ := k26.f5)
      have hext6 : Ext w w6 := hext.grown hg6 (fun k e => by cases e; omega)
      refine bodyPost_ret (v := .agg #[.int .i64 S, .int .i64 W, .int .i64 L, .bool false, .map (some bo)]) ?_ rfl ⟨bo, ⟨rfl, by omega⟩, ?_, ?_⟩
      · simp [results, Try.results32, go_sem, e0, e1, e2, e3, e4]
      · have himf : IMap w6 bo (n + 1) (mayAcc S W f x) := him6.congr (fun y => by unfold mayAcc; rw [HF.out]; unfold put; rw [HM.out.done hdone y]; rfl)
        clear him6
        exact (by (repeat (first | ((with_reducible refine IMap.set1 ?_ ?_); (focus omega)) | (with_reducible refine IMap.alloc ?_ _))); with_reducible assumption)
      · exact (by repeat (first | ((with_reducible refine Ext.set1 ?_ ?_); (first | (focus (simp; done)) | (focus (simp; omega)) | (focus omega))) | (with_reducible refine Ext.alloc ?_ _) | (with_reducible exact Ext.refl _) | (refine Ext.trans ?_ (by with_reducible assumption))))
    · intro y c w5 cnt5 hy hc hly hfy hrm5 hlt5 hg5 hs5 hen
      have FY := Lib.hid hfy
      have LY := Lib.hid hly
      clear hly hfy
      obtain ⟨hy0, hc0, hcW⟩ := HFIT.out y c FY.out
      have him5 := him.grown hg5 (by simp; omega)
      have k15 := k1.grown hg5 (by simp; omega)
      have k25 := k2.grown hg5 (by simp; omega)
      have k35 := k3.grown hg5 (by simp; omega)
      have hext5 : Ext w w5 := hext.grown hg5 (fun k e => by cases e; omega)
      have HLE := Lib.hid hrm.left_eq
      clear him k1 k2 k3 hext hrm
      have hwb := him5.lt
      obtain ⟨c0, c1, c2, c3, c4⟩ := k15.c5
      obtain ⟨d0, d1, d2, d3, d4⟩ := k35.c5
      by_cases hyx : y = x
      · -- the line itself
        have HG : Hid (aged S W W x f y = f y) := (aged_keep FY.out (.inl hyx)).trans FY.out.symm
        have hyx2 : (y == x) = true := by simpa using hyx
        clear hyx
        go_wp2
        go_roundw
        case rel => exact ⟨_, cnt5, fo, ⟨hrm5, him5, k15, k25, k35, hext5⟩, HM.out.keep HG.out⟩
        case measure => rw [hrm5.left_eq, HLE.out]; exact hlt5
      · have hyx2 : (y == x) = false := by simpa using hyx
        by_cases hs : y % S = x % S
        · have hs2 : (y % S != x % S) = false := by simpa using hs
          have HS := Lib.hid hs
          clear hs
          by_cases hch : c ≤ W
          · have hch2 : ¬ W < c := by omega
            by_cases hcw : c + 1 < W
            · have HG : Hid (aged S W W x f y = some (c + 1)) := aged_up FY.out hyx HS.out hch hcw
              have hold : Hid ((fo y).isSome = true) := by show (fo y).isSome = true; rw [HM.out y, LY.out]; simp [FY.out]
              clear hyx
              go_wp2_with (first
                | (go_at_call 46; refine (set_yes g y hy0 _).mono ?_; rintro e w6 ⟨rfl, hb6⟩; have hz6 := hb6.size; have him6 := him5.ext hb6; have hrm6 := hrm5.same (hb6.block hrm5.owns.lt) (hb6.block hrm5.lt); have k16 := k15.ext hb6; have k26 := k25.ext hb6; have k36 := k35.ext hb6; have hext6 := hext5.trans hb6; obtain ⟨u0, u1, u2, u3, u4⟩ := k16.c5; obtain ⟨v0, v1, v2, v3, v4⟩ := k36.c5)
                | (at_mapUpdate; refine wpList_store_old _ rfl _ _ _ rfl bo n fo rfl him6 (by unfold maxLen; omega) y (c + 1) rfl rfl hy (I64.of (by omega) (by omega)) hold.out ?_; intro w7 him7 hg7; have hz7 := hg7.size; have hrm7 := hrm6.grown hg7 (by simp; omega) (by simp; omega); have k17 := k16.grown hg7 (by simp; omega); have k27 := k26.grown hg7 (by simp; omega); have k37 := k36.grown hg7 (by simp; omega); have hext7 : Ext w w7 := hext6.grown hg7 (fun k e => by cases e; omega); obtain ⟨x0, x1, x2, x3, x4⟩ := k17.c5))
              go_roundw
              case rel => exact ⟨_, cnt5, _, ⟨hrm7, him7, k17, k27, k37, hext7⟩, HM.out.put HG.out⟩
              case measure => rw [hrm7.left_eq, HLE.out]; exact hlt5
            · have HG : Hid (aged S W W x f y = none) := aged_out FY.out hyx HS.out hch (by omega)
              have hold : Hid ((fo y).isSome = true) := by show (fo y).isSome = true; rw [HM.out y, LY.out]; simp [FY.out]
              clear hyx
              go_wp2_with (first
                | (go_at_call 46; refine (set_yes g y hy0 _).mono ?_; rintro e w6 ⟨rfl, hb6⟩; have hz6 := hb6.size; have him6 := him5.ext hb6; have hrm6 := hrm5.same (hb6.block hrm5.owns.lt) (hb6.block hrm5.lt); have k16 := k15.ext hb6; have k26 := k25.ext hb6; have k36 := k35.ext hb6; have hext6 := hext5.trans hb6; obtain ⟨u0, u1, u2, u3, u4⟩ := k16.c5; obtain ⟨v0, v1, v2, v3, v4⟩ := k36.c5)
                | (at_mapUpdate; refine wpList_store_old _ rfl _ _ _ rfl bo n fo rfl him6 (by unfold maxLen; omega) y (c + 1) rfl rfl hy (I64.of (by omega) (by omega)) hold.out ?_; intro w7 him7 hg7; have hz7 := hg7.size; have hrm7 := hrm6.grown hg7 (by simp; omega) (by simp; omega); have k17 := k16.grown hg7 (by simp; omega); have k27 := k26.grown hg7 (by simp; omega); have k37 := k36.grown hg7 (by simp; omega); have hext7 : Ext w w7 := hext6.grown hg7 (fun k e => by cases e; omega); obtain ⟨x0, x1, x2, x3, x4⟩ := k17.c5; obtain ⟨y0, y1, y2, y3, y4⟩ := k37.c5)
                | (at_delete; refine wpList_delete_im _ rfl _ _ rfl bo n _ rfl him7 y rfl hy ?_; intro w8 him8 hg8; have hz8 := hg8.size; have hrm8 := hrm7.grown hg8 (by simp; omega) (by simp; omega); have k18 := k17.grown hg8 (by simp; omega); have k28 := k27.grown hg8 (by simp; omega); have k38 := k37.grown hg8 (by simp; omega); have hext8 : Ext w w8 := hext7.grown hg8 (fun k e => by cases e; omega); go_frame))
              go_roundw
              case rel => exact ⟨_, cnt5, _, ⟨hrm8, him8, k18, k28, k38, hext8⟩, HM.out.cut HG.out⟩
              case measure => rw [hrm8.left_eq, HLE.out]; exact hlt5
          · exact absurd hch (by omega)
        · have hs2 : (y % S != x % S) = true := by simpa using hs
          have HG : Hid (aged S W W x f y = f y) := (aged_keep FY.out (.inr (.inl hs))).trans FY.out.symm
          clear hyx hs
          go_wp2_with (go_at_call 46; refine (set_yes g y hy0 _).mono ?_; rintro e w6 ⟨rfl, hb6⟩; have hz6 := hb6.size; have him6 := him5.ext hb6; have hrm6 := hrm5.same (hb6.block hrm5.owns.lt) (hb6.block hrm5.lt); have k16 := k15.ext hb6; have k26 := k25.ext hb6; have k36 := k35.ext hb6; have hext6 := hext5.trans hb6; obtain ⟨u0, u1, u2, u3, u4⟩ := k16.c5; obtain ⟨v0, v1, v2, v3, v4⟩ := k36.c5)
          go_roundw
          case rel => exact ⟨_, cnt5, fo, ⟨hrm6, him6, k16, k26, k36, hext6⟩, HM.out.keep HG.out⟩
          case measure => rw [hrm6.left_eq, HLE.out]; exact hlt5
set_option maxHeartbeats 1000000 in
theorem may_access_nil {S W L : Int} (g : Geo S W L) (x : Int) (hx : 0 ≤ x) (hx2 : x ≤ 1000000) (n : Nat) (f : FM) (w : World) (hf : ∀ y, f y = none) (hn : n ≤ 1000000) :
    Calls Try.prog 32 #[.agg #[.int .i64 S, .int .i64 W, .int .i64 L, .bool false, .map none], .int .i64 x] w fun e w' => ∃ b', (e = .returned (.agg #[.int .i64 S, .int .i64 W, .int .i64 L, .bool false, .map (some b')]) ∧ w.heap.size ≤ b') ∧ IMap w' b' (n + 1) (mayAcc S W f x) ∧ Ext w w' := by
  have hw1 := g.w1
  have hw8 := g.w8
  have wx : I64 x := I64.of (by omega) (by omega)
  have HF := Lib.hid hf; clear hf
  have hrg := fun w => run_range_nilMap (P := Try.prog) w 29 _ _ Try.underlying29
  have hnx := fun w ty => run_next_nilMap (P := Try.prog) w ty 0 0 #[]
  go_enter Try.func32, Try.ntmps32
  go_wp2_with (first
    | (go_at_call 30; refine (valid_yes g _).mono ?_; rintro e w1 ⟨rfl, hb1⟩; have hz1 := hb1.size; simp at hz1; have q1 : w.heap.size < w1.heap.size := (by omega); have r1 : w.heap.size + 1 < w1.heap.size := (by omega)
       obtain ⟨a10, a11, a12, a13, a14⟩ := Blk.c5 (w := w1) (B := w.heap.size) (by repeat (first | (with_reducible assumption) | ((with_reducible refine Blk.new ?_); (first | (focus rfl) | (focus (simp; done)) | (focus omega))) | ((with_reducible refine Blk.set1 ?_ ?_); (focus omega)) | (with_reducible refine Blk.alloc ?_) | (refine Blk.ext ?_ (by with_reducible assumption)))))
    | (go_at_call 36; refine Calls.mono (may_copied S W L none n f _ (.inl ⟨rfl, HF.out⟩)) ?_; rintro e w2 ⟨bo, ⟨rfl, hbo⟩, him2, hb2⟩; have hz2 := hb2.size; have q2 : w.heap.size < w2.heap.size := (by omega); have r2 : w.heap.size + 1 < w2.heap.size := (by omega)
       obtain ⟨a20, a21, a22, a23, a24⟩ := Blk.c5 (w := w2) (B := w.heap.size) (by repeat (first | (with_reducible assumption) | ((with_reducible refine Blk.new ?_); (first | (focus rfl) | (focus (simp; done)) | (focus omega))) | ((with_reducible refine Blk.set1 ?_ ?_); (focus omega)) | (with_reducible refine Blk.alloc ?_) | (refine Blk.ext ?_ (by with_reducible assumption)))))
    | (at_lookup; refine wpList_look_none _ rfl _ _ rfl none n f rfl (.inl ⟨rfl, HF.out⟩) x rfl wx (HF.out x) ?_)
    | (go_at_call 46; refine (set_yes g x hx _).mono ?_; rintro e w3 ⟨rfl, hb3⟩; have hz3 := hb3.size; simp at hz3; have q3 : w.heap.size < w3.heap.size := (by omega); have r3 : w.heap.size + 1 < w3.heap.size := (by omega); have s3 : w2.heap.size < w3.heap.size := (by omega)
       obtain ⟨a30, a31, a32, a33, a34⟩ := Blk.c5 (w := w3) (B := w.heap.size) (by repeat (first | (with_reducible assumption) | ((with_reducible refine Blk.new ?_); (first | (focus rfl) | (focus (simp; done)) | (focus omega))) | ((with_reducible refine Blk.set1 ?_ ?_); (focus omega)) | (with_reducible refine Blk.alloc ?_) | (refine Blk.ext ?_ (by with_reducible assumption))))))
  have hbo2 := him2.lt
  have k2 : Blk w3 (w.heap.size + 1) (.cells #[.int .i64 0, .int .i64 0, .int .i64 0, .bool false, .map none] 31) := (by repeat (first | (with_reducible assumption) | ((with_reducible refine Blk.new ?_); (first | (focus rfl) | (focus (simp; done)) | (focus omega))) | ((with_reducible refine Blk.set1 ?_ ?_); (focus omega)) | (with_reducible refine Blk.alloc ?_) | (refine Blk.ext ?_ (by with_reducible assumption))))
  have k3 : Blk w3 w2.heap.size (.cells #[.int .i64 S, .int .i64 W, .int .i64 L, .bool false, .map (some bo)] 31) := (by repeat (first | (with_reducible assumption) | ((with_reducible refine Blk.new ?_); (first | (focus rfl) | (focus (simp; done)) | (focus omega))) | ((with_reducible refine Blk.set1 ?_ ?_); (focus omega)) | (with_reducible refine Blk.alloc ?_) | (refine Blk.ext ?_ (by with_reducible assumption))))
  have him3 : IMap w3 bo n f := (him2.alloc _).ext hb3
  have hext3 : Ext w w3 := (by repeat (first | ((with_reducible refine Ext.set1 ?_ ?_); (first | (focus (simp; done)) | (focus (simp; omega)) | (focus omega))) | (with_reducible refine Ext.alloc ?_ _) | (with_reducible exact Ext.refl _) | (refine Ext.trans ?_ (by with_reducible assumption))))
  clear a10 a11 a12 a13 a14 a20 a21 a22 a23 a24 a30 a31 a32 a33 a34 hb1 hb2 hb3
  obtain ⟨c0, c1, c2, c3, c4⟩ := k3.c5
  refine wp_loop_rounds 1 ?_
  rw [rounds_succ]
  go_wp2_with (at_mapUpdate; refine wpList_store_im _ rfl _ _ _ rfl bo n f rfl (him3.alloc _) (by unfold maxLen; omega) x 0 rfl rfl wx (I64.of (by omega) (by omega)) ?_; intro w6 him6 hg6; have hz6 := hg6.size; simp at hz6; obtain ⟨d0, d1, d2, d3, d4⟩ := ((k3.alloc (o' := .mapIter none 0 #[] 0)).grown hg6 (by simp; omega)).c5; have k26 := (k2.alloc (o' := .mapIter none 0 #[] 0)).grown hg6 (by simp; omega); obtain ⟨e0, e1, e2, e3, e4⟩ := k26.c5; obtain ⟨f0, f1, f2, f3, f4⟩ := k26.f5)
  have hext6 : Ext w w6 := (hext3.alloc _).grown hg6 (fun k e => by cases e; omega)
  refine bodyPost_ret (v := .agg #[.int .i64 S, .int .i64 W, .int .i64 L, .bool false, .map (some bo)]) ?_ rfl ⟨bo, ⟨rfl, by omega⟩, ?_, ?_⟩
  · simp [results, Try.results32, go_sem, e0, e1, e2, e3, e4]
  · have himf : IMap w6 bo (n + 1) (mayAcc S W f x) := him6.congr (fun y => by unfold mayAcc put; rw [aged_none (HF.out y), HF.out y])
    clear him6
    exact (by (repeat (first | ((with_reducible refine IMap.set1 ?_ ?_); (focus omega)) | (with_reducible refine IMap.alloc ?_ _))); with_reducible assumption)
  · exact (by repeat (first | ((with_reducible refine Ext.set1 ?_ ?_); (first | (focus (simp; done)) | (focus (simp; omega)) | (focus omega))) | (with_reducible refine Ext.alloc ?_ _) | (with_reducible exact Ext.refl _) | (refine Ext.trans ?_ (by with_reducible assumption))))

/-- (may.State).Access at a state that is known. -/
theorem may_access {S W L : Int} (g : Geo S W L) (x : Int) (hx : 0 ≤ x) (hx2 : x ≤ 1000000) (p : Option Nat) (n : Nat) (f : FM) (w : World) (h : IMapO w p n f) (hn : n ≤ 1000000) (hfit : Fit W f) :
    Calls Try.prog 32 #[.agg #[.int .i64 S, .int .i64 W, .int .i64 L, .bool false, .map p], .int .i64 x] w fun e w' => ∃ b', (e = .returned (.agg #[.int .i64 S, .int .i64 W, .int .i64 L, .bool false, .map (some b')]) ∧ w.heap.size ≤ b') ∧ IMap w' b' (n + 1) (mayAcc S W f x) ∧ Ext w w' := by
  rcases h with ⟨rfl, h⟩ | ⟨b, rfl, h⟩
  · exact may_access_nil g x hx hx2 n f w h hn
  · cases hf : f x with
    | none => exact may_access_none g x hx hx2 b n f w h hn hfit hf
    | some c => exact may_access_some g x hx hx2 b n f w h hn hfit c hf

set_option maxHeartbeats 400000 in
/-- .. at an unknown one: it stays. -/
theorem may_access_unknown (S W L x : Int) (p : Option Nat) (w : World) :
    Calls Try.prog 32 #[.agg #[.int .i64 S, .int .i64 W, .int .i64 L, .bool true, .map p], .int .i64 x] w fun e w' => e = .returned (.agg #[.int .i64 S, .int .i64 W, .int .i64 L, .bool true, .map p]) ∧ Ext w w' := by
  go_enter Try.func32, Try.ntmps32
  go_wp2
  refine bodyPost_ret (v := .agg #[.int .i64 S, .int .i64 W, .int .i64 L, .bool true, .map p]) ?_ rfl ⟨rfl, (by repeat (first | ((with_reducible refine Ext.set1 ?_ ?_); (first | (focus (simp; done)) | (focus (simp; omega)) | (focus omega))) | (with_reducible refine Ext.alloc ?_ _) | (with_reducible exact Ext.refl _) | (refine Ext.trans ?_ (by with_reducible assumption))))⟩
  simp [results, Try.results32, go_sem]
set_option maxHeartbeats 400000 in
/-- .. of a line that does not exist. -/
theorem may_access_neg (S W L x : Int) (p : Option Nat) (w : World) (hx : x < 0) :
    Calls Try.prog 32 #[.agg #[.int .i64 S, .int .i64 W, .int .i64 L, .bool false, .map p], .int .i64 x] w fun e w' => e = .returned (.agg #[.int .i64 S, .int .i64 W, .int .i64 L, .bool false, .map p]) ∧ Ext w w' := by
  go_enter Try.func32, Try.ntmps32
  go_wp2
  refine bodyPost_ret (v := .agg #[.int .i64 S, .int .i64 W, .int .i64 L, .bool false, .map p]) ?_ rfl ⟨rfl, (by repeat (first | ((with_reducible refine Ext.set1 ?_ ?_); (first | (focus (simp; done)) | (focus (simp; omega)) | (focus omega))) | (with_reducible refine Ext.alloc ?_ _) | (with_reducible exact Ext.refl _) | (refine Ext.trans ?_ (by with_reducible assumption))))⟩
  simp [results, Try.results32, go_sem]
end Go.Proofs.Ytjckghdgogkeaaa

namespace Go.Proofs.Ytjckghdgogkeaaa
open Go.RowKit Go.Maps
set_option linter.unusedVariables false

set_option maxHeartbeats 400000 in
theorem may_range_unknown_pos (S W L lo hi : Int) (p : Option Nat) (w : World) (hl : 0 ≤ lo) :
    Calls Try.prog 31 #[.agg #[.int .i64 S, .int .i64 W, .int .i64 L, .bool true, .map p], .int .i64 lo, .int .i64 hi] w fun e w' => e = .returned (.agg #[.int .i64 S, .int .i64 W, .int .i64 L, .bool true, .map p]) ∧ Ext w w' := by
  go_enter Try.func31, Try.ntmps31
  go_wp2
  refine bodyPost_ret (v := .agg #[.int .i64 S, .int .i64 W, .int .i64 L, .bool true, .map p]) ?_ rfl ⟨rfl, (by repeat (first | ((with_reducible refine Ext.set1 ?_ ?_); (first | (focus (simp; done)) | (focus (simp; omega)) | (focus omega))) | (with_reducible refine Ext.alloc ?_ _) | (with_reducible exact Ext.refl _) | (refine Ext.trans ?_ (by with_reducible assumption))))⟩
  simp [results, Try.results31, go_sem]

set_option maxHeartbeats 400000 in
theorem may_range_empty_pos (S W L lo hi : Int) (p : Option Nat) (w : World) (hl : 0 ≤ lo) (h : hi < lo) :
    Calls Try.prog 31 #[.agg #[.int .i64 S, .int .i64 W, .int .i64 L, .bool false, .map p], .int .i64 lo, .int .i64 hi] w fun e w' => e = .returned (.agg #[.int .i64 S, .int .i64 W, .int .i64 L, .bool false, .map p]) ∧ Ext w w' := by
  go_enter Try.func31, Try.ntmps31
  go_wp2
  refine bodyPost_ret (v := .agg #[.int .i64 S, .int .i64 W, .int .i64 L, .bool false, .map p]) ?_ rfl ⟨rfl, (by repeat (first | ((with_reducible refine Ext.set1 ?_ ?_); (first | (focus (simp; done)) | (focus (simp; omega)) | (focus omega))) | (with_reducible refine Ext.alloc ?_ _) | (with_reducible exact Ext.refl _) | (refine Ext.trans ?_ (by with_reducible assumption))))⟩
  simp [results, Try.results31, go_sem]

set_option maxHeartbeats 400000 in
theorem may_range_wide_pos {S W L : Int} (g : Geo S W L) (lo hi : Int) (p : Option Nat) (w : World) (hl : 0 ≤ lo) (h : lo + 64 ≤ hi) (hhi : hi ≤ 1000000) :
    Calls Try.prog 31 #[.agg #[.int .i64 S, .int .i64 W, .int .i64 L, .bool false, .map p], .int .i64 lo, .int .i64 hi] w fun e w' => e = .returned (.agg #[.int .i64 S, .int .i64 W, .int .i64 L, .bool true, .map none]) ∧ Ext w w' := by
  have ht : ((lo : Int) == hi) = false := by rw [beq_eq_false_iff_ne]; omega
  go_enter Try.func31, Try.ntmps31
  go_wp2_with (go_at_call 30; refine (valid_yes g _).mono ?_; rintro e w1 ⟨rfl, hb1⟩; have hz1 := hb1.size; simp at hz1; have q1 : w.heap.size < w1.heap.size := (by omega); have r1 : w.heap.size + 1 < w1.heap.size := (by omega); obtain ⟨a10, a11, a12, a13, a14⟩ := Blk.c5 (w := w1) (B := w.heap.size) (by repeat (first | (with_reducible assumption) | ((with_reducible refine Blk.new ?_); (first | (focus rfl) | (focus (simp; done)) | (focus omega))) | ((with_reducible refine Blk.set1 ?_ ?_); (focus omega)) | (with_reducible refine Blk.alloc ?_) | (refine Blk.ext ?_ (by with_reducible assumption)))); have kr : Blk w1 (w.heap.size + 1) (.cells #[.int .i64 0, .int .i64 0, .int .i64 0, .bool false, .map none] 31) := (by repeat (first | (with_reducible assumption) | ((with_reducible refine Blk.new ?_); (first | (focus rfl) | (focus (simp; done)) | (focus omega))) | ((with_reducible refine Blk.set1 ?_ ?_); (focus omega)) | (with_reducible refine Blk.alloc ?_) | (refine Blk.ext ?_ (by with_reducible assumption)))); obtain ⟨b10, b11, b12, b13, b14⟩ := kr.c5; obtain ⟨f10, f11, f12, f13, f14⟩ := kr.f5)
  refine bodyPost_ret (v := .agg #[.int .i64 S, .int .i64 W, .int .i64 L, .bool true, .map none]) ?_ rfl ⟨rfl, ?_⟩
  · simp [results, Try.results31, go_sem, b10, b11, b12, b13, b14]
  · exact (by repeat (first | ((with_reducible refine Ext.set1 ?_ ?_); (first | (focus (simp; done)) | (focus (simp; omega)) | (focus omega))) | (with_reducible refine Ext.alloc ?_ _) | (with_reducible exact Ext.refl _) | (refine Ext.trans ?_ (by with_reducible assumption))))

set_option maxHeartbeats 400000 in
theorem may_range_one_pos {S W L : Int} (g : Geo S W L) (lo hi : Int) (p : Option Nat) (n : Nat) (f : FM) (w : World) (hl : 0 ≤ lo) (hhi : hi = lo) (hh2 : hi ≤ 1000000) (h : IMapO w p n f) (hn : n ≤ 1000000) (hfit : Fit W f) :
    Calls Try.prog 31 #[.agg #[.int .i64 S, .int .i64 W, .int .i64 L, .bool false, .map p], .int .i64 lo, .int .i64 hi] w fun e w' => ∃ b', (e = .returned (.agg #[.int .i64 S, .int .i64 W, .int .i64 L, .bool false, .map (some b')]) ∧ w.heap.size ≤ b') ∧ IMap w' b' (n + 1) (mayAcc S W f hi) ∧ Ext w w' := by
  subst hhi
  have HFIT := Lib.hid hfit; clear hfit
  go_enter Try.func31, Try.ntmps31
  go_wp2_with (first
    | (go_at_call 30; refine (valid_yes g _).mono ?_; rintro e w1 ⟨rfl, hb1⟩; have hz1 := hb1.size; simp at hz1; have q1 : w.heap.size < w1.heap.size := (by omega); have r1 : w.heap.size + 1 < w1.heap.size := (by omega); obtain ⟨a10, a11, a12, a13, a14⟩ := Blk.c5 (w := w1) (B := w.heap.size) (by repeat (first | (with_reducible assumption) | ((with_reducible refine Blk.new ?_); (first | (focus rfl) | (focus (simp; done)) | (focus omega))) | ((with_reducible refine Blk.set1 ?_ ?_); (focus omega)) | (with_reducible refine Blk.alloc ?_) | (refine Blk.ext ?_ (by with_reducible assumption)))); have kr : Blk w1 (w.heap.size + 1) (.cells #[.int .i64 0, .int .i64 0, .int .i64 0, .bool false, .map none] 31) := (by repeat (first | (with_reducible assumption) | ((with_reducible refine Blk.new ?_); (first | (focus rfl) | (focus (simp; done)) | (focus omega))) | ((with_reducible refine Blk.set1 ?_ ?_); (focus omega)) | (with_reducible refine Blk.alloc ?_) | (refine Blk.ext ?_ (by with_reducible assumption)))); obtain ⟨b10, b11, b12, b13, b14⟩ := kr.c5; obtain ⟨f10, f11, f12, f13, f14⟩ := kr.f5)
    | (go_at_call 32; refine Calls.mono (may_access g hi (by omega) (by omega) p n f _ (h.ext (by repeat (first | ((with_reducible refine Ext.set1 ?_ ?_); (first | (focus (simp; done)) | (focus (simp; omega)) | (focus omega))) | (with_reducible refine Ext.alloc ?_ _) | (with_reducible exact Ext.refl _) | (refine Ext.trans ?_ (by with_reducible assumption))))) hn HFIT.out) ?_; rintro e w2 ⟨b2, ⟨rfl, hb2⟩, him2, hx2⟩; have hz2 := hx2.size; have kr2 : Blk w2 (w.heap.size + 1) (.cells #[.int .i64 0, .int .i64 0, .int .i64 0, .bool false, .map none] 31) := (by repeat (first | (with_reducible assumption) | ((with_reducible refine Blk.new ?_); (first | (focus rfl) | (focus (simp; done)) | (focus omega))) | ((with_reducible refine Blk.set1 ?_ ?_); (focus omega)) | (with_reducible refine Blk.alloc ?_) | (refine Blk.ext ?_ (by with_reducible assumption)))); obtain ⟨b20, b21, b22, b23, b24⟩ := kr2.c5; obtain ⟨f20, f21, f22, f23, f24⟩ := kr2.f5))
  refine bodyPost_ret (v := .agg #[.int .i64 S, .int .i64 W, .int .i64 L, .bool false, .map (some b2)]) ?_ rfl ⟨b2, ⟨rfl, by omega⟩, ?_, ?_⟩
  · simp [results, Try.results31, go_sem, b20, b21, b22, b23, b24]
  · exact (by (repeat (first | ((with_reducible refine IMap.set1 ?_ ?_); (focus omega)) | (with_reducible refine IMap.alloc ?_ _))); with_reducible assumption)
  · exact (by repeat (first | ((with_reducible refine Ext.set1 ?_ ?_); (first | (focus (simp; done)) | (focus (simp; omega)) | (focus omega))) | (with_reducible refine Ext.alloc ?_ _) | (with_reducible exact Ext.refl _) | (refine Ext.trans ?_ (by with_reducible assumption))))

set_option maxHeartbeats 1000000 in
theorem may_range_some_pos {S W L : Int} (g : Geo S W L) (lo hi : Int) (p : Option Nat) (n : Nat) (f : FM) (w : World) (hl : 0 ≤ lo) (hlh : lo < hi) (hh1 : hi < lo + 64) (hh2 : hi ≤ 1000000) (h : IMapO w p n f) (hn : n ≤ 1000000) :
    Calls Try.prog 31 #[.agg #[.int .i64 S, .int .i64 W, .int .i64 L, .bool false, .map p], .int .i64 lo, .int .i64 hi] w fun e w' => ∃ b', (e = .returned (.agg #[.int .i64 S, .int .i64 W, .int .i64 L, .bool false, .map (some b')]) ∧ w.heap.size ≤ b') ∧ IMap w' b' (n + 64) (puts f lo hi) ∧ Ext w w' := by
  have ht : ((lo : Int) == hi) = false := by rw [beq_eq_false_iff_ne]; omega
  go_enter Try.func31, Try.ntmps31
  go_wp2_with (first
    | (go_at_call 30; refine (valid_yes g _).mono ?_; rintro e w1 ⟨rfl, hb1⟩; have hz1 := hb1.size; simp at hz1; have q1 : w.heap.size < w1.heap.size := (by omega); have r1 : w.heap.size + 1 < w1.heap.size := (by omega); obtain ⟨a10, a11, a12, a13, a14⟩ := Blk.c5 (w := w1) (B := w.heap.size) (by repeat (first | (with_reducible assumption) | ((with_reducible refine Blk.new ?_); (first | (focus rfl) | (focus (simp; done)) | (focus omega))) | ((with_reducible refine Blk.set1 ?_ ?_); (focus omega)) | (with_reducible refine Blk.alloc ?_) | (refine Blk.ext ?_ (by with_reducible assumption)))); have kr : Blk w1 (w.heap.size + 1) (.cells #[.int .i64 0, .int .i64 0, .int .i64 0, .bool false, .map none] 31) := (by repeat (first | (with_reducible assumption) | ((with_reducible refine Blk.new ?_); (first | (focus rfl) | (focus (simp; done)) | (focus omega))) | ((with_reducible refine Blk.set1 ?_ ?_); (focus omega)) | (with_reducible refine Blk.alloc ?_) | (refine Blk.ext ?_ (by with_reducible assumption)))); obtain ⟨b10, b11, b12, b13, b14⟩ := kr.c5; obtain ⟨f10, f11, f12, f13, f14⟩ := kr.f5)
    | (go_at_call 36; refine Calls.mono (may_copied S W L p n f _ (h.ext (by repeat (first | ((with_reducible refine Ext.set1 ?_ ?_); (first | (focus (simp; done)) | (focus (simp; omega)) | (focus omega))) | (with_reducible refine Ext.alloc ?_ _) | (with_reducible exact Ext.refl _) | (refine Ext.trans ?_ (by with_reducible assumption)))))) ?_; rintro e w2 ⟨bo, ⟨rfl, hbo⟩, him2, hb2⟩; have hz2 := hb2.size; have q2 : w.heap.size < w2.heap.size := (by omega); have r2 : w.heap.size + 1 < w2.heap.size := (by omega)))
  have hbo2 := him2.lt
  have k2 : Blk (w2.alloc (.cells #[.int .i64 S, .int .i64 W, .int .i64 L, .bool false, .map (some bo)] 31)) (w.heap.size + 1) (.cells #[.int .i64 0, .int .i64 0, .int .i64 0, .bool false, .map none] 31) := (by repeat (first | (with_reducible assumption) | ((with_reducible refine Blk.new ?_); (first | (focus rfl) | (focus (simp; done)) | (focus omega))) | ((with_reducible refine Blk.set1 ?_ ?_); (focus omega)) | (with_reducible refine Blk.alloc ?_) | (refine Blk.ext ?_ (by with_reducible assumption))))
  have k3 : Blk (w2.alloc (.cells #[.int .i64 S, .int .i64 W, .int .i64 L, .bool false, .map (some bo)] 31)) w2.heap.size (.cells #[.int .i64 S, .int .i64 W, .int .i64 L, .bool false, .map (some bo)] 31) := (by repeat (first | (with_reducible assumption) | ((with_reducible refine Blk.new ?_); (first | (focus rfl) | (focus (simp; done)) | (focus omega))) | ((with_reducible refine Blk.set1 ?_ ?_); (focus omega)) | (with_reducible refine Blk.alloc ?_) | (refine Blk.ext ?_ (by with_reducible assumption))))
  have him3 := him2.alloc (.cells #[.int .i64 S, .int .i64 W, .int .i64 L, .bool false, .map (some bo)] 31)
  have hext3 : Ext w (w2.alloc (.cells #[.int .i64 S, .int .i64 W, .int .i64 L, .bool false, .map (some bo)] 31)) := (by repeat (first | ((with_reducible refine Ext.set1 ?_ ?_); (first | (focus (simp; done)) | (focus (simp; omega)) | (focus omega))) | (with_reducible refine Ext.alloc ?_ _) | (with_reducible exact Ext.refl _) | (refine Ext.trans ?_ (by with_reducible assumption))))
  go_loopw [8] (fun i wr => ∃ k : Nat, i = .int .i64 (lo + k) ∧ (lo + k ≤ hi + 1 ∧ IMap wr bo (n + k) (puts f lo (lo + k - 1)) ∧ Blk wr (w.heap.size + 1) (.cells #[.int .i64 0, .int .i64 0, .int .i64 0, .bool false, .map none] 31) ∧ Blk wr w2.heap.size (.cells #[.int .i64 S, .int .i64 W, .int .i64 L, .bool false, .map (some bo)] 31) ∧ Ext w wr))
    (fun i _ => (hi + 1 - Go.RowKit.intOf i).toNat)
  case atStart => exact ⟨0, by simp, by omega, by rw [show (lo + ((0 : Nat) : Int) - 1) = lo - 1 from by simp, puts_nil]; exact him3, k2, k3, hext3⟩
  case round =>
    clear k2 k3 him3 hext3
    obtain ⟨k, rfl, hk, him, k2, k3, hext⟩ := hrel
    have hl2 := k2.lt
    have hl3 := k3.lt
    have hwb := him.lt
    obtain ⟨c0, c1, c2, c3, c4⟩ := k3.c5
    by_cases hlt : lo + (k : Int) ≤ hi
    · go_wp2_with (at_mapUpdate; refine wpList_store_im _ rfl _ _ _ rfl bo (n + k) _ rfl him (by unfold maxLen; omega) (lo + k) 0 rfl rfl (I64.of (by omega) (by omega)) (I64.of (by omega) (by omega)) ?_; intro w6 him6 hg6; have hz6 := hg6.size; have k26 := k2.grown hg6 (by simp; omega); have k36 := k3.grown hg6 (by simp; omega); have hext6 : Ext w w6 := hext.grown hg6 (fun k e => by cases e; omega))
      go_roundw
      case rel =>
        refine ⟨k + 1, by go_num, by omega, ?_, k26, k36, hext6⟩
        have e := puts_snoc f lo (lo + k - 1) (by omega)
        have e2 : (lo + (k : Int) - 1 + 1) = lo + k := by omega
        rw [e2] at e
        have e3 : (lo + ((k + 1 : Nat) : Int) - 1) = lo + k := by omega
        rw [e3, e, ← Nat.add_assoc]
        exact him6
      case measure => simp [Go.RowKit.intOf]; omega
    · obtain ⟨e0, e1, e2, e3, e4⟩ := k2.c5
      obtain ⟨f0, f1, f2, f3, f4⟩ := k2.f5
      go_wp2
      refine bodyPost_ret (v := .agg #[.int .i64 S, .int .i64 W, .int .i64 L, .bool false, .map (some bo)]) ?_ rfl ⟨bo, ⟨rfl, by omega⟩, ?_, ?_⟩
      · simp [results, Try.results31, go_sem, e0, e1, e2, e3, e4]
      · have e : lo + (k : Int) - 1 = hi := by omega
        have himf : IMap wr bo (n + 64) (puts f lo hi) := by rw [e] at him; exact him.mono (by omega)
        clear him
        exact (by (repeat (first | ((with_reducible refine IMap.set1 ?_ ?_); (focus omega)) | (with_reducible refine IMap.alloc ?_ _))); with_reducible assumption)
      · exact (by repeat (first | ((with_reducible refine Ext.set1 ?_ ?_); (first | (focus (simp; done)) | (focus (simp; omega)) | (focus omega))) | (with_reducible refine Ext.alloc ?_ _) | (with_reducible exact Ext.refl _) | (refine Ext.trans ?_ (by with_reducible assumption))))

set_option maxHeartbeats 400000 in
theorem may_range_unknown_neg (S W L lo hi : Int) (p : Option Nat) (w : World) (hl : lo < 0) :
    Calls Try.prog 31 #[.agg #[.int .i64 S, .int .i64 W, .int .i64 L, .bool true, .map p], .int .i64 lo, .int .i64 hi] w fun e w' => e = .returned (.agg #[.int .i64 S, .int .i64 W, .int .i64 L, .bool true, .map p]) ∧ Ext w w' := by
  go_enter Try.func31, Try.ntmps31
  go_wp2
  refine bodyPost_ret (v := .agg #[.int .i64 S, .int .i64 W, .int .i64 L, .bool true, .map p]) ?_ rfl ⟨rfl, (by repeat (first | ((with_reducible refine Ext.set1 ?_ ?_); (first | (focus (simp; done)) | (focus (simp; omega)) | (focus omega))) | (with_reducible refine Ext.alloc ?_ _) | (with_reducible exact Ext.refl _) | (refine Ext.trans ?_ (by with_reducible assumption))))⟩
  simp [results, Try.results31, go_sem]

set_option maxHeartbeats 400000 in
theorem may_range_empty_neg (S W L lo hi : Int) (p : Option Nat) (w : World) (hl : lo < 0) (h : hi < 0) :
    Calls Try.prog 31 #[.agg #[.int .i64 S, .int .i64 W, .int .i64 L, .bool false, .map p], .int .i64 lo, .int .i64 hi] w fun e w' => e = .returned (.agg #[.int .i64 S, .int .i64 W, .int .i64 L, .bool false, .map p]) ∧ Ext w w' := by
  go_enter Try.func31, Try.ntmps31
  go_wp2
  refine bodyPost_ret (v := .agg #[.int .i64 S, .int .i64 W, .int .i64 L, .bool false, .map p]) ?_ rfl ⟨rfl, (by repeat (first | ((with_reducible refine Ext.set1 ?_ ?_); (first | (focus (simp; done)) | (focus (simp; omega)) | (focus omega))) | (with_reducible refine Ext.alloc ?_ _) | (with_reducible exact Ext.refl _) | (refine Ext.trans ?_ (by with_reducible assumption))))⟩
  simp [results, Try.results31, go_sem]

set_option maxHeartbeats 400000 in
theorem may_range_wide_neg {S W L : Int} (g : Geo S W L) (lo hi : Int) (p : Option Nat) (w : World) (hl : lo < 0) (h : 0 + 64 ≤ hi) (hhi : hi ≤ 1000000) :
    Calls Try.prog 31 #[.agg #[.int .i64 S, .int .i64 W, .int .i64 L, .bool false, .map p], .int .i64 lo, .int .i64 hi] w fun e w' => e = .returned (.agg #[.int .i64 S, .int .i64 W, .int .i64 L, .bool true, .map none]) ∧ Ext w w' := by
  have ht : ((0 : Int) == hi) = false := by rw [beq_eq_false_iff_ne]; omega
  go_enter Try.func31, Try.ntmps31
  go_wp2_with (go_at_call 30; refine (valid_yes g _).mono ?_; rintro e w1 ⟨rfl, hb1⟩; have hz1 := hb1.size; simp at hz1; have q1 : w.heap.size < w1.heap.size := (by omega); have r1 : w.heap.size + 1 < w1.heap.size := (by omega); obtain ⟨a10, a11, a12, a13, a14⟩ := Blk.c5 (w := w1) (B := w.heap.size) (by repeat (first | (with_reducible assumption) | ((with_reducible refine Blk.new ?_); (first | (focus rfl) | (focus (simp; done)) | (focus omega))) | ((with_reducible refine Blk.set1 ?_ ?_); (focus omega)) | (with_reducible refine Blk.alloc ?_) | (refine Blk.ext ?_ (by with_reducible assumption)))); have kr : Blk w1 (w.heap.size + 1) (.cells #[.int .i64 0, .int .i64 0, .int .i64 0, .bool false, .map none] 31) := (by repeat (first | (with_reducible assumption) | ((with_reducible refine Blk.new ?_); (first | (focus rfl) | (focus (simp; done)) | (focus omega))) | ((with_reducible refine Blk.set1 ?_ ?_); (focus omega)) | (with_reducible refine Blk.alloc ?_) | (refine Blk.ext ?_ (by with_reducible assumption)))); obtain ⟨b10, b11, b12, b13, b14⟩ := kr.c5; obtain ⟨f10, f11, f12, f13, f14⟩ := kr.f5)
  refine bodyPost_ret (v := .agg #[.int .i64 S, .int .i64 W, .int .i64 L, .bool true, .map none]) ?_ rfl ⟨rfl, ?_⟩
  · simp [results, Try.results31, go_sem, b10, b11, b12, b13, b14]
  · exact (by repeat (first | ((with_reducible refine Ext.set1 ?_ ?_); (first | (focus (simp; done)) | (focus (simp; omega)) | (focus omega))) | (with_reducible refine Ext.alloc ?_ _) | (with_reducible exact Ext.refl _) | (refine Ext.trans ?_ (by with_reducible assumption))))

set_option maxHeartbeats 400000 in
theorem may_range_one_neg {S W L : Int} (g : Geo S W L) (lo hi : Int) (p : Option Nat) (n : Nat) (f : FM) (w : World) (hl : lo < 0) (hhi : hi = 0) (hh2 : (0 : Int) ≤ 1000000) (h : IMapO w p n f) (hn : n ≤ 1000000) (hfit : Fit W f) :
    Calls Try.prog 31 #[.agg #[.int .i64 S, .int .i64 W, .int .i64 L, .bool false, .map p], .int .i64 lo, .int .i64 hi] w fun e w' => ∃ b', (e = .returned (.agg #[.int .i64 S, .int .i64 W, .int .i64 L, .bool false, .map (some b')]) ∧ w.heap.size ≤ b') ∧ IMap w' b' (n + 1) (mayAcc S W f 0) ∧ Ext w w' := by
  subst hhi
  have HFIT := Lib.hid hfit; clear hfit
  go_enter Try.func31, Try.ntmps31
  go_wp2_with (first
    | (go_at_call 30; refine (valid_yes g _).mono ?_; rintro e w1 ⟨rfl, hb1⟩; have hz1 := hb1.size; simp at hz1; have q1 : w.heap.size < w1.heap.size := (by omega); have r1 : w.heap.size + 1 < w1.heap.size := (by omega); obtain ⟨a10, a11, a12, a13, a14⟩ := Blk.c5 (w := w1) (B := w.heap.size) (by repeat (first | (with_reducible assumption) | ((with_reducible refine Blk.new ?_); (first | (focus rfl) | (focus (simp; done)) | (focus omega))) | ((with_reducible refine Blk.set1 ?_ ?_); (focus omega)) | (with_reducible refine Blk.alloc ?_) | (refine Blk.ext ?_ (by with_reducible assumption)))); have kr : Blk w1 (w.heap.size + 1) (.cells #[.int .i64 0, .int .i64 0, .int .i64 0, .bool false, .map none] 31) := (by repeat (first | (with_reducible assumption) | ((with_reducible refine Blk.new ?_); (first | (focus rfl) | (focus (simp; done)) | (focus omega))) | ((with_reducible refine Blk.set1 ?_ ?_); (focus omega)) | (with_reducible refine Blk.alloc ?_) | (refine Blk.ext ?_ (by with_reducible assumption)))); obtain ⟨b10, b11, b12, b13, b14⟩ := kr.c5; obtain ⟨f10, f11, f12, f13, f14⟩ := kr.f5)
    | (go_at_call 32; refine Calls.mono (may_access g 0 (by omega) (by omega) p n f _ (h.ext (by repeat (first | ((with_reducible refine Ext.set1 ?_ ?_); (first | (focus (simp; done)) | (focus (simp; omega)) | (focus omega))) | (with_reducible refine Ext.alloc ?_ _) | (with_reducible exact Ext.refl _) | (refine Ext.trans ?_ (by with_reducible assumption))))) hn HFIT.out) ?_; rintro e w2 ⟨b2, ⟨rfl, hb2⟩, him2, hx2⟩; have hz2 := hx2.size; have kr2 : Blk w2 (w.heap.size + 1) (.cells #[.int .i64 0, .int .i64 0, .int .i64 0, .bool false, .map none] 31) := (by repeat (first | (with_reducible assumption) | ((with_reducible refine Blk.new ?_); (first | (focus rfl) | (focus (simp; done)) | (focus omega))) | ((with_reducible refine Blk.set1 ?_ ?_); (focus omega)) | (with_reducible refine Blk.alloc ?_) | (refine Blk.ext ?_ (by with_reducible assumption)))); obtain ⟨b20, b21, b22, b23, b24⟩ := kr2.c5; obtain ⟨f20, f21, f22, f23, f24⟩ := kr2.f5))
  refine bodyPost_ret (v := .agg #[.int .i64 S, .int .i64 W, .int .i64 L, .bool false, .map (some b2)]) ?_ rfl ⟨b2, ⟨rfl, by omega⟩, ?_, ?_⟩
  · simp [results, Try.results31, go_sem, b20, b21, b22, b23, b24]
  · exact (by (repeat (first | ((with_reducible refine IMap.set1 ?_ ?_); (focus omega)) | (with_reducible refine IMap.alloc ?_ _))); with_reducible assumption)
  · exact (by repeat (first | ((with_reducible refine Ext.set1 ?_ ?_); (first | (focus (simp; done)) | (focus (simp; omega)) | (focus omega))) | (with_reducible refine Ext.alloc ?_ _) | (with_reducible exact Ext.refl _) | (refine Ext.trans ?_ (by with_reducible assumption))))

set_option maxHeartbeats 1000000 in
theorem may_range_some_neg {S W L : Int} (g : Geo S W L) (lo hi : Int) (p : Option Nat) (n : Nat) (f : FM) (w : World) (hl : lo < 0) (hlh : 0 < hi) (hh1 : hi < 0 + 64) (hh2 : hi ≤ 1000000) (h : IMapO w p n f) (hn : n ≤ 1000000) :
    Calls Try.prog 31 #[.agg #[.int .i64 S, .int .i64 W, .int .i64 L, .bool false, .map p], .int .i64 lo, .int .i64 hi] w fun e w' => ∃ b', (e = .returned (.agg #[.int .i64 S, .int .i64 W, .int .i64 L, .bool false, .map (some b')]) ∧ w.heap.size ≤ b') ∧ IMap w' b' (n + 64) (puts f 0 hi) ∧ Ext w w' := by
  have ht : ((0 : Int) == hi) = false := by rw [beq_eq_false_iff_ne]; omega
  go_enter Try.func31, Try.ntmps31
  go_wp2_with (first
    | (go_at_call 30; refine (valid_yes g _).mono ?_; rintro e w1 ⟨rfl, hb1⟩; have hz1 := hb1.size; simp at hz1; have q1 : w.heap.size < w1.heap.size := (by omega); have r1 : w.heap.size + 1 < w1.heap.size := (by omega); obtain ⟨a10, a11, a12, a13, a14⟩ := Blk.c5 (w := w1) (B := w.heap.size) (by repeat (first | (with_reducible assumption) | ((with_reducible refine Blk.new ?_); (first | (focus rfl) | (focus (simp; done)) | (focus omega))) | ((with_reducible refine Blk.set1 ?_ ?_); (focus omega)) | (with_reducible refine Blk.alloc ?_) | (refine Blk.ext ?_ (by with_reducible assumption)))); have kr : Blk w1 (w.heap.size + 1) (.cells #[.int .i64 0, .int .i64 0, .int .i64 0, .bool false, .map none] 31) := (by repeat (first | (with_reducible assumption) | ((with_reducible refine Blk.new ?_); (first | (focus rfl) | (focus (simp; done)) | (focus omega))) | ((with_reducible refine Blk.set1 ?_ ?_); (focus omega)) | (with_reducible refine Blk.alloc ?_) | (refine Blk.ext ?_ (by with_reducible assumption)))); obtain ⟨b10, b11, b12, b13, b14⟩ := kr.c5; obtain ⟨f10, f11, f12, f13, f14⟩ := kr.f5)
    | (go_at_call 36; refine Calls.mono (may_copied S W L p n f _ (h.ext (by repeat (first | ((with_reducible refine Ext.set1 ?_ ?_); (first | (focus (simp; done)) | (focus (simp; omega)) | (focus omega))) | (with_reducible refine Ext.alloc ?_ _) | (with_reducible exact Ext.refl _) | (refine Ext.trans ?_ (by with_reducible assumption)))))) ?_; rintro e w2 ⟨bo, ⟨rfl, hbo⟩, him2, hb2⟩; have hz2 := hb2.size; have q2 : w.heap.size < w2.heap.size := (by omega); have r2 : w.heap.size + 1 < w2.heap.size := (by omega)))
  have hbo2 := him2.lt
  have k2 : Blk (w2.alloc (.cells #[.int .i64 S, .int .i64 W, .int .i64 L, .bool false, .map (some bo)] 31)) (w.heap.size + 1) (.cells #[.int .i64 0, .int .i64 0, .int .i64 0, .bool false, .map none] 31) := (by repeat (first | (with_reducible assumption) | ((with_reducible refine Blk.new ?_); (first | (focus rfl) | (focus (simp; done)) | (focus omega))) | ((with_reducible refine Blk.set1 ?_ ?_); (focus omega)) | (with_reducible refine Blk.alloc ?_) | (refine Blk.ext ?_ (by with_reducible assumption))))
  have k3 : Blk (w2.alloc (.cells #[.int .i64 S, .int .i64 W, .int .i64 L, .bool false, .map (some bo)] 31)) w2.heap.size (.cells #[.int .i64 S, .int .i64 W, .int .i64 L, .bool false, .map (some bo)] 31) := (by repeat (first | (with_reducible assumption) | ((with_reducible refine Blk.new ?_); (first | (focus rfl) | (focus (simp; done)) | (focus omega))) | ((with_reducible refine Blk.set1 ?_ ?_); (focus omega)) | (with_reducible refine Blk.alloc ?_) | (refine Blk.ext ?_ (by with_reducible assumption))))
  have him3 := him2.alloc (.cells #[.int .i64 S, .int .i64 W, .int .i64 L, .bool false, .map (some bo)] 31)
  have hext3 : Ext w (w2.alloc (.cells #[.int .i64 S, .int .i64 W, .int .i64 L, .bool false, .map (some bo)] 31)) := (by repeat (first | ((with_reducible refine Ext.set1 ?_ ?_); (first | (focus (simp; done)) | (focus (simp; omega)) | (focus omega))) | (with_reducible refine Ext.alloc ?_ _) | (with_reducible exact Ext.refl _) | (refine Ext.trans ?_ (by with_reducible assumption))))
  go_loopw [8] (fun i wr => ∃ k : Nat, i = .int .i64 (0 + k) ∧ (0 + k ≤ hi + 1 ∧ IMap wr bo (n + k) (puts f 0 (0 + k - 1)) ∧ Blk wr (w.heap.size + 1) (.cells #[.int .i64 0, .int .i64 0, .int .i64 0, .bool false, .map none] 31) ∧ Blk wr w2.heap.size (.cells #[.int .i64 S, .int .i64 W, .int .i64 L, .bool false, .map (some bo)] 31) ∧ Ext w wr))
    (fun i _ => (hi + 1 - Go.RowKit.intOf i).toNat)
  case atStart => exact ⟨0, by simp, by omega, by rw [show (0 + ((0 : Nat) : Int) - 1) = 0 - 1 from by simp, puts_nil]; exact him3, k2, k3, hext3⟩
  case round =>
    clear k2 k3 him3 hext3
    obtain ⟨k, rfl, hk, him, k2, k3, hext⟩ := hrel
    have hl2 := k2.lt
    have hl3 := k3.lt
    have hwb := him.lt
    obtain ⟨c0, c1, c2, c3, c4⟩ := k3.c5
    by_cases hlt : 0 + (k : Int) ≤ hi
    · go_wp2_with (at_mapUpdate; refine wpList_store_im _ rfl _ _ _ rfl bo (n + k) _ rfl him (by unfold maxLen; omega) (0 + k) 0 rfl rfl (I64.of (by omega) (by omega)) (I64.of (by omega) (by omega)) ?_; intro w6 him6 hg6; have hz6 := hg6.size; have k26 := k2.grown hg6 (by simp; omega); have k36 := k3.grown hg6 (by simp; omega); have hext6 : Ext w w6 := hext.grown hg6 (fun k e => by cases e; omega))
      go_roundw
      case rel =>
        refine ⟨k + 1, by go_num, by omega, ?_, k26, k36, hext6⟩
        have e := puts_snoc f 0 (0 + k - 1) (by omega)
        have e2 : (0 + (k : Int) - 1 + 1) = 0 + k := by omega
        rw [e2] at e
        have e3 : (0 + ((k + 1 : Nat) : Int) - 1) = 0 + k := by omega
        rw [e3, e, ← Nat.add_assoc]
        exact him6
      case measure => simp [Go.RowKit.intOf]; omega
    · obtain ⟨e0, e1, e2, e3, e4⟩ := k2.c5
      obtain ⟨f0, f1, f2, f3, f4⟩ := k2.f5
      go_wp2
      refine bodyPost_ret (v := .agg #[.int .i64 S, .int .i64 W, .int .i64 L, .bool false, .map (some bo)]) ?_ rfl ⟨bo, ⟨rfl, by omega⟩, ?_, ?_⟩
      · simp [results, Try.results31, go_sem, e0, e1, e2, e3, e4]
      · have e : 0 + (k : Int) - 1 = hi := by omega
        have himf : IMap wr bo (n + 64) (puts f 0 hi) := by rw [e] at him; exact him.mono (by omega)
        clear him
        exact (by (repeat (first | ((with_reducible refine IMap.set1 ?_ ?_); (focus omega)) | (with_reducible refine IMap.alloc ?_ _))); with_reducible assumption)
      · exact (by repeat (first | ((with_reducible refine Ext.set1 ?_ ?_); (first | (focus (simp; done)) | (focus (simp; omega)) | (focus omega))) | (with_reducible refine Ext.alloc ?_ _) | (with_reducible exact Ext.refl _) | (refine Ext.trans ?_ (by with_reducible assumption))))

end Go.Proofs.Ytjckghdgogkeaaa

namespace Go.Proofs.Ytjckghdgogkeaaa
open Go.RowKit Go.Maps
set_option linter.unusedVariables false

/-- The fields u and p of a may state (unknown, bounds) read as the state st. -/
def StB (w : World) (W : Int) (n : Nat) (st : St) (u : Bool) (p : Option Nat) : Prop :=
  (u = true ∧ p = none ∧ st = none) ∨ (u = false ∧ ∃ f, st = some f ∧ IMapO w p n f ∧ Fit W f)
theorem StB.ext {w w' : World} {W : Int} {n : Nat} {st : St} {u : Bool} {p : Option Nat} (h : StB w W n st u p) (e : Ext w w') : StB w' W n st u p := by
  rcases h with h | ⟨h1, f, h2, h3, h4⟩
  · exact .inl h
  · exact .inr ⟨h1, f, h2, h3.ext e, h4⟩
theorem StB.set {w : World} {W : Int} {n : Nat} {st : St} {u : Bool} {p : Option Nat} {a : Addr} {v : Value} (h : StB w W n st u p) : StB (w.setCell a v) W n st u p := by
  rcases h with h | ⟨h1, f, h2, h3, h4⟩
  · exact .inl h
  · exact .inr ⟨h1, f, h2, h3.set, h4⟩
theorem StB.alloc {w : World} {W : Int} {n : Nat} {st : St} {u : Bool} {p : Option Nat} (h : StB w W n st u p) (o : Obj) : StB (w.alloc o) W n st u p := by
  rcases h with h | ⟨h1, f, h2, h3, h4⟩
  · exact .inl h
  · exact .inr ⟨h1, f, h2, h3.alloc o, h4⟩
theorem StB.mono {w : World} {W : Int} {n n' : Nat} {st : St} {u : Bool} {p : Option Nat} (h : StB w W n st u p) (hn : n ≤ n') : StB w W n' st u p := by
  rcases h with h | ⟨h1, f, h2, h3, h4⟩
  · exact .inl h
  · exact .inr ⟨h1, f, h2, h3.mono hn, h4⟩
theorem StB.mk {w : World} {W : Int} {n : Nat} {f : FM} {b : Nat} (h : IMap w b n f) (hf : Fit W f) : StB w W n (some f) false (some b) := .inr ⟨rfl, f, rfl, .inr ⟨b, rfl, h⟩, hf⟩
theorem StB.nil (w : World) (W : Int) (n : Nat) : StB w W n (some noF) false none := .inr ⟨rfl, noF, rfl, .inl ⟨rfl, fun _ => rfl⟩, fit_no W⟩
theorem StB.unk (w : World) (W : Int) (n : Nat) : StB w W n none true none := .inl ⟨rfl, rfl, rfl⟩

/-- A call that hands back a may state. -/
def Gives (S W L : Int) (n : Nat) (st : St) (w : World) (e : Ending) (w' : World) : Prop :=
  ∃ u p, e = .returned (.agg #[.int .i64 S, .int .i64 W, .int .i64 L, .bool u, .map p]) ∧ StB w' W n st u p ∧ Ext w w'

theorem acc_st {S W L : Int} (g : Geo S W L) (x : Int) (hx2 : x ≤ 1000000) (u : Bool) (p : Option Nat) (n : Nat) (st : St) (w : World) (h : StB w W n st u p) (hn : n ≤ 1000000) :
    Calls Try.prog 32 #[.agg #[.int .i64 S, .int .i64 W, .int .i64 L, .bool u, .map p], .int .i64 x] w (Gives S W L (n + 64) (sAcc S W st x) w) := by
  have hw := g.w1
  rcases h with ⟨rfl, rfl, rfl⟩ | ⟨rfl, f, rfl, him, hf⟩
  · exact (may_access_unknown S W L x none w).mono fun e w' ⟨he, hb⟩ => ⟨_, _, he, .unk _ _ _, hb⟩
  · by_cases hx : x < 0
    · refine (may_access_neg S W L x p w hx).mono fun e w' ⟨he, hb⟩ => ⟨_, _, he, ?_, hb⟩
      simp only [sAcc, if_pos hx]
      exact .inr ⟨rfl, f, rfl, (him.ext hb).mono (by omega), hf⟩
    · refine (may_access g x (by omega) hx2 p n f w him hn hf).mono fun e w' ⟨b, ⟨he, _⟩, hi, hb⟩ => ⟨_, _, he, ?_, hb⟩
      simp only [sAcc, if_neg hx]
      exact StB.mk (hi.mono (by omega)) (fit_acc hf hw (by omega))

theorem range_st {S W L : Int} (g : Geo S W L) (lo hi : Int) (hx2 : hi ≤ 1000000) (u : Bool) (p : Option Nat) (n : Nat) (st : St) (w : World) (h : StB w W n st u p) (hn : n ≤ 1000000) :
    Calls Try.prog 31 #[.agg #[.int .i64 S, .int .i64 W, .int .i64 L, .bool u, .map p], .int .i64 lo, .int .i64 hi] w (Gives S W L (n + 64) (sRange S W st lo hi) w) := by
  have hw := g.w1
  rcases h with ⟨rfl, rfl, rfl⟩ | ⟨rfl, f, rfl, him, hf⟩
  · rcases Int.lt_or_le lo 0 with hl | hl
    · exact (may_range_unknown_neg S W L lo hi none w hl).mono fun e w' ⟨he, hb⟩ => ⟨_, _, he, .unk _ _ _, hb⟩
    · exact (may_range_unknown_pos S W L lo hi none w hl).mono fun e w' ⟨he, hb⟩ => ⟨_, _, he, .unk _ _ _, hb⟩
  · rcases Int.lt_or_le lo 0 with hl | hl
    · have em : max lo 0 = 0 := by omega
      simp only [sRange, em]
      by_cases h1 : hi < 0
      · refine (may_range_empty_neg S W L lo hi p w hl h1).mono fun e w' ⟨he, hb⟩ => ⟨_, _, he, ?_, hb⟩
        rw [if_pos h1]
        exact .inr ⟨rfl, f, rfl, (him.ext hb).mono (by omega), hf⟩
      rw [if_neg h1]
      by_cases h2 : 0 = hi
      · subst h2
        refine (may_range_one_neg g lo 0 p n f w hl rfl (by omega) him hn hf).mono fun e w' ⟨b, ⟨he, _⟩, hi, hb⟩ => ⟨_, _, he, ?_, hb⟩
        rw [if_pos rfl]
        exact StB.mk (hi.mono (by omega)) (fit_acc hf hw (by omega))
      rw [if_neg h2]
      by_cases h3 : 64 ≤ hi - 0
      · refine (may_range_wide_neg g lo hi p w hl (by omega) hx2).mono fun e w' ⟨he, hb⟩ => ⟨_, _, he, ?_, hb⟩
        rw [if_pos h3]
        exact .unk _ _ _
      rw [if_neg h3]
      exact (may_range_some_neg g lo hi p n f w hl (by omega) (by omega) hx2 him hn).mono fun e w' ⟨b, ⟨he, _⟩, hi, hb⟩ => ⟨_, _, he, StB.mk hi (fit_puts hf hw (by omega)), hb⟩
    · have em : max lo 0 = lo := by omega
      simp only [sRange, em]
      by_cases h1 : hi < lo
      · refine (may_range_empty_pos S W L lo hi p w hl h1).mono fun e w' ⟨he, hb⟩ => ⟨_, _, he, ?_, hb⟩
        rw [if_pos h1]
        exact .inr ⟨rfl, f, rfl, (him.ext hb).mono (by omega), hf⟩
      rw [if_neg h1]
      by_cases h2 : lo = hi
      · subst h2
        refine (may_range_one_pos g lo lo p n f w hl rfl (by omega) him hn hf).mono fun e w' ⟨b, ⟨he, _⟩, hi, hb⟩ => ⟨_, _, he, ?_, hb⟩
        rw [if_pos rfl]
        exact StB.mk (hi.mono (by omega)) (fit_acc hf hw (by omega))
      rw [if_neg h2]
      by_cases h3 : 64 ≤ hi - lo
      · refine (may_range_wide_pos g lo hi p w hl (by omega) hx2).mono fun e w' ⟨he, hb⟩ => ⟨_, _, he, ?_, hb⟩
        rw [if_pos h3]
        exact .unk _ _ _
      rw [if_neg h3]
      exact (may_range_some_pos g lo hi p n f w hl (by omega) (by omega) hx2 him hn).mono fun e w' ⟨b, ⟨he, _⟩, hi, hb⟩ => ⟨_, _, he, StB.mk hi (fit_puts hf hw (by omega)), hb⟩
end Go.Proofs.Ytjckghdgogkeaaa

namespace Go.Proofs.Ytjckghdgogkeaaa
open Go.RowKit Go.Maps Go.Proofs.YtjckghdgogkeaaaW.PrintWords
set_option linter.unusedVariables false

/-- The bound of the line at place j is no more than j. -/
def OkAt (f : FM) (l : List Int) (j : Nat) : Prop := ∃ b, f (l.getD j 0) = some b ∧ b ≤ j
def OkRow (f : FM) (l : List Int) : Prop := ∀ j, j < l.length → OkAt f l j
def AllOk (f : FM) (n : Nat) (ls : List (List Int)) : Prop := ∀ k, k < n → OkRow f (ls.getD k [])
/-- st describes the lists. -/
def Descr (S : Int) (st : St) (ls : List (List Int)) : Prop := (ls.length : Int) = S ∧ ∀ f, st = some f → ∀ k, k < ls.length → OkRow f (ls.getD k [])

set_option maxHeartbeats 400000 in
theorem may_descr_len (S W L : Int) (u : Bool) (p : Option Nat) (A : Option Addr) (n c : Nat) (w : World) (hn : (n : Int) ≠ S) :
    Calls Try.prog 15 #[.agg #[.int .i64 S, .int .i64 W, .int .i64 L, .bool u, .map p], .slice A n c] w fun e w' => e = .returned (.bool false) ∧ Ext w w' := by
  have hn2 : ((n : Int) != S) = true := by simpa using hn
  go_enter Try.func15, Try.ntmps15
  go_wp2
  go_ret
  exact ⟨rfl, (by repeat (first | ((with_reducible refine Ext.set1 ?_ ?_); (first | (focus (simp; done)) | (focus (simp; omega)) | (focus omega))) | (with_reducible refine Ext.alloc ?_ _) | (with_reducible exact Ext.refl _) | (refine Ext.trans ?_ (by with_reducible assumption))))⟩
set_option maxHeartbeats 400000 in
theorem may_descr_unknown (S W L : Int) (p : Option Nat) (A : Option Addr) (n c : Nat) (w : World) (hn : (n : Int) = S) :
    Calls Try.prog 15 #[.agg #[.int .i64 S, .int .i64 W, .int .i64 L, .bool true, .map p], .slice A n c] w fun e w' => e = .returned (.bool true) ∧ Ext w w' := by
  have hn2 : ((n : Int) != S) = false := by simpa using hn
  clear hn
  go_enter Try.func15, Try.ntmps15
  go_wp2
  go_ret
  exact ⟨rfl, (by repeat (first | ((with_reducible refine Ext.set1 ?_ ?_); (first | (focus (simp; done)) | (focus (simp; omega)) | (focus omega))) | (with_reducible refine Ext.alloc ?_ _) | (with_reducible exact Ext.refl _) | (refine Ext.trans ?_ (by with_reducible assumption))))⟩

set_option maxHeartbeats 1000000 in
theorem may_descr_some (S W L : Int) (p : Option Nat) (m : Nat) (f : FM) (A : Option Addr) (n c : Nat) (ls : List (List Int)) (w : World) (hn : (n : Int) = S) (h : IMapO w p m f) (hf : Fit W f) (hw8 : W ≤ 8) (hr : KL.C w A n ls) (hw : ∀ l ∈ ls, ∀ x ∈ l, I64 x) :
    Calls Try.prog 15 #[.agg #[.int .i64 S, .int .i64 W, .int .i64 L, .bool false, .map p], .slice A n c] w (Says (AllOk f n ls) w) := by
  have hn2 : ((n : Int) != S) = false := by simpa using hn
  have HW := Lib.hid hw; clear hw
  have HFIT := Lib.hid hf; clear hf
  have hlen := C_len hr
  have HLEN := Lib.hid hlen; clear hlen
  have hmax := C_max hr
  clear hn
  have h1 := h.ext ((Ext.refl w).alloc (.cells #[.int .i64 S, .int .i64 W, .int .i64 L, .bool false, .map p] 31))
  have hr1 := C_ext hr ((Ext.refl w).alloc (.cells #[.int .i64 S, .int .i64 W, .int .i64 L, .bool false, .map p] 31))
  clear h hr
  go_enter Try.func15, Try.ntmps15
  go_wp2
  go_loop [21] (fun i => ∃ k : Nat, i = .int .i64 k ∧ k ≤ n ∧ Hid (∀ r, r < k → OkRow f (ls.getD r []))) (fun i => n - (Go.RowKit.intOf i).toNat)
  case atStart => exact ⟨0, rfl, Nat.zero_le _, fun r hr => absurd hr (Nat.not_lt_zero _)⟩
  case round =>
    obtain ⟨k, rfl, hk, HK⟩ := hrel
    by_cases hlt : k < n
    · obtain ⟨ad, A0, c0, rfl, hcell, hl0, hrow⟩ := at_row hr1 k hlt
      have HX : Hid (∀ x ∈ ls.getD k [], I64 x) := by
        intro x hx
        have hkl : k < ls.length := by rw [HLEN.out]; exact hlt
        rw [List.getD_eq_getElem?_getD, List.getElem?_eq_getElem hkl] at hx
        exact HW.out _ (List.getElem_mem hkl) x hx
      obtain ⟨l, hl⟩ : ∃ l, l = ls.getD k [] := ⟨_, rfl⟩
      rw [← hl] at hcell hl0 hrow HX
      have HL := Lib.hid hl; clear hl
      have hmax2 := C_max hrow
      obtain ⟨m0, hm0⟩ : ∃ m0, m0 = l.length := ⟨_, rfl⟩
      rw [← hm0] at hcell hl0 hrow hmax2
      have HM0 := Lib.hid hm0; clear hm0
      go_wp2
      go_loop [27] (fun i => ∃ j : Nat, i = .int .i64 j ∧ j ≤ m0 ∧ Hid (∀ r, r < j → OkAt f l r)) (fun i => m0 - (Go.RowKit.intOf i).toNat)
      case atStart => exact ⟨0, rfl, Nat.zero_le _, fun r hr => absurd hr (Nat.not_lt_zero _)⟩
      case round =>
        obtain ⟨j, rfl, hj, HJ⟩ := hrel
        by_cases hjt : j < m0
        · obtain ⟨ad2, rfl, hcell2⟩ := at_num hrow j hjt
          have hx : I64 (l.getD j 0) := by
            have hjl : j < l.length := by rw [← HM0.out]; exact hjt
            rw [List.getD_eq_getElem?_getD, List.getElem?_eq_getElem hjl]
            exact HX.out _ (List.getElem_mem hjl)
          obtain ⟨x, hxe⟩ : ∃ x, x = l.getD j 0 := ⟨_, rfl⟩
          rw [← hxe] at hcell2 hx
          have HXE := Lib.hid hxe; clear hxe
          cases hfx : f x with
          | none =>
            have HF := Lib.hid hfx; clear hfx
            go_wp2_with (at_lookup; refine wpList_look_none _ rfl _ _ rfl p m f rfl h1 x rfl hx HF.out ?_)
            go_ret
            refine ⟨false, ⟨rfl, ?_⟩, (by repeat (first | ((with_reducible refine Ext.set1 ?_ ?_); (first | (focus (simp; done)) | (focus (simp; omega)) | (focus omega))) | (with_reducible refine Ext.alloc ?_ _) | (with_reducible exact Ext.refl _) | (refine Ext.trans ?_ (by with_reducible assumption))))⟩
            simp only [Bool.false_eq_true, false_iff]
            intro hall
            obtain ⟨b, hb, _⟩ := hall k hlt j (by rw [← HL.out, ← HM0.out]; exact hjt)
            rw [← HL.out, ← HXE.out, HF.out] at hb
            cases hb
          | some b =>
            have HF := Lib.hid hfx; clear hfx
            obtain ⟨_, hb0, hb1⟩ := HFIT.out x b HF.out
            by_cases hbj : (j : Int) < b
            · go_wp2_with (at_lookup; refine wpList_look_some _ rfl _ _ rfl p m f rfl h1 x rfl hx b HF.out ?_)
              go_ret
              refine ⟨false, ⟨rfl, ?_⟩, (by repeat (first | ((with_reducible refine Ext.set1 ?_ ?_); (first | (focus (simp; done)) | (focus (simp; omega)) | (focus omega))) | (with_reducible refine Ext.alloc ?_ _) | (with_reducible exact Ext.refl _) | (refine Ext.trans ?_ (by with_reducible assumption))))⟩
              simp only [Bool.false_eq_true, false_iff]
              intro hall
              obtain ⟨b', hb', hle⟩ := hall k hlt j (by rw [← HL.out, ← HM0.out]; exact hjt)
              rw [← HL.out, ← HXE.out, HF.out] at hb'
              cases hb'
              omega
            · go_wp2_with (at_lookup; refine wpList_look_some _ rfl _ _ rfl p m f rfl h1 x rfl hx b HF.out ?_)
              go_round
              case rel =>
                refine ⟨j + 1, by go_num, by omega, ?_⟩
                intro r hr
                by_cases e : r = j
                · subst e
                  exact ⟨b, by rw [← HXE.out]; exact HF.out, by omega⟩
                · exact HJ.out r (by omega)
              case measure => simp [Go.RowKit.intOf]; omega
        · go_wp2
          go_round
          case rel =>
            refine ⟨k + 1, by go_num, by omega, ?_⟩
            intro r hr
            by_cases e : r = k
            · subst e
              intro i hi
              rw [← HL.out] at hi ⊢
              exact HJ.out i (by rw [← HM0.out] at hi; omega)
            · exact HK.out r (by omega)
          case measure => simp [Go.RowKit.intOf]; omega
    · go_wp2
      go_ret
      exact ⟨true, ⟨rfl, ⟨fun _ r hr => HK.out r (by omega), fun _ => rfl⟩⟩, (by repeat (first | ((with_reducible refine Ext.set1 ?_ ?_); (first | (focus (simp; done)) | (focus (simp; omega)) | (focus omega))) | (with_reducible refine Ext.alloc ?_ _) | (with_reducible exact Ext.refl _) | (refine Ext.trans ?_ (by with_reducible assumption))))⟩

theorem descr_st {S W L : Int} (g : Geo S W L) (u : Bool) (p : Option Nat) (m : Nat) (st : St) (A : Option Addr) (c : Nat) (ls : List (List Int)) (w : World) (h : StB w W m st u p) (hr : KL.C w A ls.length ls) (hw : ∀ l ∈ ls, ∀ x ∈ l, I64 x) :
    Calls Try.prog 15 #[.agg #[.int .i64 S, .int .i64 W, .int .i64 L, .bool u, .map p], .slice A ls.length c] w (Says (Descr S st ls) w) := by
  by_cases hn : (ls.length : Int) = S
  · rcases h with ⟨rfl, rfl, rfl⟩ | ⟨rfl, f, rfl, him, hf⟩
    · exact (may_descr_unknown S W L none A ls.length c w hn).mono fun e w' ⟨he, hb⟩ => ⟨true, ⟨he, by simp [Descr, hn]⟩, hb⟩
    · refine (may_descr_some S W L p m f A ls.length c ls w hn him hf g.w8 hr hw).mono fun e w' ⟨r, ⟨he, hq⟩, hb⟩ => ⟨r, ⟨he, hq.trans ⟨fun h => ⟨hn, fun f' e k hk => ?_⟩, fun h => h.2 f rfl⟩⟩, hb⟩
      cases e
      exact h k hk
  · exact (may_descr_len S W L u p A ls.length c w hn).mono fun e w' ⟨he, hb⟩ => ⟨false, ⟨he, by simp [Descr, hn]⟩, hb⟩
end Go.Proofs.Ytjckghdgogkeaaa
