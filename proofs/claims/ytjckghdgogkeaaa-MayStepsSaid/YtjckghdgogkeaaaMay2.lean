/- The contract of (may.State).Access. -/
import Derived.Test.YtjckghdgogkeaaaMay1
import Derived.Test.YtjckghdgogkeaaaMayT
import Derived.Maps.RangeWalk
namespace Go.Proofs.Ytjckghdgogkeaaa
open Go.RowKit Go.Maps
set_option linter.unusedVariables false

set_option maxHeartbeats 1000000 in
theorem may_access_some {S W L : Int} (g : Geo S W L) (x : Int) (hx : 0 ≤ x) (hx2 : x ≤ 1000000) (b n : Nat) (f : FM) (w : World) (h : IMap w b n f) (hn : n ≤ 1000000) (hfit : Fit W f) (hh : Int) (hfx : f x = some hh) :
    Calls Try.prog 32 #[.agg #[.int .i64 S, .int .i64 W, .int .i64 L, .bool false, .map (some b)], .int .i64 x] w fun e w' => ∃ b', (e = .returned (.agg #[.int .i64 S, .int .i64 W, .int .i64 L, .bool false, .map (some b')]) ∧ w.heap.size ≤ b') ∧ IMap w' b' (n + 1) (mayAcc S W f x) ∧ Ext w w' := by
  have hw1 := g.w1
  have hw8 := g.w8
  have wx : I64 x := I64.of (by omega) (by omega)
  have HF := Lib.hid hfx; clear hfx
  have HFIT := Lib.hid hfit; clear hfit
  have hb0 := h.lt
  go_enter Try.func32, Try.ntmps32
  go_wp2_with (first
    | (go_at_call 30; refine (valid_yes g _).mono ?_; rintro e w1 ⟨rfl, hb1⟩; have hz1 := hb1.size; simp at hz1; have q1 : w.heap.size < w1.heap.size := (by omega); have r1 : w.heap.size + 1 < w1.heap.size := (by omega)
       obtain ⟨a10, a11, a12, a13, a14⟩ := Blk.c5 (w := w1) (B := w.heap.size) (by repeat (first | (with_reducible assumption) | ((with_reducible refine Blk.new ?_); (first | (focus rfl) | (focus (simp; done)) | (focus omega))) | ((with_reducible refine Blk.set1 ?_ ?_); (focus omega)) | (with_reducible refine Blk.alloc ?_) | (refine Blk.ext ?_ (by with_reducible assumption)))))
    | (go_at_call 36; refine Calls.mono (may_copied S W L (some b) n f _ (.inr ⟨b, rfl, h.ext (by repeat (first | ((with_reducible refine Ext.set1 ?_ ?_); (first | (focus (simp; done)) | (focus (simp; omega)) | (focus omega))) | (with_reducible refine Ext.alloc ?_ _) | (with_reducible exact Ext.refl _) | (refine Ext.trans ?_ (by with_reducible assumption))))⟩)) ?_; rintro e w2 ⟨bo, ⟨rfl, hbo⟩, him2, hb2⟩; have hz2 := hb2.size; have q2 : w.heap.size < w2.heap.size := (by omega); have r2 : w.heap.size + 1 < w2.heap.size := (by omega)
       obtain ⟨a20, a21, a22, a23, a24⟩ := Blk.c5 (w := w2) (B := w.heap.size) (by repeat (first | (with_reducible assumption) | ((with_reducible refine Blk.new ?_); (first | (focus rfl) | (focus (simp; done)) | (focus omega))) | ((with_reducible refine Blk.set1 ?_ ?_); (focus omega)) | (with_reducible refine Blk.alloc ?_) | (refine Blk.ext ?_ (by with_reducible assumption)))))
    | (at_lookup; refine wpList_look_some _ rfl _ _ rfl (some b) n f rfl (.inr ⟨b, rfl, h.ext (by repeat (first | ((with_reducible refine Ext.set1 ?_ ?_); (first | (focus (simp; done)) | (focus (simp; omega)) | (focus omega))) | (with_reducible refine Ext.alloc ?_ _) | (with_reducible exact Ext.refl _) | (refine Ext.trans ?_ (by with_reducible assumption))))⟩) x rfl wx hh HF.out ?_)
    | (go_at_call 46; refine (set_yes g x hx _).mono ?_; rintro e w3 ⟨rfl, hb3⟩; have hz3 := hb3.size; simp at hz3; have q3 : w.heap.size < w3.heap.size := (by omega); have r3 : w.heap.size + 1 < w3.heap.size := (by omega); have s3 : w2.heap.size < w3.heap.size := (by omega)
       obtain ⟨a30, a31, a32, a33, a34⟩ := Blk.c5 (w := w3) (B := w.heap.size) (by repeat (first | (with_reducible assumption) | ((with_reducible refine Blk.new ?_); (first | (focus rfl) | (focus (simp; done)) | (focus omega))) | ((with_reducible refine Blk.set1 ?_ ?_); (focus omega)) | (with_reducible refine Blk.alloc ?_) | (refine Blk.ext ?_ (by with_reducible assumption)))))
    | (at_range; refine wpList_range_im _ rfl _ rfl w3.heap.size rfl b n f rfl (h.ext (by repeat (first | ((with_reducible refine Ext.set1 ?_ ?_); (first | (focus (simp; done)) | (focus (simp; omega)) | (focus omega))) | (with_reducible refine Ext.alloc ?_ _) | (with_reducible exact Ext.refl _) | (refine Ext.trans ?_ (by with_reducible assumption))))) ?_; intro w4 cnt4 hrm4 hb4 hs4 hcn4))
  have hbo2 := him2.lt
  have hw4 := hb4.size
  have k1 : Blk w4 w.heap.size (.cells #[.int .i64 S, .int .i64 W, .int .i64 L, .bool false, .map (some b)] 31) := (by repeat (first | (with_reducible assumption) | ((with_reducible refine Blk.new ?_); (first | (focus rfl) | (focus (simp; done)) | (focus omega))) | ((with_reducible refine Blk.set1 ?_ ?_); (focus omega)) | (with_reducible refine Blk.alloc ?_) | (refine Blk.ext ?_ (by with_reducible assumption))))
  have k2 : Blk w4 (w.heap.size + 1) (.cells #[.int .i64 0, .int .i64 0, .int .i64 0, .bool false, .map none] 31) := (by repeat (first | (with_reducible assumption) | ((with_reducible refine Blk.new ?_); (first | (focus rfl) | (focus (simp; done)) | (focus omega))) | ((with_reducible refine Blk.set1 ?_ ?_); (focus omega)) | (with_reducible refine Blk.alloc ?_) | (refine Blk.ext ?_ (by with_reducible assumption))))
  have k3 : Blk w4 w2.heap.size (.cells #[.int .i64 S, .int .i64 W, .int .i64 L, .bool false, .map (some bo)] 31) := (by repeat (first | (with_reducible assumption) | ((with_reducible refine Blk.new ?_); (first | (focus rfl) | (focus (simp; done)) | (focus omega))) | ((with_reducible refine Blk.set1 ?_ ?_); (focus omega)) | (with_reducible refine Blk.alloc ?_) | (refine Blk.ext ?_ (by with_reducible assumption))))
  have him4 : IMap w4 bo n f := (him2.alloc _).ext (hb3.trans hb4)
  have hext4 : Ext w w4 := (by repeat (first | ((with_reducible refine Ext.set1 ?_ ?_); (first | (focus (simp; done)) | (focus (simp; omega)) | (focus omega))) | (with_reducible refine Ext.alloc ?_ _) | (with_reducible exact Ext.refl _) | (refine Ext.trans ?_ (by with_reducible assumption))))
  clear a10 a11 a12 a13 a14 a20 a21 a22 a23 a24 a30 a31 a32 a33 a34
  go_frame
  go_loopw [9] (fun _ wr => ∃ (lf : Int → Bool) (cnt : Nat) (fo : FM), (RMap wr b w3.heap.size n f lf cnt ∧ IMap wr bo n fo ∧ Blk wr w.heap.size (.cells #[.int .i64 S, .int .i64 W, .int .i64 L, .bool false, .map (some b)] 31) ∧
      Blk wr (w.heap.size + 1) (.cells #[.int .i64 0, .int .i64 0, .int .i64 0, .bool false, .map none] 31) ∧ Blk wr w2.heap.size (.cells #[.int .i64 S, .int .i64 W, .int .i64 L, .bool false, .map (some bo)] 31) ∧ Ext w wr) ∧ Hid (Mid f (aged S W hh x f) lf fo))
    (fun _ wr => wr.rangeLeft b w3.heap.size)
  case atStart => exact ⟨_, _, f, ⟨hrm4, him4, k1, k2, k3, hext4⟩, Mid.start fun y e => aged_none e⟩
  case round =>
    clear k1 k2 k3 him4 hext4 hrm4 hb4 hs4 hw4
    obtain ⟨lf, cnt, fo, ⟨hrm, him, k1, k2, k3, hext⟩, HM⟩ := hrel
    have hl1 := k1.lt
    have hl2 := k2.lt
    have hl3 := k3.lt
    go_wp2_with (at_next; refine wpList_next_im _ rfl _ rfl b w3.heap.size n f lf cnt rfl hrm ?_ ?_)
    · intro hdone
      have hwb := him.lt
      obtain ⟨c0, c1, c2, c3, c4⟩ := k3.c5
      go_wp2_with (at_mapUpdate; refine wpList_store_im _ rfl _ _ _ rfl bo n fo rfl him (by unfold maxLen; omega) x 0 rfl rfl wx (I64.of (by omega) (by omega)) ?_; intro w6 him6 hg6; have hz6 := hg6.size; obtain ⟨d0, d1, d2, d3, d4⟩ := (k3.grown hg6 (by simp; omega)).c5; have k26 := k2.grown hg6 (by simp; omega); obtain ⟨e0, e1, e2, e3, e4⟩ := k26.c5; obtain ⟨f0, f1, f2, f3, f4⟩ := k26.f5)
      have hext6 : Ext w w6 := hext.grown hg6 (fun k e => by cases e; omega)
      refine bodyPost_ret (v := .agg #[.int .i64 S, .int .i64 W, .int .i64 L, .bool false, .map (some bo)]) ?_ rfl ⟨bo, ⟨rfl, by omega⟩, ?_, ?_⟩
      · simp [results, Try.results32, go_sem, e0, e1, e2, e3, e4]
      · have himf : IMap w6 bo (n + 1) (mayAcc S W f x) := him6.congr (fun y => by unfold mayAcc; rw [HF.out]; unfold put; rw [HM.out.done hdone y]; rfl)
        clear him6
        exact (by (repeat (first | ((with_reducible refine IMap.set1 ?_ ?_); (focus omega)) | (with_reducible refine IMap.alloc ?_ _))); with_reducible assumption)
      · exact (by repeat (first | ((with_reducible refine Ext.set1 ?_ ?_); (first | (focus (simp; done)) | (focus (simp; omega)) | (focus omega))) | (with_reducible refine Ext.alloc ?_ _) | (with_reducible exact Ext.refl _) | (refine Ext.trans ?_ (by with_reducible assumption))))
    · intro y c w5 cnt5 hy hc hly hfy hrm5 hlt5 hg5 hs5 hen
      have FY := Lib.hid hfy
      have LY := Lib.hid hly
      clear hly hfy
      obtain ⟨hy0, hc0, hcW⟩ := HFIT.out y c FY.out
      have him5 := him.grown hg5 (by simp; omega)
      have k15 := k1.grown hg5 (by simp; omega)
      have k25 := k2.grown hg5 (by simp; omega)
      have k35 := k3.grown hg5 (by simp; omega)
      have hext5 : Ext w w5 := hext.grown hg5 (fun k e => by cases e; omega)
      have HLE := Lib.hid hrm.left_eq
      clear him k1 k2 k3 hext hrm
      have hwb := him5.lt
      obtain ⟨c0, c1, c2, c3, c4⟩ := k15.c5
      obtain ⟨d0, d1, d2, d3, d4⟩ := k35.c5
      by_cases hyx : y = x
      · -- the line itself
        have HG : Hid (aged S W hh x f y = f y) := (aged_keep FY.out (.inl hyx)).trans FY.out.symm
        have hyx2 : (y == x) = true := by simpa using hyx
        clear hyx
        go_wp2
        go_roundw
        case rel => exact ⟨_, cnt5, fo, ⟨hrm5, him5, k15, k25, k35, hext5⟩, HM.out.keep HG.out⟩
        case measure => rw [hrm5.left_eq, HLE.out]; exact hlt5
      · have hyx2 : (y == x) = false := by simpa using hyx
        by_cases hs : y % S = x % S
        · have hs2 : (y % S != x % S) = false := by simpa using hs
          have HS := Lib.hid hs
          clear hs
          by_cases hch : c ≤ hh
          · have hch2 : ¬ hh < c := by omega
            by_cases hcw : c + 1 < W
            · have HG : Hid (aged S W hh x f y = some (c + 1)) := aged_up FY.out hyx HS.out hch hcw
              have hold : Hid ((fo y).isSome = true) := by show (fo y).isSome = true; rw [HM.out y, LY.out]; simp [FY.out]
              clear hyx
              go_wp2_with (first
                | (go_at_call 46; refine (set_yes g y hy0 _).mono ?_; rintro e w6 ⟨rfl, hb6⟩; have hz6 := hb6.size; have him6 := him5.ext hb6; have hrm6 := hrm5.same (hb6.block hrm5.owns.lt) (hb6.block hrm5.lt); have k16 := k15.ext hb6; have k26 := k25.ext hb6; have k36 := k35.ext hb6; have hext6 := hext5.trans hb6; obtain ⟨u0, u1, u2, u3, u4⟩ := k16.c5; obtain ⟨v0, v1, v2, v3, v4⟩ := k36.c5)
                | (at_mapUpdate; refine wpList_store_old _ rfl _ _ _ rfl bo n fo rfl him6 (by unfold maxLen; omega) y (c + 1) rfl rfl hy (I64.of (by omega) (by omega)) hold.out ?_; intro w7 him7 hg7; have hz7 := hg7.size; have hrm7 := hrm6.grown hg7 (by simp; omega) (by simp; omega); have k17 := k16.grown hg7 (by simp; omega); have k27 := k26.grown hg7 (by simp; omega); have k37 := k36.grown hg7 (by simp; omega); have hext7 : Ext w w7 := hext6.grown hg7 (fun k e => by cases e; omega); obtain ⟨x0, x1, x2, x3, x4⟩ := k17.c5))
              go_roundw
              case rel => exact ⟨_, cnt5, _, ⟨hrm7, him7, k17, k27, k37, hext7⟩, HM.out.put HG.out⟩
              case measure => rw [hrm7.left_eq, HLE.out]; exact hlt5
            · have HG : Hid (aged S W hh x f y = none) := aged_out FY.out hyx HS.out hch (by omega)
              have hold : Hid ((fo y).isSome = true) := by show (fo y).isSome = true; rw [HM.out y, LY.out]; simp [FY.out]
              clear hyx
              go_wp2_with (first
                | (go_at_call 46; refine (set_yes g y hy0 _).mono ?_; rintro e w6 ⟨rfl, hb6⟩; have hz6 := hb6.size; have him6 := him5.ext hb6; have hrm6 := hrm5.same (hb6.block hrm5.owns.lt) (hb6.block hrm5.lt); have k16 := k15.ext hb6; have k26 := k25.ext hb6; have k36 := k35.ext hb6; have hext6 := hext5.trans hb6; obtain ⟨u0, u1, u2, u3, u4⟩ := k16.c5; obtain ⟨v0, v1, v2, v3, v4⟩ := k36.c5)
                | (at_mapUpdate; refine wpList_store_old _ rfl _ _ _ rfl bo n fo rfl him6 (by unfold maxLen; omega) y (c + 1) rfl rfl hy (I64.of (by omega) (by omega)) hold.out ?_; intro w7 him7 hg7; have hz7 := hg7.size; have hrm7 := hrm6.grown hg7 (by simp; omega) (by simp; omega); have k17 := k16.grown hg7 (by simp; omega); have k27 := k26.grown hg7 (by simp; omega); have k37 := k36.grown hg7 (by simp; omega); have hext7 : Ext w w7 := hext6.grown hg7 (fun k e => by cases e; omega); obtain ⟨x0, x1, x2, x3, x4⟩ := k17.c5; obtain ⟨y0, y1, y2, y3, y4⟩ := k37.c5)
                | (at_delete; refine wpList_delete_im _ rfl _ _ rfl bo n _ rfl him7 y rfl hy ?_; intro w8 him8 hg8; have hz8 := hg8.size; have hrm8 := hrm7.grown hg8 (by simp; omega) (by simp; omega); have k18 := k17.grown hg8 (by simp; omega); have k28 := k27.grown hg8 (by simp; omega); have k38 := k37.grown hg8 (by simp; omega); have hext8 : Ext w w8 := hext7.grown hg8 (fun k e => by cases e; omega); go_frame))
              go_roundw
              case rel => exact ⟨_, cnt5, _, ⟨hrm8, him8, k18, k28, k38, hext8⟩, HM.out.cut HG.out⟩
              case measure => rw [hrm8.left_eq, HLE.out]; exact hlt5
          · have hch2 : hh < c := by omega
            have HG : Hid (aged S W hh x f y = f y) := (aged_keep FY.out (.inr (.inr hch2))).trans FY.out.symm
            clear hyx
            go_wp2_with (go_at_call 46; refine (set_yes g y hy0 _).mono ?_; rintro e w6 ⟨rfl, hb6⟩; have hz6 := hb6.size; have him6 := him5.ext hb6; have hrm6 := hrm5.same (hb6.block hrm5.owns.lt) (hb6.block hrm5.lt); have k16 := k15.ext hb6; have k26 := k25.ext hb6; have k36 := k35.ext hb6; have hext6 := hext5.trans hb6; obtain ⟨u0, u1, u2, u3, u4⟩ := k16.c5; obtain ⟨v0, v1, v2, v3, v4⟩ := k36.c5)
            go_roundw
            case rel => exact ⟨_, cnt5, fo, ⟨hrm6, him6, k16, k26, k36, hext6⟩, HM.out.keep HG.out⟩
            case measure => rw [hrm6.left_eq, HLE.out]; exact hlt5
        · have hs2 : (y % S != x % S) = true := by simpa using hs
          have HG : Hid (aged S W hh x f y = f y) := (aged_keep FY.out (.inr (.inl hs))).trans FY.out.symm
          clear hyx hs
          go_wp2_with (go_at_call 46; refine (set_yes g y hy0 _).mono ?_; rintro e w6 ⟨rfl, hb6⟩; have hz6 := hb6.size; have him6 := him5.ext hb6; have hrm6 := hrm5.same (hb6.block hrm5.owns.lt) (hb6.block hrm5.lt); have k16 := k15.ext hb6; have k26 := k25.ext hb6; have k36 := k35.ext hb6; have hext6 := hext5.trans hb6; obtain ⟨u0, u1, u2, u3, u4⟩ := k16.c5; obtain ⟨v0, v1, v2, v3, v4⟩ := k36.c5)
          go_roundw
          case rel => exact ⟨_, cnt5, fo, ⟨hrm6, him6, k16, k26, k36, hext6⟩, HM.out.keep HG.out⟩
          case measure => rw [hrm6.left_eq, HLE.out]; exact hlt5
set_option maxHeartbeats 1000000 in
theorem may_access_none {S W L : Int} (g : Geo S W L) (x : Int) (hx : 0 ≤ x) (hx2 : x ≤ 1000000) (b n : Nat) (f : FM) (w : World) (h : IMap w b n f) (hn : n ≤ 1000000) (hfit : Fit W f) (hfx : f x = none) :
    Calls Try.prog 32 #[.agg #[.int .i64 S, .int .i64 W, .int .i64 L, .bool false, .map (some b)], .int .i64 x] w fun e w' => ∃ b', (e = .returned (.agg #[.int .i64 S, .int .i64 W, .int .i64 L, .bool false, .map (some b')]) ∧ w.heap.size ≤ b') ∧ IMap w' b' (n + 1) (mayAcc S W f x) ∧ Ext w w' := by
  have hw1 := g.w1
  have hw8 := g.w8
  have wx : I64 x := I64.of (by omega) (by omega)
  have HF := Lib.hid hfx; clear hfx
  have HFIT := Lib.hid hfit; clear hfit
  have hb0 := h.lt
  go_enter Try.func32, Try.ntmps32
  go_wp2_with (first
    | (go_at_call 30; refine (valid_yes g _).mono ?_; rintro e w1 ⟨rfl, hb1⟩; have hz1 := hb1.size; simp at hz1; have q1 : w.heap.size < w1.heap.size := (by omega); have r1 : w.heap.size + 1 < w1.heap.size := (by omega)
       obtain ⟨a10, a11, a12, a13, a14⟩ := Blk.c5 (w := w1) (B := w.heap.size) (by repeat (first | (with_reducible assumption) | ((with_reducible refine Blk.new ?_); (first | (focus rfl) | (focus (simp; done)) | (focus omega))) | ((with_reducible refine Blk.set1 ?_ ?_); (focus omega)) | (with_reducible refine Blk.alloc ?_) | (refine Blk.ext ?_ (by with_reducible assumption)))))
    | (go_at_call 36; refine Calls.mono (may_copied S W L (some b) n f _ (.inr ⟨b, rfl, h.ext (by repeat (first | ((with_reducible refine Ext.set1 ?_ ?_); (first | (focus (simp; done)) | (focus (simp; omega)) | (focus omega))) | (with_reducible refine Ext.alloc ?_ _) | (with_reducible exact Ext.refl _) | (refine Ext.trans ?_ (by with_reducible assumption))))⟩)) ?_; rintro e w2 ⟨bo, ⟨rfl, hbo⟩, him2, hb2⟩; have hz2 := hb2.size; have q2 : w.heap.size < w2.heap.size := (by omega); have r2 : w.heap.size + 1 < w2.heap.size := (by omega)
       obtain ⟨a20, a21, a22, a23, a24⟩ := Blk.c5 (w := w2) (B := w.heap.size) (by repeat (first | (with_reducible assumption) | ((with_reducible refine Blk.new ?_); (first | (focus rfl) | (focus (simp; done)) | (focus omega))) | ((with_reducible refine Blk.set1 ?_ ?_); (focus omega)) | (with_reducible refine Blk.alloc ?_) | (refine Blk.ext ?_ (by with_reducible assumption)))))
    | (at_lookup; refine wpList_look_none _ rfl _ _ rfl (some b) n f rfl (.inr ⟨b, rfl, h.ext (by repeat (first | ((with_reducible refine Ext.set1 ?_ ?_); (first | (focus (simp; done)) | (focus (simp; omega)) | (focus omega))) | (with_reducible refine Ext.alloc ?_ _) | (with_reducible exact Ext.refl _) | (refine Ext.trans ?_ (by with_reducible assumption))))⟩) x rfl wx HF.out ?_)
    | (go_at_call 46; refine (set_yes g x hx _).mono ?_; rintro e w3 ⟨rfl, hb3⟩; have hz3 := hb3.size; simp at hz3; have q3 : w.heap.size < w3.heap.size := (by omega); have r3 : w.heap.size + 1 < w3.heap.size := (by omega); have s3 : w2.heap.size < w3.heap.size := (by omega)
       obtain ⟨a30, a31, a32, a33, a34⟩ := Blk.c5 (w := w3) (B := w.heap.size) (by repeat (first | (with_reducible assumption) | ((with_reducible refine Blk.new ?_); (first | (focus rfl) | (focus (simp; done)) | (focus omega))) | ((with_reducible refine Blk.set1 ?_ ?_); (focus omega)) | (with_reducible refine Blk.alloc ?_) | (refine Blk.ext ?_ (by with_reducible assumption)))))
    | (at_range; refine wpList_range_im _ rfl _ rfl w3.heap.size rfl b n f rfl (h.ext (by repeat (first | ((with_reducible refine Ext.set1 ?_ ?_); (first | (focus (simp; done)) | (focus (simp; omega)) | (focus omega))) | (with_reducible refine Ext.alloc ?_ _) | (with_reducible exact Ext.refl _) | (refine Ext.trans ?_ (by with_reducible assumption))))) ?_; intro w4 cnt4 hrm4 hb4 hs4 hcn4))
  have hbo2 := him2.lt
  have hw4 := hb4.size
  have k1 : Blk w4 w.heap.size (.cells #[.int .i64 S, .int .i64 W, .int .i64 L, .bool false, .map (some b)] 31) := (by repeat (first | (with_reducible assumption) | ((with_reducible refine Blk.new ?_); (first | (focus rfl) | (focus (simp; done)) | (focus omega))) | ((with_reducible refine Blk.set1 ?_ ?_); (focus omega)) | (with_reducible refine Blk.alloc ?_) | (refine Blk.ext ?_ (by with_reducible assumption))))
  have k2 : Blk w4 (w.heap.size + 1) (.cells #[.int .i64 0, .int .i64 0, .int .i64 0, .bool false, .map none] 31) := (by repeat (first | (with_reducible assumption) | ((with_reducible refine Blk.new ?_); (first | (focus rfl) | (focus (simp; done)) | (focus omega))) | ((with_reducible refine Blk.set1 ?_ ?_); (focus omega)) | (with_reducible refine Blk.alloc ?_) | (refine Blk.ext ?_ (by with_reducible assumption))))
  have k3 : Blk w4 w2.heap.size (.cells #[.int .i64 S, .int .i64 W, .int .i64 L, .bool false, .map (some bo)] 31) := (by repeat (first | (with_reducible assumption) | ((with_reducible refine Blk.new ?_); (first | (focus rfl) | (focus (simp; done)) | (focus omega))) | ((with_reducible refine Blk.set1 ?_ ?_); (focus omega)) | (with_reducible refine Blk.alloc ?_) | (refine Blk.ext ?_ (by with_reducible assumption))))
  have him4 : IMap w4 bo n f := (him2.alloc _).ext (hb3.trans hb4)
  have hext4 : Ext w w4 := (by repeat (first | ((with_reducible refine Ext.set1 ?_ ?_); (first | (focus (simp; done)) | (focus (simp; omega)) | (focus omega))) | (with_reducible refine Ext.alloc ?_ _) | (with_reducible exact Ext.refl _) | (refine Ext.trans ?_ (by with_reducible assumption))))
  clear a10 a11 a12 a13 a14 a20 a21 a22 a23 a24 a30 a31 a32 a33 a34
  go_frame
  go_loopw [9] (fun _ wr => ∃ (lf : Int → Bool) (cnt : Nat) (fo : FM), (RMap wr b w3.heap.size n f lf cnt ∧ IMap wr bo n fo ∧ Blk wr w.heap.size (.cells #[.int .i64 S, .int .i64 W, .int .i64 L, .bool false, .map (some b)] 31) ∧
      Blk wr (w.heap.size + 1) (.cells #[.int .i64 0, .int .i64 0, .int .i64 0, .bool false, .map none] 31) ∧ Blk wr w2.heap.size (.cells #[.int .i64 S, .int .i64 W, .int .i64 L, .bool false, .map (some bo)] 31) ∧ Ext w wr) ∧ Hid (Mid f (aged S W W x f) lf fo))
    (fun _ wr => wr.rangeLeft b w3.heap.size)
  case atStart => exact ⟨_, _, f, ⟨hrm4, him4, k1, k2, k3, hext4⟩, Mid.start fun y e => aged_none e⟩
  case round =>
    clear k1 k2 k3 him4 hext4 hrm4 hb4 hs4 hw4
    obtain ⟨lf, cnt, fo, ⟨hrm, him, k1, k2, k3, hext⟩, HM⟩ := hrel
    have hl1 := k1.lt
    have hl2 := k2.lt
    have hl3 := k3.lt
    go_wp2_with (at_next; refine wpList_next_im _ rfl _ rfl b w3.heap.size n f lf cnt rfl hrm ?_ ?_)
    · intro hdone
      have hwb := him.lt
      obtain ⟨c0, c1, c2, c3, c4⟩ := k3.c5
      go_wp2_with (at_mapUpdate; refine wpList_store_im _ rfl _ _ _ rfl bo n fo rfl him (by unfold maxLen; omega) x 0 rfl rfl wx (I64.of (by omega) (by omega)) ?_; intro w6 him6 hg6; have hz6 := hg6.size; obtain ⟨d0, d1, d2, d3, d4⟩ := (k3.grown hg6 (by simp; omega)).c5; have k26 := k2.grown hg6 (by simp; omega); obtain ⟨e0, e1, e2, e3, e4⟩ := k26.c5; obtain ⟨f0, f1, f2, f3, f4⟩ := k26.f5)
      have hext6 : Ext w w6 := hext.grown hg6 (fun k e => by cases e; omega)
      refine bodyPost_ret (v := .agg #[.int .i64 S, .int .i64 W, .int .i64 L, .bool false, .map (some bo)]) ?_ rfl ⟨bo, ⟨rfl, by omega⟩, ?_, ?_⟩
      · simp [results, Try.results32, go_sem, e0, e1, e2, e3, e4]
      · have himf : IMap w6 bo (n + 1) (mayAcc S W f x) := him6.congr (fun y => by unfold mayAcc; rw [HF.out]; unfold put; rw [HM.out.done hdone y]; rfl)
        clear him6
        exact (by (repeat (first | ((with_reducible refine IMap.set1 ?_ ?_); (focus omega)) | (with_reducible refine IMap.alloc ?_ _))); with_reducible assumption)
      · exact (by repeat (first | ((with_reducible refine Ext.set1 ?_ ?_); (first | (focus (simp; done)) | (focus (simp; omega)) | (focus omega))) | (with_reducible refine Ext.alloc ?_ _) | (with_reducible exact Ext.refl _) | (refine Ext.trans ?_ (by with_reducible assumption))))
    · intro y c w5 cnt5 hy hc hly hfy hrm5 hlt5 hg5 hs5 hen
      have FY := Lib.hid hfy
      have LY := Lib.hid hly
      clear hly hfy
      obtain ⟨hy0, hc0, hcW⟩ := HFIT.out y c FY.out
      have him5 := him.grown hg5 (by simp; omega)
      have k15 := k1.grown hg5 (by simp; omega)
      have k25 := k2.grown hg5 (by simp; omega)
      have k35 := k3.grown hg5 (by simp; omega)
      have hext5 : Ext w w5 := hext.grown hg5 (fun k e => by cases e; omega)
      have HLE := Lib.hid hrm.left_eq
      clear him k1 k2 k3 hext hrm
      have hwb := him5.lt
      obtain ⟨c0, c1, c2, c3, c4⟩ := k15.c5
      obtain ⟨d0, d1, d2, d3, d4⟩ := k35.c5
      by_cases hyx : y = x
      · -- the line itself
        have HG : Hid (aged S W W x f y = f y) := (aged_keep FY.out (.inl hyx)).trans FY.out.symm
        have hyx2 : (y == x) = true := by simpa using hyx
        clear hyx
        go_wp2
        go_roundw
        case rel => exact ⟨_, cnt5, fo, ⟨hrm5, him5, k15, k25, k35, hext5⟩, HM.out.keep HG.out⟩
        case measure => rw [hrm5.left_eq, HLE.out]; exact hlt5
      · have hyx2 : (y == x) = false := by simpa using hyx
        by_cases hs : y % S = x % S
        · have hs2 : (y % S != x % S) = false := by simpa using hs
          have HS := Lib.hid hs
          clear hs
          by_cases hch : c ≤ W
          · have hch2 : ¬ W < c := by omega
            by_cases hcw : c + 1 < W
            · have HG : Hid (aged S W W x f y = some (c + 1)) := aged_up FY.out hyx HS.out hch hcw
              have hold : Hid ((fo y).isSome = true) := by show (fo y).isSome = true; rw [HM.out y, LY.out]; simp [FY.out]
              clear hyx
              go_wp2_with (first
                | (go_at_call 46; refine (set_yes g y hy0 _).mono ?_; rintro e w6 ⟨rfl, hb6⟩; have hz6 := hb6.size; have him6 := him5.ext hb6; have hrm6 := hrm5.same (hb6.block hrm5.owns.lt) (hb6.block hrm5.lt); have k16 := k15.ext hb6; have k26 := k25.ext hb6; have k36 := k35.ext hb6; have hext6 := hext5.trans hb6; obtain ⟨u0, u1, u2, u3, u4⟩ := k16.c5; obtain ⟨v0, v1, v2, v3, v4⟩ := k36.c5)
                | (at_mapUpdate; refine wpList_store_old _ rfl _ _ _ rfl bo n fo rfl him6 (by unfold maxLen; omega) y (c + 1) rfl rfl hy (I64.of (by omega) (by omega)) hold.out ?_; intro w7 him7 hg7; have hz7 := hg7.size; have hrm7 := hrm6.grown hg7 (by simp; omega) (by simp; omega); have k17 := k16.grown hg7 (by simp; omega); have k27 := k26.grown hg7 (by simp; omega); have k37 := k36.grown hg7 (by simp; omega); have hext7 : Ext w w7 := hext6.grown hg7 (fun k e => by cases e; omega); obtain ⟨x0, x1, x2, x3, x4⟩ := k17.c5))
              go_roundw
              case rel => exact ⟨_, cnt5, _, ⟨hrm7, him7, k17, k27, k37, hext7⟩, HM.out.put HG.out⟩
              case measure => rw [hrm7.left_eq, HLE.out]; exact hlt5
            · have HG : Hid (aged S W W x f y = none) := aged_out FY.out hyx HS.out hch (by omega)
              have hold : Hid ((fo y).isSome = true) := by show (fo y).isSome = true; rw [HM.out y, LY.out]; simp [FY.out]
              clear hyx
              go_wp2_with (first
                | (go_at_call 46; refine (set_yes g y hy0 _).mono ?_; rintro e w6 ⟨rfl, hb6⟩; have hz6 := hb6.size; have him6 := him5.ext hb6; have hrm6 := hrm5.same (hb6.block hrm5.owns.lt) (hb6.block hrm5.lt); have k16 := k15.ext hb6; have k26 := k25.ext hb6; have k36 := k35.ext hb6; have hext6 := hext5.trans hb6; obtain ⟨u0, u1, u2, u3, u4⟩ := k16.c5; obtain ⟨v0, v1, v2, v3, v4⟩ := k36.c5)
                | (at_mapUpdate; refine wpList_store_old _ rfl _ _ _ rfl bo n fo rfl him6 (by unfold maxLen; omega) y (c + 1) rfl rfl hy (I64.of (by omega) (by omega)) hold.out ?_; intro w7 him7 hg7; have hz7 := hg7.size; have hrm7 := hrm6.grown hg7 (by simp; omega) (by simp; omega); have k17 := k16.grown hg7 (by simp; omega); have k27 := k26.grown hg7 (by simp; omega); have k37 := k36.grown hg7 (by simp; omega); have hext7 : Ext w w7 := hext6.grown hg7 (fun k e => by cases e; omega); obtain ⟨x0, x1, x2, x3, x4⟩ := k17.c5; obtain ⟨y0, y1, y2, y3, y4⟩ := k37.c5)
                | (at_delete; refine wpList_delete_im _ rfl _ _ rfl bo n _ rfl him7 y rfl hy ?_; intro w8 him8 hg8; have hz8 := hg8.size; have hrm8 := hrm7.grown hg8 (by simp; omega) (by simp; omega); have k18 := k17.grown hg8 (by simp; omega); have k28 := k27.grown hg8 (by simp; omega); have k38 := k37.grown hg8 (by simp; omega); have hext8 : Ext w w8 := hext7.grown hg8 (fun k e => by cases e; omega); go_frame))
              go_roundw
              case rel => exact ⟨_, cnt5, _, ⟨hrm8, him8, k18, k28, k38, hext8⟩, HM.out.cut HG.out⟩
              case measure => rw [hrm8.left_eq, HLE.out]; exact hlt5
          · exact absurd hch (by omega)
        · have hs2 : (y % S != x % S) = true := by simpa using hs
          have HG : Hid (aged S W W x f y = f y) := (aged_keep FY.out (.inr (.inl hs))).trans FY.out.symm
          clear hyx hs
          go_wp2_with (go_at_call 46; refine (set_yes g y hy0 _).mono ?_; rintro e w6 ⟨rfl, hb6⟩; have hz6 := hb6.size; have him6 := him5.ext hb6; have hrm6 := hrm5.same (hb6.block hrm5.owns.lt) (hb6.block hrm5.lt); have k16 := k15.ext hb6; have k26 := k25.ext hb6; have k36 := k35.ext hb6; have hext6 := hext5.trans hb6; obtain ⟨u0, u1, u2, u3, u4⟩ := k16.c5; obtain ⟨v0, v1, v2, v3, v4⟩ := k36.c5)
          go_roundw
          case rel => exact ⟨_, cnt5, fo, ⟨hrm6, him6, k16, k26, k36, hext6⟩, HM.out.keep HG.out⟩
          case measure => rw [hrm6.left_eq, HLE.out]; exact hlt5
set_option maxHeartbeats 1000000 in
theorem may_access_nil {S W L : Int} (g : Geo S W L) (x : Int) (hx : 0 ≤ x) (hx2 : x ≤ 1000000) (n : Nat) (f : FM) (w : World) (hf : ∀ y, f y = none) (hn : n ≤ 1000000) :
    Calls Try.prog 32 #[.agg #[.int .i64 S, .int .i64 W, .int .i64 L, .bool false, .map none], .int .i64 x] w fun e w' => ∃ b', (e = .returned (.agg #[.int .i64 S, .int .i64 W, .int .i64 L, .bool false, .map (some b')]) ∧ w.heap.size ≤ b') ∧ IMap w' b' (n + 1) (mayAcc S W f x) ∧ Ext w w' := by
  have hw1 := g.w1
  have hw8 := g.w8
  have wx : I64 x := I64.of (by omega) (by omega)
  have HF := Lib.hid hf; clear hf
  have hrg := fun w => run_range_nilMap (P := Try.prog) w 29 _ _ Try.underlying29
  have hnx := fun w ty => run_next_nilMap (P := Try.prog) w ty 0 0 #[]
  go_enter Try.func32, Try.ntmps32
  go_wp2_with (first
    | (go_at_call 30; refine (valid_yes g _).mono ?_; rintro e w1 ⟨rfl, hb1⟩; have hz1 := hb1.size; simp at hz1; have q1 : w.heap.size < w1.heap.size := (by omega); have r1 : w.heap.size + 1 < w1.heap.size := (by omega)
       obtain ⟨a10, a11, a12, a13, a14⟩ := Blk.c5 (w := w1) (B := w.heap.size) (by repeat (first | (with_reducible assumption) | ((with_reducible refine Blk.new ?_); (first | (focus rfl) | (focus (simp; done)) | (focus omega))) | ((with_reducible refine Blk.set1 ?_ ?_); (focus omega)) | (with_reducible refine Blk.alloc ?_) | (refine Blk.ext ?_ (by with_reducible assumption)))))
    | (go_at_call 36; refine Calls.mono (may_copied S W L none n f _ (.inl ⟨rfl, HF.out⟩)) ?_; rintro e w2 ⟨bo, ⟨rfl, hbo⟩, him2, hb2⟩; have hz2 := hb2.size; have q2 : w.heap.size < w2.heap.size := (by omega); have r2 : w.heap.size + 1 < w2.heap.size := (by omega)
       obtain ⟨a20, a21, a22, a23, a24⟩ := Blk.c5 (w := w2) (B := w.heap.size) (by repeat (first | (with_reducible assumption) | ((with_reducible refine Blk.new ?_); (first | (focus rfl) | (focus (simp; done)) | (focus omega))) | ((with_reducible refine Blk.set1 ?_ ?_); (focus omega)) | (with_reducible refine Blk.alloc ?_) | (refine Blk.ext ?_ (by with_reducible assumption)))))
    | (at_lookup; refine wpList_look_none _ rfl _ _ rfl none n f rfl (.inl ⟨rfl, HF.out⟩) x rfl wx (HF.out x) ?_)
    | (go_at_call 46; refine (set_yes g x hx _).mono ?_; rintro e w3 ⟨rfl, hb3⟩; have hz3 := hb3.size; simp at hz3; have q3 : w.heap.size < w3.heap.size := (by omega); have r3 : w.heap.size + 1 < w3.heap.size := (by omega); have s3 : w2.heap.size < w3.heap.size := (by omega)
       obtain ⟨a30, a31, a32, a33, a34⟩ := Blk.c5 (w := w3) (B := w.heap.size) (by repeat (first | (with_reducible assumption) | ((with_reducible refine Blk.new ?_); (first | (focus rfl) | (focus (simp; done)) | (focus omega))) | ((with_reducible refine Blk.set1 ?_ ?_); (focus omega)) | (with_reducible refine Blk.alloc ?_) | (refine Blk.ext ?_ (by with_reducible assumption))))))
  have hbo2 := him2.lt
  have k2 : Blk w3 (w.heap.size + 1) (.cells #[.int .i64 0, .int .i64 0, .int .i64 0, .bool false, .map none] 31) := (by repeat (first | (with_reducible assumption) | ((with_reducible refine Blk.new ?_); (first | (focus rfl) | (focus (simp; done)) | (focus omega))) | ((with_reducible refine Blk.set1 ?_ ?_); (focus omega)) | (with_reducible refine Blk.alloc ?_) | (refine Blk.ext ?_ (by with_reducible assumption))))
  have k3 : Blk w3 w2.heap.size (.cells #[.int .i64 S, .int .i64 W, .int .i64 L, .bool false, .map (some bo)] 31) := (by repeat (first | (with_reducible assumption) | ((with_reducible refine Blk.new ?_); (first | (focus rfl) | (focus (simp; done)) | (focus omega))) | ((with_reducible refine Blk.set1 ?_ ?_); (focus omega)) | (with_reducible refine Blk.alloc ?_) | (refine Blk.ext ?_ (by with_reducible assumption))))
  have him3 : IMap w3 bo n f := (him2.alloc _).ext hb3
  have hext3 : Ext w w3 := (by repeat (first | ((with_reducible refine Ext.set1 ?_ ?_); (first | (focus (simp; done)) | (focus (simp; omega)) | (focus omega))) | (with_reducible refine Ext.alloc ?_ _) | (with_reducible exact Ext.refl _) | (refine Ext.trans ?_ (by with_reducible assumption))))
  clear a10 a11 a12 a13 a14 a20 a21 a22 a23 a24 a30 a31 a32 a33 a34 hb1 hb2 hb3
  obtain ⟨c0, c1, c2, c3, c4⟩ := k3.c5
  refine wp_loop_rounds 1 ?_
  rw [rounds_succ]
  go_wp2_with (at_mapUpdate; refine wpList_store_im _ rfl _ _ _ rfl bo n f rfl (him3.alloc _) (by unfold maxLen; omega) x 0 rfl rfl wx (I64.of (by omega) (by omega)) ?_; intro w6 him6 hg6; have hz6 := hg6.size; simp at hz6; obtain ⟨d0, d1, d2, d3, d4⟩ := ((k3.alloc (o' := .mapIter none 0 #[] 0)).grown hg6 (by simp; omega)).c5; have k26 := (k2.alloc (o' := .mapIter none 0 #[] 0)).grown hg6 (by simp; omega); obtain ⟨e0, e1, e2, e3, e4⟩ := k26.c5; obtain ⟨f0, f1, f2, f3, f4⟩ := k26.f5)
  have hext6 : Ext w w6 := (hext3.alloc _).grown hg6 (fun k e => by cases e; omega)
  refine bodyPost_ret (v := .agg #[.int .i64 S, .int .i64 W, .int .i64 L, .bool false, .map (some bo)]) ?_ rfl ⟨bo, ⟨rfl, by omega⟩, ?_, ?_⟩
  · simp [results, Try.results32, go_sem, e0, e1, e2, e3, e4]
  · have himf : IMap w6 bo (n + 1) (mayAcc S W f x) := him6.congr (fun y => by unfold mayAcc put; rw [aged_none (HF.out y), HF.out y])
    clear him6
    exact (by (repeat (first | ((with_reducible refine IMap.set1 ?_ ?_); (focus omega)) | (with_reducible refine IMap.alloc ?_ _))); with_reducible assumption)
  · exact (by repeat (first | ((with_reducible refine Ext.set1 ?_ ?_); (first | (focus (simp; done)) | (focus (simp; omega)) | (focus omega))) | (with_reducible refine Ext.alloc ?_ _) | (with_reducible exact Ext.refl _) | (refine Ext.trans ?_ (by with_reducible assumption))))

/-- (may.State).Access at a state that is known. -/
theorem may_access {S W L : Int} (g : Geo S W L) (x : Int) (hx : 0 ≤ x) (hx2 : x ≤ 1000000) (p : Option Nat) (n : Nat) (f : FM) (w : World) (h : IMapO w p n f) (hn : n ≤ 1000000) (hfit : Fit W f) :
    Calls Try.prog 32 #[.agg #[.int .i64 S, .int .i64 W, .int .i64 L, .bool false, .map p], .int .i64 x] w fun e w' => ∃ b', (e = .returned (.agg #[.int .i64 S, .int .i64 W, .int .i64 L, .bool false, .map (some b')]) ∧ w.heap.size ≤ b') ∧ IMap w' b' (n + 1) (mayAcc S W f x) ∧ Ext w w' := by
  rcases h with ⟨rfl, h⟩ | ⟨b, rfl, h⟩
  · exact may_access_nil g x hx hx2 n f w h hn
  · cases hf : f x with
    | none => exact may_access_none g x hx hx2 b n f w h hn hfit hf
    | some c => exact may_access_some g x hx hx2 b n f w h hn hfit c hf

set_option maxHeartbeats 400000 in
/-- .. at an unknown one: it stays. -/
theorem may_access_unknown (S W L x : Int) (p : Option Nat) (w : World) :
    Calls Try.prog 32 #[.agg #[.int .i64 S, .int .i64 W, .int .i64 L, .bool true, .map p], .int .i64 x] w fun e w' => e = .returned (.agg #[.int .i64 S, .int .i64 W, .int .i64 L, .bool true, .map p]) ∧ Ext w w' := by
  go_enter Try.func32, Try.ntmps32
  go_wp2
  refine bodyPost_ret (v := .agg #[.int .i64 S, .int .i64 W, .int .i64 L, .bool true, .map p]) ?_ rfl ⟨rfl, (by repeat (first | ((with_reducible refine Ext.set1 ?_ ?_); (first | (focus (simp; done)) | (focus (simp; omega)) | (focus omega))) | (with_reducible refine Ext.alloc ?_ _) | (with_reducible exact Ext.refl _) | (refine Ext.trans ?_ (by with_reducible assumption))))⟩
  simp [results, Try.results32, go_sem]
set_option maxHeartbeats 400000 in
/-- .. of a line that does not exist. -/
theorem may_access_neg (S W L x : Int) (p : Option Nat) (w : World) (hx : x < 0) :
    Calls Try.prog 32 #[.agg #[.int .i64 S, .int .i64 W, .int .i64 L, .bool false, .map p], .int .i64 x] w fun e w' => e = .returned (.agg #[.int .i64 S, .int .i64 W, .int .i64 L, .bool false, .map p]) ∧ Ext w w' := by
  go_enter Try.func32, Try.ntmps32
  go_wp2
  refine bodyPost_ret (v := .agg #[.int .i64 S, .int .i64 W, .int .i64 L, .bool false, .map p]) ?_ rfl ⟨rfl, (by repeat (first | ((with_reducible refine Ext.set1 ?_ ?_); (first | (focus (simp; done)) | (focus (simp; omega)) | (focus omega))) | (with_reducible refine Ext.alloc ?_ _) | (with_reducible exact Ext.refl _) | (refine Ext.trans ?_ (by with_reducible assumption))))⟩
  simp [results, Try.results32, go_sem]
end Go.Proofs.Ytjckghdgogkeaaa
