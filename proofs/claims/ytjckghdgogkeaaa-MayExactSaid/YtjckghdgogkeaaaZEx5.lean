/- The contract of may.Join. -/
import Derived.Test.YtjckghdgogkeaaaZEx4
namespace Go.Proofs.Ytjckghdgogkeaaa
open Go.RowKit Go.Maps
set_option linter.unusedVariables false

theorem Mid.start' {f g J : FM} (h : ∀ y, g y = none → J y = f y) : Mid f J (fun y => (g y).isSome) f := fun y => by
  show f y = if (g y).isSome = true then f y else J y
  cases hg : g y with
  | none => simp [h y hg]
  | some c => simp

set_option maxHeartbeats 400000 in
theorem may_join_unk1 (S W L S' W' L' : Int) (p q : Option Nat) (v : Bool) (w : World) :
    Calls Try.prog 17 #[.agg #[.int .i64 S, .int .i64 W, .int .i64 L, .bool true, .map p], .agg #[.int .i64 S', .int .i64 W', .int .i64 L', .bool v, .map q]] w fun e w' => e = .returned (.agg #[.int .i64 S, .int .i64 W, .int .i64 L, .bool true, .map none]) ∧ Ext w w' := by
  go_enter Try.func17, Try.ntmps17
  go_wp2
  refine bodyPost_ret (v := .agg #[.int .i64 S, .int .i64 W, .int .i64 L, .bool true, .map none]) ?_ rfl ⟨rfl, (by repeat (first | ((with_reducible refine Ext.set1 ?_ ?_); (first | (focus (simp; done)) | (focus (simp; omega)) | (focus omega))) | (with_reducible refine Ext.alloc ?_ _) | (with_reducible exact Ext.refl _) | (refine Ext.trans ?_ (by with_reducible assumption))))⟩
  simp [results, Try.results17, go_sem]
set_option maxHeartbeats 400000 in
theorem may_join_unk2 (S W L S' W' L' : Int) (p q : Option Nat) (w : World) :
    Calls Try.prog 17 #[.agg #[.int .i64 S, .int .i64 W, .int .i64 L, .bool false, .map p], .agg #[.int .i64 S', .int .i64 W', .int .i64 L', .bool true, .map q]] w fun e w' => e = .returned (.agg #[.int .i64 S, .int .i64 W, .int .i64 L, .bool true, .map none]) ∧ Ext w w' := by
  go_enter Try.func17, Try.ntmps17
  go_wp2
  refine bodyPost_ret (v := .agg #[.int .i64 S, .int .i64 W, .int .i64 L, .bool true, .map none]) ?_ rfl ⟨rfl, (by repeat (first | ((with_reducible refine Ext.set1 ?_ ?_); (first | (focus (simp; done)) | (focus (simp; omega)) | (focus omega))) | (with_reducible refine Ext.alloc ?_ _) | (with_reducible exact Ext.refl _) | (refine Ext.trans ?_ (by with_reducible assumption))))⟩
  simp [results, Try.results17, go_sem]

set_option maxHeartbeats 400000 in
theorem may_join_nil (S W L : Int) (p : Option Nat) (n : Nat) (f : FM) (w : World) (h : IMapO w p n f) :
    Calls Try.prog 17 #[.agg #[.int .i64 S, .int .i64 W, .int .i64 L, .bool false, .map p], .agg #[.int .i64 S, .int .i64 W, .int .i64 L, .bool false, .map none]] w fun e w' => ∃ b', (e = .returned (.agg #[.int .i64 S, .int .i64 W, .int .i64 L, .bool false, .map (some b')]) ∧ w.heap.size ≤ b') ∧ IMap w' b' n f ∧ Ext w w' := by
  have hrg := fun w => run_range_nilMap (P := Try.prog) w 29 _ _ Try.underlying29
  have hnx : ∀ (w : World) (X : Obj) (ty : TypeId), (Instr.next (.pointer (some ⟨w.heap.size + 1, 0, none⟩)) false ty).run Try.prog ((w.alloc X).alloc (.mapIter none 0 #[] 0)) = .ok (.tuple #[.bool false]) ((w.alloc X).alloc (.mapIter none 0 #[] 0)) := fun w X ty => by
    have := run_next_nilMap (P := Try.prog) (w.alloc X) ty 0 0 #[]
    rwa [World.size_alloc] at this
  go_enter Try.func17, Try.ntmps17
  go_wp2_with (go_at_call 36; refine Calls.mono (may_copied S W L p n f _ (h.ext (by repeat (first | ((with_reducible refine Ext.set1 ?_ ?_); (first | (focus (simp; done)) | (focus (simp; omega)) | (focus omega))) | (with_reducible refine Ext.alloc ?_ _) | (with_reducible exact Ext.refl _) | (refine Ext.trans ?_ (by with_reducible assumption)))))) ?_; rintro e w2 ⟨bo, ⟨rfl, hbo⟩, him2, hb2⟩; simp at hbo; have hz2 := hb2.size; simp at hz2; have q2 : w.heap.size < w2.heap.size := (by omega); have r2 : w.heap.size + 1 < w2.heap.size := (by omega); have s2 : w.heap.size + 1 + 1 < w2.heap.size := (by omega); obtain ⟨a0, a1, a2, a3, a4⟩ := Blk.c5 (w := w2) (B := w.heap.size + 1) (by repeat (first | (with_reducible assumption) | ((with_reducible refine Blk.new ?_); (first | (focus rfl) | (focus (simp; done)) | (focus omega))) | ((with_reducible refine Blk.set1 ?_ ?_); (focus omega)) | (with_reducible refine Blk.alloc ?_) | (refine Blk.ext ?_ (by with_reducible assumption)))))
  have k2 : Blk w2 (w.heap.size + 1 + 1) (.cells #[.int .i64 0, .int .i64 0, .int .i64 0, .bool false, .map none] 31) := (by repeat (first | (with_reducible assumption) | ((with_reducible refine Blk.new ?_); (first | (focus rfl) | (focus (simp; done)) | (focus omega))) | ((with_reducible refine Blk.set1 ?_ ?_); (focus omega)) | (with_reducible refine Blk.alloc ?_) | (refine Blk.ext ?_ (by with_reducible assumption))))
  obtain ⟨e0, e1, e2, e3, e4⟩ := k2.c5
  obtain ⟨f0, f1, f2, f3, f4⟩ := k2.f5
  refine wp_loop_rounds 1 ?_
  rw [rounds_succ]
  go_wp2
  refine bodyPost_ret (v := .agg #[.int .i64 S, .int .i64 W, .int .i64 L, .bool false, .map (some bo)]) ?_ rfl ⟨bo, ⟨rfl, by omega⟩, ?_, ?_⟩
  · simp [results, Try.results17, go_sem, e0, e1, e2, e3, e4, r2, s2]
  · exact (by (repeat (first | ((with_reducible refine IMap.set1 ?_ ?_); (focus omega)) | (with_reducible refine IMap.alloc ?_ _))); with_reducible assumption)
  · exact (by repeat (first | ((with_reducible refine Ext.set1 ?_ ?_); (first | (focus (simp; done)) | (focus (simp; omega)) | (focus omega))) | (with_reducible refine Ext.alloc ?_ _) | (with_reducible exact Ext.refl _) | (refine Ext.trans ?_ (by with_reducible assumption))))

set_option maxHeartbeats 1000000 in
theorem may_join_some (S W L : Int) (p : Option Nat) (n : Nat) (f : FM) (b m : Nat) (g : FM) (w : World) (h : IMapO w p n f) (k : IMap w b m g) (hn : n ≤ 1000000) (hm : m ≤ 1000000) :
    Calls Try.prog 17 #[.agg #[.int .i64 S, .int .i64 W, .int .i64 L, .bool false, .map p], .agg #[.int .i64 S, .int .i64 W, .int .i64 L, .bool false, .map (some b)]] w fun e w' => ∃ b', (e = .returned (.agg #[.int .i64 S, .int .i64 W, .int .i64 L, .bool false, .map (some b')]) ∧ w.heap.size ≤ b') ∧ IMap w' b' (n + m) (joined f g) ∧ Ext w w' := by
  have hb0 := k.lt
  go_enter Try.func17, Try.ntmps17
  go_wp2_with (first
    | (go_at_call 36; refine Calls.mono (may_copied S W L p n f _ (h.ext (by repeat (first | ((with_reducible refine Ext.set1 ?_ ?_); (first | (focus (simp; done)) | (focus (simp; omega)) | (focus omega))) | (with_reducible refine Ext.alloc ?_ _) | (with_reducible exact Ext.refl _) | (refine Ext.trans ?_ (by with_reducible assumption)))))) ?_; rintro e w2 ⟨bo, ⟨rfl, hbo⟩, him2, hb2⟩; simp at hbo; have hz2 := hb2.size; simp at hz2; have q2 : w.heap.size < w2.heap.size := (by omega); have r2 : w.heap.size + 1 < w2.heap.size := (by omega); have s2 : w.heap.size + 1 + 1 < w2.heap.size := (by omega); obtain ⟨a0, a1, a2, a3, a4⟩ := Blk.c5 (w := w2) (B := w.heap.size + 1) (by repeat (first | (with_reducible assumption) | ((with_reducible refine Blk.new ?_); (first | (focus rfl) | (focus (simp; done)) | (focus omega))) | ((with_reducible refine Blk.set1 ?_ ?_); (focus omega)) | (with_reducible refine Blk.alloc ?_) | (refine Blk.ext ?_ (by with_reducible assumption)))))
    | (at_range; refine wpList_range_im _ rfl _ rfl (w2.heap.size + 1) (by simp) b m g rfl (k.ext (by repeat (first | ((with_reducible refine Ext.set1 ?_ ?_); (first | (focus (simp; done)) | (focus (simp; omega)) | (focus omega))) | (with_reducible refine Ext.alloc ?_ _) | (with_reducible exact Ext.refl _) | (refine Ext.trans ?_ (by with_reducible assumption))))) ?_; intro w4 cnt4 hrm4 hb4 hs4 hcn4))
  have hbo2 := him2.lt
  have k2 : Blk w4 (w.heap.size + 1 + 1) (.cells #[.int .i64 0, .int .i64 0, .int .i64 0, .bool false, .map none] 31) := (by repeat (first | (with_reducible assumption) | ((with_reducible refine Blk.new ?_); (first | (focus rfl) | (focus (simp; done)) | (focus omega))) | ((with_reducible refine Blk.set1 ?_ ?_); (focus omega)) | (with_reducible refine Blk.alloc ?_) | (refine Blk.ext ?_ (by with_reducible assumption))))
  have k3 : Blk w4 w2.heap.size (.cells #[.int .i64 S, .int .i64 W, .int .i64 L, .bool false, .map (some bo)] 31) := (by repeat (first | (with_reducible assumption) | ((with_reducible refine Blk.new ?_); (first | (focus rfl) | (focus (simp; done)) | (focus omega))) | ((with_reducible refine Blk.set1 ?_ ?_); (focus omega)) | (with_reducible refine Blk.alloc ?_) | (refine Blk.ext ?_ (by with_reducible assumption))))
  have him4 : IMap w4 bo n f := (him2.alloc _).ext hb4
  have hext4 : Ext w w4 := (by repeat (first | ((with_reducible refine Ext.set1 ?_ ?_); (first | (focus (simp; done)) | (focus (simp; omega)) | (focus omega))) | (with_reducible refine Ext.alloc ?_ _) | (with_reducible exact Ext.refl _) | (refine Ext.trans ?_ (by with_reducible assumption))))
  clear a0 a1 a2 a3 a4
  go_frame
  go_loopw [6] (fun _ wr => ∃ (lf : Int → Bool) (cnt j : Nat) (fo : FM), (RMap wr b (w2.heap.size + 1) m g lf cnt ∧ (IMap wr bo j fo ∧ j + cnt ≤ n + m) ∧
      Blk wr (w.heap.size + 1 + 1) (.cells #[.int .i64 0, .int .i64 0, .int .i64 0, .bool false, .map none] 31) ∧ Blk wr w2.heap.size (.cells #[.int .i64 S, .int .i64 W, .int .i64 L, .bool false, .map (some bo)] 31) ∧ Ext w wr) ∧ Hid (Mid f (joined f g) lf fo))
    (fun _ wr => wr.rangeLeft b (w2.heap.size + 1))
  case atStart => exact ⟨_, _, n, f, ⟨hrm4, ⟨him4, by omega⟩, k2, k3, hext4⟩, Mid.start' fun y e => by unfold joined; rw [e]; cases f y <;> rfl⟩
  case round =>
    clear k2 k3 him4 hext4 hrm4 hb4 hs4
    obtain ⟨lf, cnt, j, fo, ⟨hrm, ⟨him, hj⟩, k2, k3, hext⟩, HM⟩ := hrel
    have hl2 := k2.lt
    have hl3 := k3.lt
    have hrl := hrm.lt
    go_wp2_with (at_next; refine wpList_next_im _ rfl _ rfl b (w2.heap.size + 1) m g lf cnt rfl hrm ?_ ?_)
    · intro hdone
      have hwb := him.lt
      obtain ⟨c0, c1, c2, c3, c4⟩ := k3.c5
      obtain ⟨e0, e1, e2, e3, e4⟩ := k2.c5
      obtain ⟨f0, f1, f2, f3, f4⟩ := k2.f5
      go_wp2
      refine bodyPost_ret (v := .agg #[.int .i64 S, .int .i64 W, .int .i64 L, .bool false, .map (some bo)]) ?_ rfl ⟨bo, ⟨rfl, by omega⟩, ?_, ?_⟩
      · simp [results, Try.results17, go_sem, e0, e1, e2, e3, e4]
      · have himf : IMap wr bo (n + m) (joined f g) := (him.congr (HM.out.done hdone)).mono (by omega)
        clear him
        exact (by (repeat (first | ((with_reducible refine IMap.set1 ?_ ?_); (focus omega)) | (with_reducible refine IMap.alloc ?_ _))); with_reducible assumption)
      · exact (by repeat (first | ((with_reducible refine Ext.set1 ?_ ?_); (first | (focus (simp; done)) | (focus (simp; omega)) | (focus omega))) | (with_reducible refine Ext.alloc ?_ _) | (with_reducible exact Ext.refl _) | (refine Ext.trans ?_ (by with_reducible assumption))))
    · intro y c w5 cnt5 hy hc hly hgy hrm5 hlt5 hg5 hs5 hen
      have GY := Lib.hid hgy
      have LY := Lib.hid hly
      clear hly hgy
      have him5 := him.grown hg5 (by simp <;> omega)
      have k25 := k2.grown hg5 (by simp <;> omega)
      have k35 := k3.grown hg5 (by simp <;> omega)
      have hext5 : Ext w w5 := hext.grown hg5 (fun k e => by cases e; omega)
      have HLE := Lib.hid hrm.left_eq
      clear him k2 k3 hext hrm
      have hwb := him5.lt
      obtain ⟨d0, d1, d2, d3, d4⟩ := k35.c5
      have FO : Hid (fo y = f y) := by show fo y = f y; rw [HM.out y, LY.out]; rfl
      cases hfy : f y with
      | none =>
        have HFO : Hid (fo y = none) := FO.out.trans hfy
        have HG : Hid (joined f g y = some c) := by show least (f y) (g y) = some c; rw [hfy, GY.out]; rfl
        clear hfy
        go_wp2_with (first
          | (at_lookup; refine wpList_look_none _ rfl _ _ rfl (some bo) j fo rfl (.inr ⟨bo, rfl, him5⟩) y rfl hy HFO.out ?_)
          | (at_mapUpdate; refine wpList_store_im _ rfl _ _ _ rfl bo j fo rfl him5 (by unfold maxLen; omega) y c rfl rfl hy hc ?_; intro w7 him7 hg7; have hz7 := hg7.size; have hrm7 := hrm5.grown hg7 (by simp <;> omega) (by simp <;> omega); have k27 := k25.grown hg7 (by simp <;> omega); have k37 := k35.grown hg7 (by simp <;> omega); have hext7 : Ext w w7 := hext5.grown hg7 (fun k e => by cases e; omega); go_frame))
        go_roundw
        case rel => exact ⟨_, cnt5, j + 1, _, ⟨hrm7, ⟨him7, by omega⟩, k27, k37, hext7⟩, HM.out.put HG.out⟩
        case measure => rw [hrm7.left_eq, HLE.out]; exact hlt5
      | some d =>
        have HFO : Hid (fo y = some d) := FO.out.trans hfy
        by_cases hcd : c < d
        · have HG : Hid (joined f g y = some c) := by show least (f y) (g y) = some c; rw [hfy, GY.out]; simp [least, hcd]
          have hold : Hid ((fo y).isSome = true) := by show (fo y).isSome = true; rw [HFO.out]; rfl
          clear hfy
          go_wp2_with (first
            | (at_lookup; refine wpList_look_some _ rfl _ _ rfl (some bo) j fo rfl (.inr ⟨bo, rfl, him5⟩) y rfl hy d HFO.out ?_)
            | (at_mapUpdate; refine wpList_store_old _ rfl _ _ _ rfl bo j fo rfl him5 (by unfold maxLen; omega) y c rfl rfl hy hc hold.out ?_; intro w7 him7 hg7; have hz7 := hg7.size; have hrm7 := hrm5.grown hg7 (by simp <;> omega) (by simp <;> omega); have k27 := k25.grown hg7 (by simp <;> omega); have k37 := k35.grown hg7 (by simp <;> omega); have hext7 : Ext w w7 := hext5.grown hg7 (fun k e => by cases e; omega); go_frame))
          go_roundw
          case rel => exact ⟨_, cnt5, j, _, ⟨hrm7, ⟨him7, by omega⟩, k27, k37, hext7⟩, HM.out.put HG.out⟩
          case measure => rw [hrm7.left_eq, HLE.out]; exact hlt5
        · have HG : Hid (joined f g y = f y) := by show least (f y) (g y) = f y; rw [hfy, GY.out]; simp [least, hcd]
          clear hfy
          go_wp2_with (at_lookup; refine wpList_look_some _ rfl _ _ rfl (some bo) j fo rfl (.inr ⟨bo, rfl, him5⟩) y rfl hy d HFO.out ?_)
          go_roundw
          case rel => exact ⟨_, cnt5, j, fo, ⟨hrm5, ⟨him5, by omega⟩, k25, k35, hext5⟩, HM.out.keep HG.out⟩
          case measure => rw [hrm5.left_eq, HLE.out]; exact hlt5
end Go.Proofs.Ytjckghdgogkeaaa
