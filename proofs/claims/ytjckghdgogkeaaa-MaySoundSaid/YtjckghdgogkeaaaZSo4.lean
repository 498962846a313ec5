/- The contract of may.Join. -/
import Derived.Test.YtjckghdgogkeaaaZSo3
import Derived.Test.YtjckghdgogkeaaaZSo2
import Derived.Test.YtjckghdgogkeaaaLay2
import Derived.Test.YtjckghdgogkeaaaPMayDescribesx4
import Derived.Test.YtjckghdgogkeaaaPMayDescribesx5
namespace Go.Proofs.Ytjckghdgogkeaaa
open Go.RowKit Go.Maps
set_option linter.unusedVariables false

theorem Mid.start' {f g J : FM} (h : ∀ y, g y = none → J y = f y) : Mid f J (fun y => (g y).isSome) f := fun y => by
  show f y = if (g y).isSome = true then f y else J y
  cases hg : g y with
  | none => simp [h y hg]
  | some c => simp

set_option maxHeartbeats 400000 in
theorem may_join_unk1 (S W L S' W' L' : Int) (p q : Option Nat) (v : Bool) (w : World) :
    Calls Try.prog 17 #[.agg #[.int .i64 S, .int .i64 W, .int .i64 L, .bool true, .map p], .agg #[.int .i64 S', .int .i64 W', .int .i64 L', .bool v, .map q]] w fun e w' => e = .returned (.agg #[.int .i64 S, .int .i64 W, .int .i64 L, .bool true, .map none]) ∧ Ext w w' := by
  go_enter Try.func17, Try.ntmps17
  go_wp2
  refine bodyPost_ret (v := .agg #[.int .i64 S, .int .i64 W, .int .i64 L, .bool true, .map none]) ?_ rfl ⟨rfl, (by repeat (first | ((with_reducible refine Ext.set1 ?_ ?_); (first | (focus (simp; done)) | (focus (simp; omega)) | (focus omega))) | (with_reducible refine Ext.alloc ?_ _) | (with_reducible exact Ext.refl _) | (refine Ext.trans ?_ (by with_reducible assumption))))⟩
  simp [results, Try.results17, go_sem]
set_option maxHeartbeats 400000 in
theorem may_join_unk2 (S W L S' W' L' : Int) (p q : Option Nat) (w : World) :
    Calls Try.prog 17 #[.agg #[.int .i64 S, .int .i64 W, .int .i64 L, .bool false, .map p], .agg #[.int .i64 S', .int .i64 W', .int .i64 L', .bool true, .map q]] w fun e w' => e = .returned (.agg #[.int .i64 S, .int .i64 W, .int .i64 L, .bool true, .map none]) ∧ Ext w w' := by
  go_enter Try.func17, Try.ntmps17
  go_wp2
  refine bodyPost_ret (v := .agg #[.int .i64 S, .int .i64 W, .int .i64 L, .bool true, .map none]) ?_ rfl ⟨rfl, (by repeat (first | ((with_reducible refine Ext.set1 ?_ ?_); (first | (focus (simp; done)) | (focus (simp; omega)) | (focus omega))) | (with_reducible refine Ext.alloc ?_ _) | (with_reducible exact Ext.refl _) | (refine Ext.trans ?_ (by with_reducible assumption))))⟩
  simp [results, Try.results17, go_sem]

set_option maxHeartbeats 400000 in
theorem may_join_nil (S W L : Int) (p : Option Nat) (n : Nat) (f : FM) (w : World) (h : IMapO w p n f) :
    Calls Try.prog 17 #[.agg #[.int .i64 S, .int .i64 W, .int .i64 L, .bool false, .map p], .agg #[.int .i64 S, .int .i64 W, .int .i64 L, .bool false, .map none]] w fun e w' => ∃ b', (e = .returned (.agg #[.int .i64 S, .int .i64 W, .int .i64 L, .bool false, .map (some b')]) ∧ w.heap.size ≤ b') ∧ IMap w' b' n f ∧ Ext w w' := by
  have hrg := fun w => run_range_nilMap (P := Try.prog) w 29 _ _ Try.underlying29
  have hnx : ∀ (w : World) (X : Obj) (ty : TypeId), (Instr.next (.pointer (some ⟨w.heap.size + 1, 0, none⟩)) false ty).run Try.prog ((w.alloc X).alloc (.mapIter none 0 #[] 0)) = .ok (.tuple #[.bool false]) ((w.alloc X).alloc (.mapIter none 0 #[] 0)) := fun w X ty => by
    have := run_next_nilMap (P := Try.prog) (w.alloc X) ty 0 0 #[]
    rwa [World.size_alloc] at this
  go_enter Try.func17, Try.ntmps17
  go_wp2_with (go_at_call 36; refine Calls.mono (may_copied S W L p n f _ (h.ext (by repeat (first | ((with_reducible refine Ext.set1 ?_ ?_); (first | (focus (simp; done)) | (focus (simp; omega)) | (focus omega))) | (with_reducible refine Ext.alloc ?_ _) | (with_reducible exact Ext.refl _) | (refine Ext.trans ?_ (by with_reducible assumption)))))) ?_; rintro e w2 ⟨bo, ⟨rfl, hbo⟩, him2, hb2⟩; simp at hbo; have hz2 := hb2.size; simp at hz2; have q2 : w.heap.size < w2.heap.size := (by omega); have r2 : w.heap.size + 1 < w2.heap.size := (by omega); have s2 : w.heap.size + 1 + 1 < w2.heap.size := (by omega); obtain ⟨a0, a1, a2, a3, a4⟩ := Blk.c5 (w := w2) (B := w.heap.size + 1) (by repeat (first | (with_reducible assumption) | ((with_reducible refine Blk.new ?_); (first | (focus rfl) | (focus (simp; done)) | (focus omega))) | ((with_reducible refine Blk.set1 ?_ ?_); (focus omega)) | (with_reducible refine Blk.alloc ?_) | (refine Blk.ext ?_ (by with_reducible assumption)))))
  have k2 : Blk w2 (w.heap.size + 1 + 1) (.cells #[.int .i64 0, .int .i64 0, .int .i64 0, .bool false, .map none] 31) := (by repeat (first | (with_reducible assumption) | ((with_reducible refine Blk.new ?_); (first | (focus rfl) | (focus (simp; done)) | (focus omega))) | ((with_reducible refine Blk.set1 ?_ ?_); (focus omega)) | (with_reducible refine Blk.alloc ?_) | (refine Blk.ext ?_ (by with_reducible assumption))))
  obtain ⟨e0, e1, e2, e3, e4⟩ := k2.c5
  obtain ⟨f0, f1, f2, f3, f4⟩ := k2.f5
  refine wp_loop_rounds 1 ?_
  rw [rounds_succ]
  go_wp2
  refine bodyPost_ret (v := .agg #[.int .i64 S, .int .i64 W, .int .i64 L, .bool false, .map (some bo)]) ?_ rfl ⟨bo, ⟨rfl, by omega⟩, ?_, ?_⟩
  · simp [results, Try.results17, go_sem, e0, e1, e2, e3, e4, r2, s2]
  · exact (by (repeat (first | ((with_reducible refine IMap.set1 ?_ ?_); (focus omega)) | (with_reducible refine IMap.alloc ?_ _))); with_reducible assumption)
  · exact (by repeat (first | ((with_reducible refine Ext.set1 ?_ ?_); (first | (focus (simp; done)) | (focus (simp; omega)) | (focus omega))) | (with_reducible refine Ext.alloc ?_ _) | (with_reducible exact Ext.refl _) | (refine Ext.trans ?_ (by with_reducible assumption))))

set_option maxHeartbeats 1000000 in
theorem may_join_some (S W L : Int) (p : Option Nat) (n : Nat) (f : FM) (b m : Nat) (g : FM) (w : World) (h : IMapO w p n f) (k : IMap w b m g) (hn : n ≤ 1000000) (hm : m ≤ 1000000) :
    Calls Try.prog 17 #[.agg #[.int .i64 S, .int .i64 W, .int .i64 L, .bool false, .map p], .agg #[.int .i64 S, .int .i64 W, .int .i64 L, .bool false, .map (some b)]] w fun e w' => ∃ b', (e = .returned (.agg #[.int .i64 S, .int .i64 W, .int .i64 L, .bool false, .map (some b')]) ∧ w.heap.size ≤ b') ∧ IMap w' b' (n + m) (joined f g) ∧ Ext w w' := by
  have hb0 := k.lt
  go_enter Try.func17, Try.ntmps17
  go_wp2_with (first
    | (go_at_call 36; refine Calls.mono (may_copied S W L p n f _ (h.ext (by repeat (first | ((with_reducible refine Ext.set1 ?_ ?_); (first | (focus (simp; done)) | (focus (simp; omega)) | (focus omega))) | (with_reducible refine Ext.alloc ?_ _) | (with_reducible exact Ext.refl _) | (refine Ext.trans ?_ (by with_reducible assumption)))))) ?_; rintro e w2 ⟨bo, ⟨rfl, hbo⟩, him2, hb2⟩; simp at hbo; have hz2 := hb2.size; simp at hz2; have q2 : w.heap.size < w2.heap.size := (by omega); have r2 : w.heap.size + 1 < w2.heap.size := (by omega); have s2 : w.heap.size + 1 + 1 < w2.heap.size := (by omega); obtain ⟨a0, a1, a2, a3, a4⟩ := Blk.c5 (w := w2) (B := w.heap.size + 1) (by repeat (first | (with_reducible assumption) | ((with_reducible refine Blk.new ?_); (first | (focus rfl) | (focus (simp; done)) | (focus omega))) | ((with_reducible refine Blk.set1 ?_ ?_); (focus omega)) | (with_reducible refine Blk.alloc ?_) | (refine Blk.ext ?_ (by with_reducible assumption)))))
    | (at_range; refine wpList_range_im _ rfl _ rfl (w2.heap.size + 1) (by simp) b m g rfl (k.ext (by repeat (first | ((with_reducible refine Ext.set1 ?_ ?_); (first | (focus (simp; done)) | (focus (simp; omega)) | (focus omega))) | (with_reducible refine Ext.alloc ?_ _) | (with_reducible exact Ext.refl _) | (refine Ext.trans ?_ (by with_reducible assumption))))) ?_; intro w4 cnt4 hrm4 hb4 hs4 hcn4))
  have hbo2 := him2.lt
  have k2 : Blk w4 (w.heap.size + 1 + 1) (.cells #[.int .i64 0, .int .i64 0, .int .i64 0, .bool false, .map none] 31) := (by repeat (first | (with_reducible assumption) | ((with_reducible refine Blk.new ?_); (first | (focus rfl) | (focus (simp; done)) | (focus omega))) | ((with_reducible refine Blk.set1 ?_ ?_); (focus omega)) | (with_reducible refine Blk.alloc ?_) | (refine Blk.ext ?_ (by with_reducible assumption))))
  have k3 : Blk w4 w2.heap.size (.cells #[.int .i64 S, .int .i64 W, .int .i64 L, .bool false, .map (some bo)] 31) := (by repeat (first | (with_reducible assumption) | ((with_reducible refine Blk.new ?_); (first | (focus rfl) | (focus (simp; done)) | (focus omega))) | ((with_reducible refine Blk.set1 ?_ ?_); (focus omega)) | (with_reducible refine Blk.alloc ?_) | (refine Blk.ext ?_ (by with_reducible assumption))))
  have him4 : IMap w4 bo n f := (him2.alloc _).ext hb4
  have hext4 : Ext w w4 := (by repeat (first | ((with_reducible refine Ext.set1 ?_ ?_); (first | (focus (simp; done)) | (focus (simp; omega)) | (focus omega))) | (with_reducible refine Ext.alloc ?_ _) | (with_reducible exact Ext.refl _) | (refine Ext.trans ?_ (by with_reducible assumption))))
  clear a0 a1 a2 a3 a4
  go_frame
  go_loopw [6] (fun _ wr => ∃ (lf : Int → Bool) (cnt j : Nat) (fo : FM), (RMap wr b (w2.heap.size + 1) m g lf cnt ∧ (IMap wr bo j fo ∧ j + cnt ≤ n + m) ∧
      Blk wr (w.heap.size + 1 + 1) (.cells #[.int .i64 0, .int .i64 0, .int .i64 0, .bool false, .map none] 31) ∧ Blk wr w2.heap.size (.cells #[.int .i64 S, .int .i64 W, .int .i64 L, .bool false, .map (some bo)] 31) ∧ Ext w wr) ∧ Hid (Mid f (joined f g) lf fo))
    (fun _ wr => wr.rangeLeft b (w2.heap.size + 1))
  case atStart => exact ⟨_, _, n, f, ⟨hrm4, ⟨him4, by omega⟩, k2, k3, hext4⟩, Mid.start' fun y e => by unfold joined; rw [e]; cases f y <;> rfl⟩
  case round =>
    clear k2 k3 him4 hext4 hrm4 hb4 hs4
    obtain ⟨lf, cnt, j, fo, ⟨hrm, ⟨him, hj⟩, k2, k3, hext⟩, HM⟩ := hrel
    have hl2 := k2.lt
    have hl3 := k3.lt
    have hrl := hrm.lt
    go_wp2_with (at_next; refine wpList_next_im _ rfl _ rfl b (w2.heap.size + 1) m g lf cnt rfl hrm ?_ ?_)
    · intro hdone
      have hwb := him.lt
      obtain ⟨c0, c1, c2, c3, c4⟩ := k3.c5
      obtain ⟨e0, e1, e2, e3, e4⟩ := k2.c5
      obtain ⟨f0, f1, f2, f3, f4⟩ := k2.f5
      go_wp2
      refine bodyPost_ret (v := .agg #[.int .i64 S, .int .i64 W, .int .i64 L, .bool false, .map (some bo)]) ?_ rfl ⟨bo, ⟨rfl, by omega⟩, ?_, ?_⟩
      · simp [results, Try.results17, go_sem, e0, e1, e2, e3, e4]
      · have himf : IMap wr bo (n + m) (joined f g) := (him.congr (HM.out.done hdone)).mono (by omega)
        clear him
        exact (by (repeat (first | ((with_reducible refine IMap.set1 ?_ ?_); (focus omega)) | (with_reducible refine IMap.alloc ?_ _))); with_reducible assumption)
      · exact (by repeat (first | ((with_reducible refine Ext.set1 ?_ ?_); (first | (focus (simp; done)) | (focus (simp; omega)) | (focus omega))) | (with_reducible refine Ext.alloc ?_ _) | (with_reducible exact Ext.refl _) | (refine Ext.trans ?_ (by with_reducible assumption))))
    · intro y c w5 cnt5 hy hc hly hgy hrm5 hlt5 hg5 hs5 hen
      have GY := Lib.hid hgy
      have LY := Lib.hid hly
      clear hly hgy
      have him5 := him.grown hg5 (by simp <;> omega)
      have k25 := k2.grown hg5 (by simp <;> omega)
      have k35 := k3.grown hg5 (by simp <;> omega)
      have hext5 : Ext w w5 := hext.grown hg5 (fun k e => by cases e; omega)
      have HLE := Lib.hid hrm.left_eq
      clear him k2 k3 hext hrm
      have hwb := him5.lt
      obtain ⟨d0, d1, d2, d3, d4⟩ := k35.c5
      have FO : Hid (fo y = f y) := by show fo y = f y; rw [HM.out y, LY.out]; rfl
      cases hfy : f y with
      | none =>
        have HFO : Hid (fo y = none) := FO.out.trans hfy
        have HG : Hid (joined f g y = some c) := by show least (f y) (g y) = some c; rw [hfy, GY.out]; rfl
        clear hfy
        go_wp2_with (first
          | (at_lookup; refine wpList_look_none _ rfl _ _ rfl (some bo) j fo rfl (.inr ⟨bo, rfl, him5⟩) y rfl hy HFO.out ?_)
          | (at_mapUpdate; refine wpList_store_im _ rfl _ _ _ rfl bo j fo rfl him5 (by unfold maxLen; omega) y c rfl rfl hy hc ?_; intro w7 him7 hg7; have hz7 := hg7.size; have hrm7 := hrm5.grown hg7 (by simp <;> omega) (by simp <;> omega); have k27 := k25.grown hg7 (by simp <;> omega); have k37 := k35.grown hg7 (by simp <;> omega); have hext7 : Ext w w7 := hext5.grown hg7 (fun k e => by cases e; omega); go_frame))
        go_roundw
        case rel => exact ⟨_, cnt5, j + 1, _, ⟨hrm7, ⟨him7, by omega⟩, k27, k37, hext7⟩, HM.out.put HG.out⟩
        case measure => rw [hrm7.left_eq, HLE.out]; exact hlt5
      | some d =>
        have HFO : Hid (fo y = some d) := FO.out.trans hfy
        by_cases hcd : c < d
        · have HG : Hid (joined f g y = some c) := by show least (f y) (g y) = some c; rw [hfy, GY.out]; simp [least, hcd]
          have hold : Hid ((fo y).isSome = true) := by show (fo y).isSome = true; rw [HFO.out]; rfl
          clear hfy
          go_wp2_with (first
            | (at_lookup; refine wpList_look_some _ rfl _ _ rfl (some bo) j fo rfl (.inr ⟨bo, rfl, him5⟩) y rfl hy d HFO.out ?_)
            | (at_mapUpdate; refine wpList_store_old _ rfl _ _ _ rfl bo j fo rfl him5 (by unfold maxLen; omega) y c rfl rfl hy hc hold.out ?_; intro w7 him7 hg7; have hz7 := hg7.size; have hrm7 := hrm5.grown hg7 (by simp <;> omega) (by simp <;> omega); have k27 := k25.grown hg7 (by simp <;> omega); have k37 := k35.grown hg7 (by simp <;> omega); have hext7 : Ext w w7 := hext5.grown hg7 (fun k e => by cases e; omega); go_frame))
          go_roundw
          case rel => exact ⟨_, cnt5, j, _, ⟨hrm7, ⟨him7, by omega⟩, k27, k37, hext7⟩, HM.out.put HG.out⟩
          case measure => rw [hrm7.left_eq, HLE.out]; exact hlt5
        · have HG : Hid (joined f g y = f y) := by show least (f y) (g y) = f y; rw [hfy, GY.out]; simp [least, hcd]
          clear hfy
          go_wp2_with (at_lookup; refine wpList_look_some _ rfl _ _ rfl (some bo) j fo rfl (.inr ⟨bo, rfl, him5⟩) y rfl hy d HFO.out ?_)
          go_roundw
          case rel => exact ⟨_, cnt5, j, fo, ⟨hrm5, ⟨him5, by omega⟩, k25, k35, hext5⟩, HM.out.keep HG.out⟩
          case measure => rw [hrm5.left_eq, HLE.out]; exact hlt5
end Go.Proofs.Ytjckghdgogkeaaa

namespace Go.Proofs.Ytjckghdgogkeaaa
open Go.RowKit Go.Maps Go.Sort Go.Shelf
set_option linter.unusedVariables false

theorem sortsIn (m : Nat) : AnyZI.SortsIn Try.prog Try.sortedL_ren Fence.wide m :=
  ⟨fun blk off cap ss W hH hblk hsz => callsIn_wide.2 (AnyM.slices_Sort_int Try.sortL blk off cap ss W hH hblk hsz),
   fun p cap W => callsIn_wide.2 (AnyM.slices_Sort_int_none Try.sortL p cap W)⟩

theorem keys_call (mb : Option Nat) (W : World) (B : Nat) (hB : W.heap.size = B) : Calls Try.prog 44 #[.map mb] W fun e w' =>
    e = .returned (.func (.func 53) #[] #[.pointer (some ⟨B, 0, none⟩)]) ∧ W.alloc (.cells #[.map mb] 29) = w' := by
  subst hB
  exact ((callsIn_wide (n := 5)).1 (AnyZI.keys_in Try.keysL Fence.wide 5 trivial rfl mb W)).mono fun e w' ⟨h1, h2⟩ => ⟨h1, h2.symm⟩

/-- The new slice v holds the list L of ints. -/
def Holds1 (w : World) (base : Nat) (v : Value) (L : List Int) : Prop := w.ownsRow base 3 1 v L.length (L.map (Value.int .i64)) ∧ (v = .slice none 0 0 ↔ L = [])

theorem sorted_call {w : World} {p : Option Nat} {n : Nat} {f : FM} (h : IMapO w p n f) (hn : n ≤ 1000000) :
    Calls Try.prog 43 #[.func (.func 53) #[] #[.pointer (some ⟨w.heap.size, 0, none⟩)]] (w.alloc (.cells #[.map p] 29)) fun e w' =>
      ∃ v L, e = .returned v ∧ Dom f L ∧ L.length ≤ n ∧ Holds1 w' w.heap.size v L ∧ Ext w w' := by
  refine (callsIn_wide (n := 5)).1 ?_
  rcases h with ⟨rfl, hf⟩ | ⟨b, rfl, D, hown, hi⟩
  · have hseq : SeqGives Fence.wide 2 Try.prog 53 #[.pointer (some ⟨w.heap.size, 0, none⟩)] encZ (fun ss : List Int => ss = []) 0 (w.alloc (.cells #[.map none] 29)) :=
      AnyZI.keys_gives_nil (ρ := Try.keysL_ren) { Try.keysL with } Fence.wide _ trivial rfl w.heap.size _ (by simp) (by simp)
    have cS := AnyZI.sorted_in Try.sortedL Fence.wide 5 trivial trivial trivial trivial rfl (by omega) (sortsIn _) (enters_of Try.func52 (by kernel_rfl) rfl) 53 #[.pointer (some ⟨w.heap.size, 0, none⟩)] trivial (enters_of Try.func53 (by kernel_rfl) rfl) _ 0 (Nat.zero_le _) (by omega) _ hseq
    change CallsIn _ _ Try.prog 43 _ _ _ at cS
    refine cS.mono ?_
    rintro e w' ⟨v, ss, rfl, rfl, hrow, hnil, hb⟩
    obtain rfl : v = .slice none 0 0 := hnil.2 rfl
    refine ⟨_, [], rfl, ⟨List.Pairwise.nil, fun x => by simp [hf]⟩, by simp, ⟨World.ownsRow_nil _ _ _ _, by simp⟩, ?_⟩
    exact Ext.trans ((Ext.refl w).alloc _) (hb : Ext _ _)
  · have hbl := hown.lt
    have hsz := hown.size_le
    have hseq : SeqGives Fence.wide 2 Try.prog 53 #[.pointer (some ⟨w.heap.size, 0, none⟩)] encZ (fun ss => ss.Perm (intKeys D)) (Maps.size D) (w.alloc (.cells #[.map (some b)] 29)) :=
      AnyZI.keys_gives (ρ := Try.keysL_ren) { Try.keysL with } Fence.wide _ trivial rfl (by omega) w.heap.size b n D _ (by simp) (by simp) (by
        obtain ⟨es, clock, hb, Ft, hs, hD⟩ := hown
        exact ⟨es, clock, (Below.heap_alloc _ _ b hbl).trans hb, Ft, hs, hD⟩)
    have cS := AnyZI.sorted_in Try.sortedL Fence.wide 5 trivial trivial trivial trivial rfl (by omega) (sortsIn _) (enters_of Try.func52 (by kernel_rfl) rfl) 53 #[.pointer (some ⟨w.heap.size, 0, none⟩)] trivial (enters_of Try.func53 (by kernel_rfl) rfl) _ _ (by unfold maxLen; omega) (by omega) _ hseq
    change CallsIn _ _ Try.prog 43 _ _ _ at cS
    refine cS.mono ?_
    rintro e w' ⟨v, ss, rfl, hS, hrow, hnil, hb⟩
    refine ⟨v, _, rfl, dom_of_perm hown hi hS, ?_, ⟨?_, ?_⟩, ?_⟩
    · rw [(List.mergeSort_perm ss _).length_eq, length_perm hS hi.map]; omega
    · rw [(List.mergeSort_perm ss _).length_eq]
      exact ownsRow_base_a hrow (by simp)
    · rw [hnil]
      constructor
      · rintro rfl; simp
      · intro e
        have := (List.mergeSort_perm ss (fun x y => decide (x ≤ y))).length_eq
        rw [e] at this
        exact List.eq_nil_of_length_eq_zero this.symm
    · exact Ext.trans ((Ext.refl w).alloc _) (hb : Ext _ _)

theorem sorted_at {w : World} {p : Option Nat} {n : Nat} {f : FM} (h : IMapO w p n f) (hn : n ≤ 1000000) (B : Nat) (hB : w.heap.size = B) :
    Calls Try.prog 43 #[.func (.func 53) #[] #[.pointer (some ⟨B, 0, none⟩)]] (w.alloc (.cells #[.map p] 29)) fun e w' =>
      ∃ v L, e = .returned v ∧ Dom f L ∧ L.length ≤ n ∧ Holds1 w' w.heap.size v L ∧ Ext w w' := by
  subst hB
  exact sorted_call h hn
end Go.Proofs.Ytjckghdgogkeaaa

namespace Go.Proofs.Ytjckghdgogkeaaa
open Go.RowKit Go.Maps
set_option linter.unusedVariables false

theorem join_st {S W L : Int} (u v : Bool) (p q : Option Nat) (n m : Nat) (st su : St) (w : World) (h : StB w W n st u p) (k : StB w W m su v q) (hn : n ≤ 1000000) (hm : m ≤ 1000000) :
    Calls Try.prog 17 #[.agg #[.int .i64 S, .int .i64 W, .int .i64 L, .bool u, .map p], .agg #[.int .i64 S, .int .i64 W, .int .i64 L, .bool v, .map q]] w (Gives S W L (n + m) (sJoin st su) w) := by
  rcases h with ⟨rfl, rfl, rfl⟩ | ⟨rfl, f, rfl, him, hf⟩
  · exact (may_join_unk1 S W L S W L none q v w).mono fun e w' ⟨he, hb⟩ => ⟨_, _, he, .unk _ _ _, hb⟩
  · rcases k with ⟨rfl, rfl, rfl⟩ | ⟨rfl, g, rfl, kim, hg⟩
    · exact (may_join_unk2 S W L S W L p none w).mono fun e w' ⟨he, hb⟩ => ⟨_, _, he, .unk _ _ _, hb⟩
    · rcases kim with ⟨rfl, hno⟩ | ⟨b, rfl, kim⟩
      · refine (may_join_nil S W L p n f w him).mono fun e w' ⟨b, ⟨he, _⟩, hi, hb⟩ => ⟨_, _, he, StB.mk ?_ (fit_joined hf hg), hb⟩
        exact (hi.mono (by omega)).congr fun y => by unfold joined; rw [hno]; cases f y <;> rfl
      · exact (may_join_some S W L p n f b m g w him kim hn hm).mono fun e w' ⟨b, ⟨he, _⟩, hi, hb⟩ => ⟨_, _, he, StB.mk hi (fit_joined hf hg), hb⟩

set_option maxHeartbeats 400000 in
theorem may_equal_ff (S W L S' W' L' : Int) (p q : Option Nat) (n m : Nat) (f g : FM) (w : World) (h : IMapO w p n f) (k : IMapO w q m g) (u : Bool) :
    Calls Try.prog 19 #[.agg #[.int .i64 S, .int .i64 W, .int .i64 L, .bool u, .map p], .agg #[.int .i64 S', .int .i64 W', .int .i64 L', .bool u, .map q]] w (Says (∀ x, f x = g x) w) := by
  cases u
  all_goals
    go_enter Try.func19, Try.ntmps19
    go_wp2_with (go_at_call 37; refine Calls.mono (equal_im (h.ext (by repeat (first | ((with_reducible refine Ext.set1 ?_ ?_); (first | (focus (simp; done)) | (focus (simp; omega)) | (focus omega))) | (with_reducible refine Ext.alloc ?_ _) | (with_reducible exact Ext.refl _) | (refine Ext.trans ?_ (by with_reducible assumption))))) (k.ext (by repeat (first | ((with_reducible refine Ext.set1 ?_ ?_); (first | (focus (simp; done)) | (focus (simp; omega)) | (focus omega))) | (with_reducible refine Ext.alloc ?_ _) | (with_reducible exact Ext.refl _) | (refine Ext.trans ?_ (by with_reducible assumption)))))) ?_; rintro e w1 ⟨r, ⟨rfl, hr⟩, hb1⟩; have HR := Lib.hid hr; clear hr)
    go_ret
    exact ⟨r, ⟨rfl, HR.out⟩, (by repeat (first | ((with_reducible refine Ext.set1 ?_ ?_); (first | (focus (simp; done)) | (focus (simp; omega)) | (focus omega))) | (with_reducible refine Ext.alloc ?_ _) | (with_reducible exact Ext.refl _) | (refine Ext.trans ?_ (by with_reducible assumption))))⟩
set_option maxHeartbeats 400000 in
theorem may_equal_no (S W L S' W' L' : Int) (p q : Option Nat) (u : Bool) (w : World) :
    Calls Try.prog 19 #[.agg #[.int .i64 S, .int .i64 W, .int .i64 L, .bool u, .map p], .agg #[.int .i64 S', .int .i64 W', .int .i64 L', .bool (!u), .map q]] w fun e w' => e = .returned (.bool false) ∧ Ext w w' := by
  cases u
  all_goals
    go_enter Try.func19, Try.ntmps19
    go_wp2
    go_ret
    exact ⟨rfl, (by repeat (first | ((with_reducible refine Ext.set1 ?_ ?_); (first | (focus (simp; done)) | (focus (simp; omega)) | (focus omega))) | (with_reducible refine Ext.alloc ?_ _) | (with_reducible exact Ext.refl _) | (refine Ext.trans ?_ (by with_reducible assumption))))⟩
theorem equal_st {S W L : Int} (u v : Bool) (p q : Option Nat) (n m : Nat) (st su : St) (w : World) (h : StB w W n st u p) (k : StB w W m su v q) :
    Calls Try.prog 19 #[.agg #[.int .i64 S, .int .i64 W, .int .i64 L, .bool u, .map p], .agg #[.int .i64 S, .int .i64 W, .int .i64 L, .bool v, .map q]] w (Says (st = su) w) := by
  rcases h with ⟨rfl, rfl, rfl⟩ | ⟨rfl, f, rfl, him, hf⟩
  · rcases k with ⟨rfl, rfl, rfl⟩ | ⟨rfl, g, rfl, kim, hg⟩
    · exact (may_equal_ff S W L S W L none none 0 0 noF noF w (.inl ⟨rfl, fun _ => rfl⟩) (.inl ⟨rfl, fun _ => rfl⟩) true).mono fun e w' ⟨r, ⟨h1, h2⟩, hb⟩ => ⟨r, ⟨h1, by simpa using h2⟩, hb⟩
    · exact (may_equal_no S W L S W L none q true w).mono fun e w' ⟨h1, hb⟩ => ⟨false, ⟨h1, by simp⟩, hb⟩
  · rcases k with ⟨rfl, rfl, rfl⟩ | ⟨rfl, g, rfl, kim, hg⟩
    · exact (may_equal_no S W L S W L p none false w).mono fun e w' ⟨h1, hb⟩ => ⟨false, ⟨h1, by simp⟩, hb⟩
    · exact (may_equal_ff S W L S W L p q n m f g w him kim false).mono fun e w' ⟨r, ⟨h1, h2⟩, hb⟩ => ⟨r, ⟨h1, h2.trans ⟨fun h => congrArg some (funext h), fun h x => by injection h with h; rw [h]⟩⟩, hb⟩

/-- A call that hands back the keys of f, rising, in a new slice, and true. -/
def GivesKeys (f : FM) (n : Nat) (w : World) (e : Ending) (w' : World) : Prop := ∃ v L, (e = .returned (.tuple #[v, .bool true]) ∧ Dom f L ∧ L.length ≤ n) ∧ Holds1 w' w.heap.size v L ∧ Ext w w'

set_option maxHeartbeats 400000 in
theorem may_lines_unknown (S W L : Int) (p : Option Nat) (w : World) :
    Calls Try.prog 29 #[.agg #[.int .i64 S, .int .i64 W, .int .i64 L, .bool true, .map p]] w fun e w' => e = .returned (.tuple #[.slice none 0 0, .bool false]) ∧ Ext w w' := by
  go_enter Try.func29, Try.ntmps29
  go_wp2
  go_ret2
  exact ⟨rfl, (by repeat (first | ((with_reducible refine Ext.set1 ?_ ?_); (first | (focus (simp; done)) | (focus (simp; omega)) | (focus omega))) | (with_reducible refine Ext.alloc ?_ _) | (with_reducible exact Ext.refl _) | (refine Ext.trans ?_ (by with_reducible assumption))))⟩
theorem Holds1.lower {w : World} {b b' : Nat} {v : Value} {L : List Int} (h : Holds1 w b v L) (hb : b' ≤ b) : Holds1 w b' v L := by
  obtain ⟨h1, h2⟩ := h
  refine ⟨?_, h2⟩
  obtain ⟨a, c⟩ := h1
  refine ⟨a, ?_⟩
  rcases c with c | ⟨g, cap, cur, hv, hg, r⟩
  · exact .inl c
  · exact .inr ⟨g, cap, cur, hv, Nat.le_trans hb hg, r⟩
set_option maxHeartbeats 400000 in
theorem may_lines (S W L : Int) (p : Option Nat) (n : Nat) (f : FM) (w : World) (h : IMapO w p n f) (hn : n ≤ 1000000) :
    Calls Try.prog 29 #[.agg #[.int .i64 S, .int .i64 W, .int .i64 L, .bool false, .map p]] w (GivesKeys f n w) := by
  go_enter Try.func29, Try.ntmps29
  go_wp2_with (first
    | (go_at_call 44; refine Calls.mono (keys_call p _ (w.heap.size + 1) (by simp)) ?_; rintro e w1 ⟨rfl, rfl⟩)
    | (go_at_call 43; refine Calls.mono (sorted_at (h.ext (by repeat (first | ((with_reducible refine Ext.set1 ?_ ?_); (first | (focus (simp; done)) | (focus (simp; omega)) | (focus omega))) | (with_reducible refine Ext.alloc ?_ _) | (with_reducible exact Ext.refl _) | (refine Ext.trans ?_ (by with_reducible assumption))))) hn (w.heap.size + 1) (by simp)) ?_; rintro e w2 ⟨v, K, rfl, hd, hl, hh, hb2⟩; have HD := Lib.hid hd; clear hd))
  go_ret2
  exact ⟨v, K, ⟨rfl, HD.out, hl⟩, hh.lower (by simp), (by repeat (first | ((with_reducible refine Ext.set1 ?_ ?_); (first | (focus (simp; done)) | (focus (simp; omega)) | (focus omega))) | (with_reducible refine Ext.alloc ?_ _) | (with_reducible exact Ext.refl _) | (refine Ext.trans ?_ (by with_reducible assumption))))⟩
end Go.Proofs.Ytjckghdgogkeaaa

namespace Go.Proofs.Ytjckghdgogkeaaa
open Go.RowKit Go.Maps
set_option linter.unusedVariables false

def sStep (S W : Int) (st : St) (lo hi : Int) : St := if lo = hi then sAcc S W st lo else sRange S W st lo hi

set_option maxHeartbeats 400000 in
theorem step_st {S W L : Int} (g : Geo S W L) (lo hi pk : Int) (hx2 : hi ≤ 1000000) (u : Bool) (p : Option Nat) (n : Nat) (st : St) (w : World) (h : StB w W n st u p) (hn : n ≤ 1000000) :
    Calls Try.prog 18 #[.agg #[.int .i64 S, .int .i64 W, .int .i64 L, .bool u, .map p], .agg #[.int .i64 lo, .int .i64 hi, .int .u8 pk]] w (Gives S W L (n + 64) (sStep S W st lo hi) w) := by
  by_cases he : lo = hi
  · subst he
    have hs : sStep S W st lo lo = sAcc S W st lo := if_pos rfl
    rw [hs]
    clear hs
    go_enter Try.func18, Try.ntmps18
    go_wp2_with (go_at_call 32; refine Calls.mono (acc_st g lo hx2 u p n st _ (h.ext (by repeat (first | ((with_reducible refine Ext.set1 ?_ ?_); (first | (focus (simp; done)) | (focus (simp; omega)) | (focus omega))) | (with_reducible refine Ext.alloc ?_ _) | (with_reducible exact Ext.refl _) | (refine Ext.trans ?_ (by with_reducible assumption))))) hn) ?_; rintro e w1 ⟨u', p', rfl, h1, hb1⟩; have kr : Blk w1 (w.heap.size + 1 + 1) (.cells #[.int .i64 0, .int .i64 0, .int .i64 0, .bool false, .map none] 31) := (by repeat (first | (with_reducible assumption) | ((with_reducible refine Blk.new ?_); (first | (focus rfl) | (focus (simp; done)) | (focus omega))) | ((with_reducible refine Blk.set1 ?_ ?_); (focus omega)) | (with_reducible refine Blk.alloc ?_) | (refine Blk.ext ?_ (by with_reducible assumption)))); obtain ⟨b0, b1, b2, b3, b4⟩ := kr.c5; obtain ⟨f0, f1, f2, f3, f4⟩ := kr.f5)
    refine bodyPost_ret (v := .agg #[.int .i64 S, .int .i64 W, .int .i64 L, .bool u', .map p']) ?_ rfl ⟨u', p', rfl, ?_, ?_⟩
    · simp [results, Try.results18, go_sem, b0, b1, b2, b3, b4]
    · exact (by repeat (first | (with_reducible assumption) | (with_reducible refine StB.set ?_) | (with_reducible refine StB.alloc ?_ _) | (refine StB.ext ?_ (by with_reducible assumption))))
    · exact (by repeat (first | ((with_reducible refine Ext.set1 ?_ ?_); (first | (focus (simp; done)) | (focus (simp; omega)) | (focus omega))) | (with_reducible refine Ext.alloc ?_ _) | (with_reducible exact Ext.refl _) | (refine Ext.trans ?_ (by with_reducible assumption))))
  · have hs : sStep S W st lo hi = sRange S W st lo hi := if_neg he
    rw [hs]
    clear hs
    have he2 : (lo == hi) = false := by simpa using he
    clear he
    go_enter Try.func18, Try.ntmps18
    go_wp2_with (go_at_call 31; refine Calls.mono (range_st g lo hi hx2 u p n st _ (h.ext (by repeat (first | ((with_reducible refine Ext.set1 ?_ ?_); (first | (focus (simp; done)) | (focus (simp; omega)) | (focus omega))) | (with_reducible refine Ext.alloc ?_ _) | (with_reducible exact Ext.refl _) | (refine Ext.trans ?_ (by with_reducible assumption))))) hn) ?_; rintro e w1 ⟨u', p', rfl, h1, hb1⟩; have kr : Blk w1 (w.heap.size + 1 + 1) (.cells #[.int .i64 0, .int .i64 0, .int .i64 0, .bool false, .map none] 31) := (by repeat (first | (with_reducible assumption) | ((with_reducible refine Blk.new ?_); (first | (focus rfl) | (focus (simp; done)) | (focus omega))) | ((with_reducible refine Blk.set1 ?_ ?_); (focus omega)) | (with_reducible refine Blk.alloc ?_) | (refine Blk.ext ?_ (by with_reducible assumption)))); obtain ⟨b0, b1, b2, b3, b4⟩ := kr.c5; obtain ⟨f0, f1, f2, f3, f4⟩ := kr.f5)
    refine bodyPost_ret (v := .agg #[.int .i64 S, .int .i64 W, .int .i64 L, .bool u', .map p']) ?_ rfl ⟨u', p', rfl, ?_, ?_⟩
    · simp [results, Try.results18, go_sem, b0, b1, b2, b3, b4]
    · exact (by repeat (first | (with_reducible assumption) | (with_reducible refine StB.set ?_) | (with_reducible refine StB.alloc ?_ _) | (refine StB.ext ?_ (by with_reducible assumption))))
    · exact (by repeat (first | ((with_reducible refine Ext.set1 ?_ ?_); (first | (focus (simp; done)) | (focus (simp; omega)) | (focus omega))) | (with_reducible refine Ext.alloc ?_ _) | (with_reducible exact Ext.refl _) | (refine Ext.trans ?_ (by with_reducible assumption))))

/-- The example of the chapter. -/
theorem awake_facts : (mayAcc 1 2 (mayAcc 1 2 noF 4) 7) 4 = some 1 ∧ (mayAcc 1 2 (mayAcc 1 2 noF 4) 7) 7 = some 0 ∧ (mayAcc 1 2 (mayAcc 1 2 (mayAcc 1 2 noF 4) 7) 9) 4 = none := by
  refine ⟨?_, ?_, ?_⟩ <;> rfl
end Go.Proofs.Ytjckghdgogkeaaa

namespace Go.Proofs.Ytjckghdgogkeaaa
open Go.RowKit Go.Maps Go.Proofs.Ytjckghdgogkeaaa.PMayDescribes
set_option linter.unusedVariables false

def look : List S81 → FM
  | [], _ => none
  | a :: t, x => if a.f0 = x then some a.f1 else look t x
/-- What Put appends from here on; d: done. -/
def putG (x v : Int) : Bool → List S81 → List S81
  | d, [] => if d = true then [] else [⟨x, v⟩]
  | d, a :: t =>
    if d = false ∧ a.f0 ≥ x then (if a.f0 = x then ⟨x, v⟩ :: putG x v true t else ⟨x, v⟩ :: a :: putG x v true t)
    else (if a.f0 = x then putG x v d t else a :: putG x v d t)
def rPut (l : List S81) (x v : Int) : List S81 := putG x v false l

theorem putG_len (x v : Int) : ∀ (l : List S81) (d : Bool), (putG x v d l).length ≤ l.length + 1
  | [], d => by cases d <;> simp [putG]
  | a :: t, d => by
    have h1 := putG_len x v t true
    have h2 := putG_len x v t d
    have h3 : ∀ t : List S81, (putG x v true t).length ≤ t.length := by
      intro t
      induction t with
      | nil => simp [putG]
      | cons b t ih => simp only [putG, Bool.true_eq_false, false_and, if_false]; split <;> simp <;> omega
    have h4 := h3 t
    simp only [putG]
    split
    · split <;> simp <;> omega
    · split <;> simp <;> omega
theorem look_done (x v : Int) : ∀ (l : List S81) (y : Int), look (putG x v true l) y = if y = x then none else look l y
  | [], y => by simp [putG, look]
  | a :: t, y => by
    have ih := look_done x v t y
    simp only [putG]
    simp only [Bool.true_eq_false, false_and, if_false]
    by_cases h : a.f0 = x
    · rw [if_pos h, ih]
      by_cases k : y = x
      · simp [k]
      · rw [if_neg k, if_neg k]
        have : ¬ a.f0 = y := fun e => k (e ▸ h)
        simp [look, this]
    · rw [if_neg h]
      simp only [look]
      by_cases k : a.f0 = y
      · have : ¬ y = x := fun e => h (k.trans e)
        simp [k, this]
      · rw [if_neg k, if_neg k, ih]
theorem look_put (x v : Int) : ∀ (l : List S81) (y : Int), look (rPut l x v) y = put (look l) x v y
  | [], y => by
    simp only [rPut, putG, put, look]
    by_cases h : y = x
    · simp [h, look]
    · simp [h, look]; intro e; exact absurd e.symm h
  | a :: t, y => by
    have ih := look_put x v t y
    unfold rPut at ih ⊢
    simp only [putG]
    by_cases h : a.f0 ≥ x
    · rw [if_pos ⟨trivial, h⟩]
      by_cases k : a.f0 = x
      · rw [if_pos k]
        simp only [look, put, look_done]
        by_cases m : y = x
        · simp [m]
        · have : ¬ x = y := fun e => m e.symm
          have : ¬ a.f0 = y := fun e => m (e ▸ k)
          simp [*]
      · rw [if_neg k]
        simp only [look, put, look_done]
        by_cases m : y = x
        · simp [m]
        · have : ¬ x = y := fun e => m e.symm
          simp [*]
    · rw [if_neg (by simp; omega)]
      have k : ¬ a.f0 = x := by omega
      rw [if_neg k]
      simp only [look, put] at ih ⊢
      rw [ih]
      by_cases m : y = x
      · have : ¬ a.f0 = y := fun e => k (e.trans m)
        subst m
        simp [this]
      · simp [m]

/-! ### the printed functions -/
theorem w64 {n : Int} (h : -9223372036854775808 ≤ n ∧ n ≤ 9223372036854775807) : wrap64 n = n := by unfold wrap64; omega
theorem rd_at {l pre : List S81} {a : S81} {t : List S81} (h : l = pre ++ a :: t) : rd_T81 l (pre.length : Int) = a := by
  subst h
  simp [rd_T81, List.getD_eq_getElem?_getD]

theorem put_l0 (x v S W L S' W' L' : Int) (u u' : Bool) (l : List S81) : ∀ (r pre : List S81) (d : Bool) (out : List S81) (k : Nat), l = pre ++ r → 2 * r.length + 1 ≤ k → l.length < 1000000 → out.length + 2 * r.length < 10000000 →
    ontimeref31_State_Put.l0 k x v d (pre.length : Int) S W L u l S' W' L' u' out = some (S', W', L', u', out ++ putG x v d r) := by
  intro r
  induction r with
  | nil =>
    intro pre d out k h hk hl ho
    obtain ⟨k, rfl⟩ : ∃ j, k = j + 1 := ⟨k - 1, by omega⟩
    rw [ontimeref31_State_Put.l0]
    simp only [List.append_nil] at h
    subst h
    rw [if_neg (by omega)]
    cases d
    · simp only [Bool.false_eq_true, if_false]
      rw [if_pos (by simp at ho; omega)]
      simp [putG]
    · simp [putG]
  | cons a t ih =>
    intro pre d out k h hk hl ho
    obtain ⟨k, rfl⟩ : ∃ j, k = j + 1 + 1 := ⟨k - 2, by simp at hk; omega⟩
    have hlt : (pre.length : Int) < (l.length : Int) := by subst h; simp; omega
    have hr := rd_at h
    have hw : wrap64 ((pre.length : Int) + 1) = ((pre ++ [a]).length : Int) := by
      simp only [List.length_append, List.length_singleton]
      rw [w64] <;> omega
    have h' : l = (pre ++ [a]) ++ t := by simp [h]
    simp only [List.length_cons] at hk ho
    rw [ontimeref31_State_Put.l0, if_pos hlt, if_pos (by omega), hr]
    cases d
    · simp only [Bool.false_eq_true, if_false]
      rw [ontimeref31_State_Put.j1]
      by_cases hge : a.f0 ≥ x
      · simp only [hge, decide_true, if_true]
        rw [if_pos (by omega)]
        simp only [Option.bind_some]
        by_cases he : a.f0 = x
        · rw [if_pos he, hw, ih (pre ++ [a]) true _ k h' (by omega) hl (by simp; omega)]
          simp [putG, he]
        · rw [if_neg he, if_pos (by simp; omega), hw, ih (pre ++ [a]) true _ k h' (by omega) hl (by simp; omega)]
          simp [putG, he, hge]
      · have he : ¬ a.f0 = x := by omega
        simp only [hge, decide_false, Bool.false_eq_true, if_false]
        rw [if_neg he, if_pos (by omega), hw, ih (pre ++ [a]) false _ k h' (by omega) hl (by simp; omega)]
        simp [putG, he, hge]
    · simp only [if_true]
      rw [ontimeref31_State_Put.j1]
      simp only [Bool.false_eq_true, if_false]
      by_cases he : a.f0 = x
      · rw [if_pos he, hw, ih (pre ++ [a]) true _ k h' (by omega) hl (by omega)]
        simp [putG, he]
      · rw [if_neg he, if_pos (by omega), hw, ih (pre ++ [a]) true _ k h' (by omega) hl (by simp; omega)]
        simp [putG, he]

theorem put_f (x v S W L : Int) (u : Bool) (l : List S81) (hl : l.length < 1000000) (k : Nat) (hk : 2 * l.length + 1 ≤ k) :
    ontimeref31_State_Put.f k S W L u l x v = some (S, W, L, false, rPut l x v) :=
  put_l0 x v S W L S W L u false l l [] false [] k rfl hk hl (by simp; omega)

theorem age_l0 (x S W L : Int) (u : Bool) (l : List S81) : ∀ (r pre : List S81) (k : Nat), l = pre ++ r → r.length + 1 ≤ k → l.length < 1000000 →
    ontimeref31_State_Age.l0 k x (pre.length : Int) S W L u l = some ((look r x).getD (-1)) := by
  intro r
  induction r with
  | nil =>
    intro pre k h hk hl
    obtain ⟨k, rfl⟩ : ∃ j, k = j + 1 := ⟨k - 1, by omega⟩
    rw [ontimeref31_State_Age.l0]
    simp only [List.append_nil] at h
    subst h
    rw [if_neg (by omega)]
    rfl
  | cons a t ih =>
    intro pre k h hk hl
    obtain ⟨k, rfl⟩ : ∃ j, k = j + 1 := ⟨k - 1, by simp at hk; omega⟩
    have hlt : (pre.length : Int) < (l.length : Int) := by subst h; simp; omega
    have hr := rd_at h
    have hw : wrap64 ((pre.length : Int) + 1) = ((pre ++ [a]).length : Int) := by
      simp only [List.length_append, List.length_singleton]
      rw [w64] <;> omega
    have h' : l = (pre ++ [a]) ++ t := by simp [h]
    simp only [List.length_cons] at hk
    rw [ontimeref31_State_Age.l0, if_pos hlt, if_pos (by omega), hr]
    by_cases he : a.f0 = x
    · rw [if_pos he]
      simp [look, he]
    · rw [if_neg he, hw, ih (pre ++ [a]) k h' (by omega) hl]
      simp [look, he]
theorem age_f (x S W L : Int) (u : Bool) (l : List S81) (hl : l.length < 1000000) (k : Nat) (hk : l.length + 1 ≤ k) :
    ontimeref31_State_Age.f k S W L u l x = some ((look l x).getD (-1)) := age_l0 x S W L u l l [] k rfl hk hl

/-! ### an access -/
def agedR (S W h x : Int) : List S81 → List S81
  | [] => []
  | a :: t =>
    if a.f0 ≠ x ∧ Int.tmod a.f0 S = Int.tmod x S ∧ a.f1 ≤ h then (if a.f1 + 1 < W then ⟨a.f0, a.f1 + 1⟩ :: agedR S W h x t else agedR S W h x t)
    else (if a.f1 < W then a :: agedR S W h x t else agedR S W h x t)
def FitL (W : Int) (l : List S81) : Prop := ∀ a ∈ l, 0 ≤ a.f0 ∧ 0 ≤ a.f1 ∧ a.f1 < W
theorem agedR_len (S W h x : Int) : ∀ l : List S81, (agedR S W h x l).length ≤ l.length
  | [] => by simp [agedR]
  | a :: t => by
    have ih := agedR_len S W h x t
    simp only [agedR]
    split <;> split <;> simp <;> omega
theorem acc_l0 (x h S W L S' W' L' : Int) (u u' : Bool) (l : List S81) (hS : S ≠ 0) (hW : W ≤ 8) (hf : FitL W l) : ∀ (r pre out : List S81) (k : Nat), l = pre ++ r → 2 * r.length + 2 * (out.length + r.length) + 3 ≤ k → l.length < 100000 → out.length + r.length < 1000000 →
    ontimeref31_State_Access.l0 k x h (pre.length : Int) S W L u l S' W' L' u' out = some (S', W', L', false, rPut (out ++ agedR S W h x r) x 0) := by
  intro r
  induction r with
  | nil =>
    intro pre out k hh hk hl ho
    obtain ⟨k, rfl⟩ : ∃ j, k = j + 1 := ⟨k - 1, by omega⟩
    rw [ontimeref31_State_Access.l0]
    simp only [List.append_nil] at hh
    subst hh
    rw [if_neg (by omega), put_f _ _ _ _ _ _ _ (by simpa using ho) _ (by simp at hk; omega)]
    simp [agedR]
  | cons a t ih =>
    intro pre out k hh hk hl ho
    obtain ⟨k, rfl⟩ : ∃ j, k = j + 1 + 1 := ⟨k - 2, by simp at hk; omega⟩
    have hlt : (pre.length : Int) < (l.length : Int) := by subst hh; simp; omega
    have hr := rd_at hh
    have hw : wrap64 ((pre.length : Int) + 1) = ((pre ++ [a]).length : Int) := by
      simp only [List.length_append, List.length_singleton]
      rw [w64] <;> omega
    have h' : l = (pre ++ [a]) ++ t := by simp [hh]
    obtain ⟨g0, g1, g2⟩ := hf a (by subst hh; simp)
    have hw2 : wrap64 (a.f1 + 1) = a.f1 + 1 := w64 (by omega)
    simp only [List.length_cons] at hk ho
    rw [ontimeref31_State_Access.l0, if_pos hlt, if_pos (by omega), hr]
    by_cases he : a.f0 = x
    · rw [if_pos he, ontimeref31_State_Access.j3]
      simp only [Bool.false_eq_true, if_false]
      rw [if_pos g2, if_pos (by omega), hw, ih (pre ++ [a]) _ k h' (by simp; omega) hl (by simp; omega)]
      subst he
      simp [agedR, g2]
    · rw [if_neg he, if_neg hS]
      by_cases hs : Int.tmod a.f0 S = Int.tmod x S
      · rw [if_pos hs, ontimeref31_State_Access.j3]
        by_cases hh2 : a.f1 ≤ h
        · simp only [hh2, decide_true, if_true]
          rw [hw2]
          by_cases hlw : a.f1 + 1 < W
          · rw [if_pos hlw, if_pos (by omega), hw, ih (pre ++ [a]) _ k h' (by simp; omega) hl (by simp; omega)]
            simp [agedR, he, hs, hh2, hlw]
          · rw [if_neg hlw, hw, ih (pre ++ [a]) _ k h' (by omega) hl (by omega)]
            simp [agedR, he, hs, hh2, hlw]
        · simp only [hh2, decide_false, Bool.false_eq_true, if_false]
          rw [if_pos g2, if_pos (by omega), hw, ih (pre ++ [a]) _ k h' (by simp; omega) hl (by simp; omega)]
          simp [agedR, he, hs, hh2, g2]
      · rw [if_neg hs, ontimeref31_State_Access.j3]
        simp only [Bool.false_eq_true, if_false]
        rw [if_pos g2, if_pos (by omega), hw, ih (pre ++ [a]) _ k h' (by simp; omega) hl (by simp; omega)]
        simp [agedR, he, hs, g2]

abbrev RS := Bool × List S81
def rAcc (S W : Int) (s : RS) (x : Int) : RS := if s.1 = true then s else if x < 0 then s else (false, rPut (agedR S W ((look s.2 x).getD W) x s.2) x 0)
theorem look_fit {W : Int} : ∀ {l : List S81}, FitL W l → ∀ {x c : Int}, look l x = some c → 0 ≤ x ∧ 0 ≤ c ∧ c < W
  | [], _, _, _, h => by cases h
  | a :: t, hf, x, c, h => by
    simp only [look] at h
    split at h
    · rename_i e
      cases h
      subst e
      exact hf a (by simp)
    · exact look_fit (l := t) (fun b hb => hf b (by simp [hb])) h
theorem acc_f (x S W L : Int) (s : RS) (hS : S ≠ 0) (hW1 : 1 ≤ W) (hW : W ≤ 8) (hf : FitL W s.2) (hl : s.2.length < 100000) (k : Nat) (hk : 4 * s.2.length + 8 ≤ k) :
    ontimeref31_State_Access.f k S W L s.1 s.2 x = some (S, W, L, (rAcc S W s x).1, (rAcc S W s x).2) := by
  obtain ⟨u, l⟩ := s
  obtain ⟨k, rfl⟩ : ∃ j, k = j + 1 + 1 := ⟨k - 2, by omega⟩
  unfold ontimeref31_State_Access.f rAcc
  simp only at hf hl hk ⊢
  cases u
  · simp only [Bool.false_eq_true, if_false]
    rw [ontimeref31_State_Access.j0]
    by_cases hx : x < 0
    · simp [hx]
    · simp only [hx, decide_false, Bool.false_eq_true, if_false]
      rw [age_f _ _ _ _ _ _ (by omega) _ (by omega)]
      simp only [Option.bind_some]
      cases hc : look l x with
      | none =>
        simp only [Option.getD_none]
        rw [if_pos (by omega), ontimeref31_State_Access.j1]
        exact acc_l0 x W S W L S W L false false l hS hW hf l [] [] k rfl (by simp; omega) hl (by simp; omega)
      | some c =>
        obtain ⟨_, c0, _⟩ := look_fit hf hc
        simp only [Option.getD_some]
        rw [if_neg (by omega), ontimeref31_State_Access.j1]
        exact acc_l0 x c S W L S W L false false l hS hW hf l [] [] k rfl (by simp; omega) hl (by simp; omega)
  · simp only [if_true]
    rw [ontimeref31_State_Access.j0]
    simp

/-! ### an access to one of several lines -/
def rPuts : Nat → List S81 → Int → List S81
  | 0, l, _ => l
  | n + 1, l, x => rPuts n (rPut l x 0) (x + 1)
def rRange (S W : Int) (s : RS) (lo hi : Int) : RS :=
  if s.1 = true then s else if hi < max lo 0 then s else if max lo 0 = hi then rAcc S W s (max lo 0) else if 64 ≤ hi - max lo 0 then (true, []) else (false, rPuts (hi - max lo 0 + 1).toNat s.2 (max lo 0))
theorem rPut_len (l : List S81) (x v : Int) : (rPut l x v).length ≤ l.length + 1 := putG_len x v l false
theorem rPuts_len : ∀ (n : Nat) (l : List S81) (x : Int), (rPuts n l x).length ≤ l.length + n
  | 0, l, x => by simp [rPuts]
  | n + 1, l, x => by
    have h1 := rPuts_len n (rPut l x 0) (x + 1)
    have h2 := rPut_len l x 0
    simp only [rPuts]
    omega
theorem range_l0 (hi S W L : Int) (hhi : hi ≤ 1000000) : ∀ (n : Nat) (x : Int) (l : List S81) (k : Nat), (n : Int) = hi - x + 1 → 0 ≤ x → 3 * n + 2 * l.length + 3 ≤ k → l.length + n < 100000 →
    ontimeref31_State_AccessRange.l0 k hi x S W L false l = some (S, W, L, false, rPuts n l x) := by
  intro n
  induction n with
  | zero =>
    intro x l k h h0 hk hl
    obtain ⟨k, rfl⟩ : ∃ j, k = j + 1 := ⟨k - 1, by omega⟩
    rw [ontimeref31_State_AccessRange.l0, if_neg (by omega)]
    rfl
  | succ n ih =>
    intro x l k h h0 hk hl
    obtain ⟨k, rfl⟩ : ∃ j, k = j + 1 := ⟨k - 1, by omega⟩
    rw [ontimeref31_State_AccessRange.l0, if_pos (by omega), put_f _ _ _ _ _ _ _ (by omega) _ (by omega)]
    simp only [Option.bind_some]
    have h1 := rPut_len l x 0
    have hw : wrap64 (x + 1) = x + 1 := w64 (by omega)
    rw [hw, ih (x + 1) _ k (by omega) (by omega) (by omega) (by omega)]
    rfl
theorem range_f (lo hi S W L : Int) (hlo : -1000000 ≤ lo) (hhi : hi ≤ 1000000) (hhi2 : -1000000 ≤ hi) (hlo2 : lo ≤ 1000000) (s : RS) (hS : S ≠ 0) (hW1 : 1 ≤ W) (hW : W ≤ 8) (hf : FitL W s.2) (hl : s.2.length < 50000) (k : Nat) (hk : 4 * s.2.length + 300 ≤ k) :
    ontimeref31_State_AccessRange.f k S W L s.1 s.2 lo hi = some (S, W, L, (rRange S W s lo hi).1, (rRange S W s lo hi).2) := by
  have key : ∀ m : Int, m = max lo 0 → ontimeref31_State_AccessRange.j0 k m hi S W L s.1 s.2 = some (S, W, L, (rRange S W s lo hi).1, (rRange S W s lo hi).2) := by
    intro m hm
    obtain ⟨k, rfl⟩ : ∃ j, k = j + 1 + 1 := ⟨k - 2, by omega⟩
    unfold rRange
    rw [← hm]
    have hm0 : 0 ≤ m ∧ m ≤ 1000000 := by omega
    clear hm
    obtain ⟨u, l⟩ := s
    simp only at hf hl hk ⊢
    rw [ontimeref31_State_AccessRange.j0]
    cases u
    · simp only [Bool.false_eq_true, if_false]
      rw [ontimeref31_State_AccessRange.j1]
      by_cases h1 : hi < m
      · simp [h1]
      · have h1' : ¬ m > hi := h1
        simp only [h1, decide_false, Bool.false_eq_true, if_false]
        by_cases h2 : m = hi
        · rw [if_pos h2, if_pos h2]
          have := acc_f m S W L (false, l) hS hW1 hW hf (by simp; omega) k (by simp; omega)
          simp only at this
          rw [this]
          rfl
        · rw [if_neg h2, if_neg h2]
          have hw : wrap64 (hi - m) = hi - m := w64 (by omega)
          rw [hw]
          by_cases h3 : 64 ≤ hi - m
          · rw [if_pos h3, if_pos h3]
          · rw [if_neg h3, if_neg h3]
            exact range_l0 hi S W L hhi (hi - m + 1).toNat m l k (by omega) hm0.1 (by omega) (by omega)
    · simp only [if_true]
      rw [ontimeref31_State_AccessRange.j1]
      simp
  unfold ontimeref31_State_AccessRange.f
  by_cases hl0 : lo < 0
  · rw [if_pos hl0]
    exact key 0 (by omega)
  · rw [if_neg hl0]
    exact key lo (by omega)
end Go.Proofs.Ytjckghdgogkeaaa

namespace Go.Proofs.Ytjckghdgogkeaaa
open Go.RowKit Go.Maps Go.Proofs.YtjckghdgogkeaaaW.PrintWords Go.Proofs.Ytjckghdgogkeaaa.PMayDescribes
set_option linter.unusedVariables false

def Srt : List S81 → Prop
  | [] => True
  | a :: t => (∀ b ∈ t, a.f0 < b.f0) ∧ Srt t
/-- The list says what f says, in ascending order. -/
structure Rep (W : Int) (l : List S81) (f : FM) : Prop where
  look : ∀ y, look l y = f y
  srt : Srt l
  fit : FitL W l
theorem mem_done {x v : Int} {b : S81} : ∀ {l : List S81}, b ∈ putG x v true l → b ∈ l ∧ b.f0 ≠ x
  | [], h => by simp [putG] at h
  | a :: t, h => by
    simp only [putG, Bool.true_eq_false, false_and, if_false] at h
    split at h
    · have := mem_done h
      exact ⟨by simp [this.1], this.2⟩
    · rename_i he
      rcases List.mem_cons.1 h with rfl | h
      · exact ⟨by simp, he⟩
      · have := mem_done h
        exact ⟨by simp [this.1], this.2⟩
theorem mem_put {x v : Int} {b : S81} : ∀ {l : List S81}, b ∈ rPut l x v → b = ⟨x, v⟩ ∨ (b ∈ l ∧ b.f0 ≠ x)
  | [], h => by
    simp [rPut, putG] at h
    exact .inl h
  | a :: t, h => by
    unfold rPut at h
    simp only [putG] at h
    split at h
    · split at h
      · rcases List.mem_cons.1 h with rfl | h
        · exact .inl rfl
        · have := mem_done h
          exact .inr ⟨by simp [this.1], this.2⟩
      · rename_i he
        rcases List.mem_cons.1 h with rfl | h
        · exact .inl rfl
        · rcases List.mem_cons.1 h with rfl | h
          · exact .inr ⟨by simp, he⟩
          · have := mem_done h
            exact .inr ⟨by simp [this.1], this.2⟩
    · split at h
      · rcases mem_put (l := t) h with h | h
        · exact .inl h
        · exact .inr ⟨by simp [h.1], h.2⟩
      · rename_i he
        rcases List.mem_cons.1 h with rfl | h
        · exact .inr ⟨by simp, he⟩
        · rcases mem_put (l := t) h with h | h
          · exact .inl h
          · exact .inr ⟨by simp [h.1], h.2⟩
theorem srt_done {x v : Int} : ∀ {l : List S81}, Srt l → Srt (putG x v true l)
  | [], _ => by simp [putG, Srt]
  | a :: t, h => by
    simp only [putG, Bool.true_eq_false, false_and, if_false]
    split
    · exact srt_done h.2
    · exact ⟨fun b hb => h.1 b (mem_done hb).1, srt_done h.2⟩
theorem srt_put {x v : Int} : ∀ {l : List S81}, Srt l → Srt (rPut l x v)
  | [], _ => by simp [rPut, putG, Srt]
  | a :: t, h => by
    unfold rPut
    simp only [putG]
    split
    · rename_i hge
      have hge := hge.2
      split
      · rename_i he
        exact ⟨fun b hb => by have := h.1 b (mem_done hb).1; show x < b.f0; omega, srt_done h.2⟩
      · rename_i he
        have hd : Srt (putG x v true (a :: t)) := srt_done h
        refine ⟨fun b hb => ?_, ⟨fun b hb => h.1 b (mem_done hb).1, srt_done h.2⟩⟩
        show x < b.f0
        rcases List.mem_cons.1 hb with rfl | hb
        · omega
        · have := h.1 b (mem_done hb).1
          omega
    · rename_i hge
      split
      · exact srt_put h.2
      · refine ⟨fun b hb => ?_, srt_put h.2⟩
        rcases mem_put (l := t) hb with rfl | hb
        · show a.f0 < x
          by_cases c : a.f0 ≥ x
          · exact absurd ⟨trivial, c⟩ hge
          · omega
        · exact h.1 b hb.1
theorem fit_rput {W : Int} {l : List S81} (h : FitL W l) {x : Int} (hx : 0 ≤ x) {v : Int} (h0 : 0 ≤ v) (h1 : v < W) : FitL W (rPut l x v) := fun b hb => by
  rcases mem_put hb with rfl | hb
  · exact ⟨hx, h0, h1⟩
  · exact h b hb.1
theorem Rep.put {W : Int} {l : List S81} {f : FM} (h : Rep W l f) {x : Int} (hx : 0 ≤ x) {v : Int} (h0 : 0 ≤ v) (h1 : v < W) : Rep W (rPut l x v) (put f x v) :=
  ⟨fun y => by rw [look_put]; unfold Ytjckghdgogkeaaa.put; rw [h.look], srt_put h.srt, fit_rput h.fit hx h0 h1⟩
theorem Rep.nil (W : Int) : Rep W [] noF := ⟨fun _ => rfl, trivial, fun _ h => by cases h⟩

theorem look_none {l : List S81} {x : Int} (h : ∀ b ∈ l, b.f0 ≠ x) : look l x = none := by
  induction l with
  | nil => rfl
  | cons a t ih =>
    simp only [look]
    rw [if_neg (h a (by simp))]
    exact ih fun b hb => h b (by simp [hb])
theorem mem_aged {S W h x : Int} {b : S81} : ∀ {l : List S81}, b ∈ agedR S W h x l → ∃ a ∈ l, a.f0 = b.f0 ∧ (b.f1 = a.f1 ∨ b.f1 = a.f1 + 1) ∧ b.f1 < W
  | [], hb => by simp [agedR] at hb
  | a :: t, hb => by
    simp only [agedR] at hb
    have rest : b ∈ agedR S W h x t → ∃ a' ∈ a :: t, a'.f0 = b.f0 ∧ (b.f1 = a'.f1 ∨ b.f1 = a'.f1 + 1) ∧ b.f1 < W := fun hb => by
      obtain ⟨c, hc, he⟩ := mem_aged (l := t) hb
      exact ⟨c, by simp [hc], he⟩
    split at hb
    · split at hb
      · rename_i hlt
        rcases List.mem_cons.1 hb with rfl | hb
        · exact ⟨a, by simp, rfl, .inr rfl, hlt⟩
        · exact rest hb
      · exact rest hb
    · split at hb
      · rename_i hlt
        rcases List.mem_cons.1 hb with rfl | hb
        · exact ⟨b, by simp, rfl, .inl rfl, hlt⟩
        · exact rest hb
      · exact rest hb
theorem srt_aged {S W h x : Int} : ∀ {l : List S81}, Srt l → Srt (agedR S W h x l)
  | [], _ => by simp [agedR, Srt]
  | a :: t, hs => by
    have hm : ∀ b ∈ agedR S W h x t, a.f0 < b.f0 := fun b hb => by
      obtain ⟨c, hc, he, _⟩ := mem_aged hb
      have := hs.1 c hc
      omega
    simp only [agedR]
    split
    · split
      · exact ⟨hm, srt_aged hs.2⟩
      · exact srt_aged hs.2
    · split
      · exact ⟨hm, srt_aged hs.2⟩
      · exact srt_aged hs.2
theorem fit_agedR {S W h x : Int} {l : List S81} (hf : FitL W l) : FitL W (agedR S W h x l) := fun b hb => by
  obtain ⟨a, ha, he, h1, h2⟩ := mem_aged hb
  obtain ⟨p, q, r⟩ := hf a ha
  omega
theorem look_aged {S W h x : Int} (hx : 0 ≤ x) (hS : 0 < S) : ∀ {l : List S81}, Srt l → FitL W l → ∀ y, look (agedR S W h x l) y = aged S W h x (look l) y
  | [], _, _, y => by simp [agedR, look, aged]
  | a :: t, hs, hf, y => by
    have ih := look_aged (h := h) hx hS hs.2 (fun b hb => hf b (by simp [hb])) y
    obtain ⟨g0, g1, g2⟩ := hf a (by simp)
    have e1 : Int.tmod a.f0 S = a.f0 % S := Int.tmod_eq_emod_of_nonneg g0
    have e2 : Int.tmod x S = x % S := Int.tmod_eq_emod_of_nonneg hx
    simp only [agedR, e1, e2]
    by_cases hy : a.f0 = y
    · have hn : look (agedR S W h x t) y = none := look_none fun b hb => by
        obtain ⟨c, hc, he, _⟩ := mem_aged hb
        have := hs.1 c hc
        omega
      subst hy
      have hlk : look (a :: t) a.f0 = some a.f1 := by simp [look]
      by_cases hc : a.f0 ≠ x ∧ a.f0 % S = x % S ∧ a.f1 ≤ h
      · by_cases hl : a.f1 + 1 < W
        · rw [aged_up hlk hc.1 hc.2.1 hc.2.2 hl, if_pos hc, if_pos hl]
          simp [look]
        · rw [aged_out hlk hc.1 hc.2.1 hc.2.2 (by omega), if_pos hc, if_neg hl]
          exact hn
      · rw [aged_keep hlk (by by_cases k1 : a.f0 = x <;> by_cases k2 : a.f0 % S = x % S <;> simp_all), if_neg hc, if_pos g2]
        simp [look]
    · have e3 : aged S W h x (look (a :: t)) y = aged S W h x (look t) y := by
        unfold aged
        simp only [look, if_neg hy]
      rw [e3, ← ih]
      split <;> (try split) <;> simp [look, hy]
theorem Rep.acc {S W : Int} {l : List S81} {f : FM} (h : Rep W l f) (hS : 0 < S) (hW : 1 ≤ W) {x : Int} (hx : 0 ≤ x) : Rep W (rPut (agedR S W ((Ytjckghdgogkeaaa.look l x).getD W) x l) x 0) (mayAcc S W f x) := by
  have hl : Ytjckghdgogkeaaa.look l = f := funext h.look
  have h1 : Rep W (agedR S W ((Ytjckghdgogkeaaa.look l x).getD W) x l) (aged S W ((f x).getD W) x f) := ⟨fun y => by rw [look_aged hx hS h.srt h.fit, hl], srt_aged h.srt, fit_agedR h.fit⟩
  exact h1.put hx (by omega) (by omega)
theorem Rep.puts {W : Int} (hW : 1 ≤ W) : ∀ (n : Nat) {l : List S81} {f : FM} (x : Int), Rep W l f → 0 ≤ x → Rep W (rPuts n l x) (puts f x (x + n - 1))
  | 0, l, f, x, h, hx => by
    have e : x + ((0 : Nat) : Int) - 1 = x - 1 := by omega
    rw [e, puts_nil]
    exact h
  | n + 1, l, f, x, h, hx => by
    have ih := Rep.puts hW n (x + 1) (h.put hx (v := 0) (by omega) (by omega)) (by omega)
    have e : Ytjckghdgogkeaaa.puts f x (x + ((n + 1 : Nat) : Int) - 1) = Ytjckghdgogkeaaa.puts (Ytjckghdgogkeaaa.put f x 0) (x + 1) (x + 1 + (n : Int) - 1) := by
      funext y
      unfold Ytjckghdgogkeaaa.puts Ytjckghdgogkeaaa.put
      by_cases c : y = x
      · subst c
        rw [if_pos (by omega), if_neg (by omega), if_pos rfl]
      · by_cases k : x ≤ y ∧ y ≤ x + ((n + 1 : Nat) : Int) - 1
        · rw [if_pos k, if_pos (by omega)]
        · rw [if_neg k, if_neg (by omega), if_neg c]
    rw [e]
    exact ih

/-- The reference's state says what st says. -/
def Rel (W : Int) (st : St) (s : RS) : Prop := (st = none ∧ s = (true, [])) ∨ ∃ f, st = some f ∧ s.1 = false ∧ Rep W s.2 f
theorem Rel.start (W : Int) : Rel W (some noF) (false, []) := .inr ⟨noF, rfl, rfl, Rep.nil W⟩
theorem Rel.fit {W : Int} {st : St} {s : RS} (h : Rel W st s) : FitL W s.2 := by
  rcases h with ⟨_, rfl⟩ | ⟨f, _, _, h⟩
  · intro _ h; cases h
  · exact h.fit
theorem Rel.acc {S W : Int} {st : St} {s : RS} (h : Rel W st s) (hS : 0 < S) (hW : 1 ≤ W) (x : Int) : Rel W (sAcc S W st x) (rAcc S W s x) := by
  rcases h with ⟨rfl, rfl⟩ | ⟨f, rfl, hu, h⟩
  · exact .inl ⟨rfl, rfl⟩
  · unfold rAcc sAcc
    rw [hu]
    simp only [Bool.false_eq_true, if_false]
    by_cases hx : x < 0
    · rw [if_pos hx, if_pos hx]
      exact .inr ⟨f, rfl, hu, h⟩
    · rw [if_neg hx, if_neg hx]
      exact .inr ⟨_, rfl, rfl, h.acc hS hW (by omega)⟩
theorem Rel.range {S W : Int} {st : St} {s : RS} (h : Rel W st s) (hS : 0 < S) (hW : 1 ≤ W) (lo hi : Int) : Rel W (sRange S W st lo hi) (rRange S W s lo hi) := by
  rcases h with ⟨rfl, rfl⟩ | ⟨f, rfl, hu, h⟩
  · exact .inl ⟨rfl, rfl⟩
  · unfold rRange sRange
    rw [hu]
    simp only [Bool.false_eq_true, if_false]
    by_cases h1 : hi < max lo 0
    · rw [if_pos h1, if_pos h1]
      exact .inr ⟨f, rfl, hu, h⟩
    · rw [if_neg h1, if_neg h1]
      by_cases h2 : max lo 0 = hi
      · rw [if_pos h2, if_pos h2]
        have := Rel.acc (S := S) (.inr ⟨f, rfl, hu, h⟩) hS hW (max lo 0)
        unfold sAcc at this
        rw [h2] at this ⊢
        simp only at this
        rwa [if_neg (by omega)] at this
      · rw [if_neg h2, if_neg h2]
        by_cases h3 : 64 ≤ hi - max lo 0
        · rw [if_pos h3, if_pos h3]
          exact .inl ⟨rfl, rfl⟩
        · rw [if_neg h3, if_neg h3]
          refine .inr ⟨_, rfl, rfl, ?_⟩
          have := Rep.puts hW (hi - max lo 0 + 1).toNat (max lo 0) h (by omega)
          have e : max lo 0 + ((hi - max lo 0 + 1).toNat : Int) - 1 = hi := by omega
          rwa [e] at this
def rStep (S W : Int) (s : RS) (lo hi : Int) : RS := if lo = hi then rAcc S W s lo else rRange S W s lo hi
theorem Rel.step {S W : Int} {st : St} {s : RS} (h : Rel W st s) (hS : 0 < S) (hW : 1 ≤ W) (lo hi : Int) : Rel W (sStep S W st lo hi) (rStep S W s lo hi) := by
  unfold sStep rStep
  split
  · exact h.acc hS hW lo
  · exact h.range hS hW lo hi
theorem rAcc_len (S W : Int) (s : RS) (x : Int) : (rAcc S W s x).2.length ≤ s.2.length + 64 := by
  unfold rAcc
  split
  · omega
  · split
    · omega
    · have h1 := rPut_len (agedR S W ((look s.2 x).getD W) x s.2) x 0
      have h2 := agedR_len S W ((look s.2 x).getD W) x s.2
      simp only
      omega
theorem rRange_len (S W : Int) (s : RS) (lo hi : Int) : (rRange S W s lo hi).2.length ≤ s.2.length + 64 := by
  unfold rRange
  split
  · omega
  · split
    · omega
    · split
      · exact rAcc_len S W s _
      · split
        · simp
        · have := rPuts_len (hi - max lo 0 + 1).toNat s.2 (max lo 0)
          simp only
          omega
theorem rStep_len (S W : Int) (s : RS) (lo hi : Int) : (rStep S W s lo hi).2.length ≤ s.2.length + 64 := by
  unfold rStep
  split
  · exact rAcc_len S W s lo
  · exact rRange_len S W s lo hi

/-! ### Describes -/
def okFrom (l : List S81) : List Int → Int → Bool
  | [], _ => true
  | x :: t, j => if (look l x).getD (-1) < 0 then false else if (look l x).getD (-1) > j then false else okFrom l t (j + 1)
def rowsOk (s : RS) : List (List Int) → Bool
  | [] => true
  | r :: t => if s.1 = true then rowsOk s t else if okFrom s.2 r 0 = true then rowsOk s t else false
/-- The fuel that the rows want. -/
def fuelOf : List (List Int) → Nat
  | [] => 1
  | r :: t => r.length + 3 + fuelOf t
theorem rowAt {α : Type} {ls pre : List α} {r : α} {t : List α} (h : ls = pre ++ r :: t) (z : α) : ls.getD (pre.length : Int).toNat z = r := by
  subst h
  simp [List.getD_eq_getElem?_getD]
theorem descr_l1 (S W L : Int) (s : RS) (hl : s.2.length < 100000) (ls : List (List Int)) (hls : ls.length < 100000) (pre t : List (List Int)) (row : List Int) (hrow : row.length < 100000) (hh : ls = pre ++ row :: t) (N : Nat) (hN : s.2.length + 1 ≤ N)
    (next : ∀ k, N + fuelOf t ≤ k → ontimeref31_Describes.l0 k ls ((pre ++ [row]).length : Int) S W L s.1 s.2 = some (rowsOk s t)) :
    ∀ (r p : List Int) (k : Nat), row = p ++ r → N + fuelOf t + r.length + 1 ≤ k → ontimeref31_Describes.l1 k ls (pre.length : Int) (p.length : Int) S W L s.1 s.2 = some (if s.1 = true then rowsOk s t else if okFrom s.2 r (p.length : Int) = true then rowsOk s t else false) := by
  intro r
  have hw0 : wrap64 ((pre.length : Int) + 1) = ((pre ++ [row]).length : Int) := by
    have : pre.length < ls.length := by subst hh; simp
    simp only [List.length_append, List.length_singleton]
    rw [w64] <;> omega
  have hlt : (pre.length : Int) < (ls.length : Int) := by subst hh; simp; omega
  have hr : rd_L4 ls (pre.length : Int) = row := rowAt hh _
  induction r with
  | nil =>
    intro p k hp hk
    obtain ⟨k, rfl⟩ : ∃ j, k = j + 1 := ⟨k - 1, by omega⟩
    rw [ontimeref31_Describes.l1, if_pos (by omega), if_pos hlt, hr]
    simp only [List.append_nil] at hp
    subst hp
    rw [if_neg (by omega), hw0, next k (by simp at hk; omega)]
    simp [okFrom]
  | cons x r ih =>
    intro p k hp hk
    obtain ⟨k, rfl⟩ : ∃ j, k = j + 1 := ⟨k - 1, by omega⟩
    simp only [List.length_cons] at hk
    have hplt : (p.length : Int) < (row.length : Int) := by subst hp; simp; omega
    have hx : rd row (p.length : Int) = x := rowAt hp _
    have hw : wrap64 ((p.length : Int) + 1) = ((p ++ [x]).length : Int) := by
      simp only [List.length_append, List.length_singleton]
      rw [w64] <;> omega
    have ih := ih (p ++ [x]) k (by simp [hp]) (by omega)
    have hpl : ((p ++ [x]).length : Int) = (p.length : Int) + 1 := by simp
    rw [ontimeref31_Describes.l1, if_pos (by omega), if_pos hlt, hr, if_pos hplt, if_pos (by omega), hx, age_f _ _ _ _ _ _ (by omega) _ (by omega)]
    rw [hpl] at hw ih
    simp only [Option.bind_some]
    rw [hw]
    by_cases hu : s.1 = true
    · rw [if_pos hu, if_pos hu, ih, if_pos hu]
    · rw [if_neg hu, if_neg hu]
      rw [if_neg hu] at ih
      by_cases c1 : (look s.2 x).getD (-1) < 0
      · have e : okFrom s.2 (x :: r) (p.length : Int) = false := by
          simp only [okFrom]
          rw [if_pos c1]
        rw [if_pos c1, e]
        rfl
      · by_cases c2 : (look s.2 x).getD (-1) > (p.length : Int)
        · have e : okFrom s.2 (x :: r) (p.length : Int) = false := by
            simp only [okFrom]
            rw [if_neg c1, if_pos c2]
          rw [if_neg c1, if_pos c2, e]
          rfl
        · have e : okFrom s.2 (x :: r) (p.length : Int) = okFrom s.2 r ((p.length : Int) + 1) := by
            simp only [okFrom]
            rw [if_neg c1, if_neg c2]
          rw [if_neg c1, if_neg c2, e, ih]
theorem descr_l0 (S W L : Int) (s : RS) (hl : s.2.length < 100000) (ls : List (List Int)) (hls : ls.length < 100000) (hrows : ∀ r ∈ ls, r.length < 100000) (N : Nat) (hN : s.2.length + 1 ≤ N) :
    ∀ (t pre : List (List Int)) (k : Nat), ls = pre ++ t → N + fuelOf t ≤ k → ontimeref31_Describes.l0 k ls (pre.length : Int) S W L s.1 s.2 = some (rowsOk s t) := by
  intro t
  induction t with
  | nil =>
    intro pre k hh hk
    obtain ⟨k, rfl⟩ : ∃ j, k = j + 1 := ⟨k - 1, by simp [fuelOf] at hk; omega⟩
    rw [ontimeref31_Describes.l0]
    simp only [List.append_nil] at hh
    subst hh
    rw [if_neg (by omega)]
    rfl
  | cons row t ih =>
    intro pre k hh hk
    simp only [fuelOf] at hk
    obtain ⟨k, rfl⟩ : ∃ j, k = j + 1 := ⟨k - 1, by omega⟩
    have hlt : (pre.length : Int) < (ls.length : Int) := by subst hh; simp; omega
    rw [ontimeref31_Describes.l0, if_pos hlt]
    exact descr_l1 S W L s hl ls hls pre t row (hrows row (by subst hh; simp)) hh N hN (fun k hk => ih (pre ++ [row]) k (by simp [hh]) hk) row [] k rfl (by omega)
theorem descr_f (S W L : Int) (s : RS) (hl : s.2.length < 100000) (ls : List (List Int)) (hls : ls.length < 100000) (hrows : ∀ r ∈ ls, r.length < 100000) :
    ∃ k, ontimeref31_Describes.f k S W L s.1 s.2 ls = some (decide ((ls.length : Int) = S) && rowsOk s ls) := by
  refine ⟨s.2.length + 1 + fuelOf ls, ?_⟩
  unfold ontimeref31_Describes.f
  by_cases h : (ls.length : Int) = S
  · rw [if_pos h]
    have := descr_l0 S W L s hl ls hls hrows (s.2.length + 1) (Nat.le_refl _) ls [] _ rfl (Nat.le_refl _)
    simp only [List.length_nil] at this
    rw [show ((0 : Nat) : Int) = 0 from rfl] at this
    rw [this]
    simp [h]
  · rw [if_neg h]
    simp [h]
theorem okFrom_iff {W : Int} {l : List S81} {f : FM} (h : Rep W l f) : ∀ (r : List Int) (j : Nat), okFrom l r (j : Int) = true ↔ ∀ i, i < r.length → ∃ b, f (r.getD i 0) = some b ∧ b ≤ ((j + i : Nat) : Int)
  | [], j => by simp [okFrom]
  | x :: t, j => by
    have ih := okFrom_iff h t (j + 1)
    have ej : ((j + 1 : Nat) : Int) = (j : Int) + 1 := by omega
    rw [ej] at ih
    simp only [okFrom, h.look]
    cases hx : f x with
    | none =>
      simp only [Option.getD_none]
      rw [if_pos (by omega)]
      simp only [Bool.false_eq_true, false_iff]
      intro hall
      obtain ⟨b, hb, _⟩ := hall 0 (by simp)
      simp only [List.getD_cons_zero] at hb
      rw [hx] at hb
      cases hb
    | some b =>
      have hb0 := (look_fit h.fit ((h.look x).trans hx)).2.1
      simp only [Option.getD_some]
      rw [if_neg (by omega)]
      by_cases hbj : b > (j : Int)
      · rw [if_pos hbj]
        simp only [Bool.false_eq_true, false_iff]
        intro hall
        obtain ⟨b', hb, hle⟩ := hall 0 (by simp)
        simp only [List.getD_cons_zero] at hb
        rw [hx] at hb
        cases hb
        omega
      · rw [if_neg hbj, ih]
        constructor
        · intro hall i hi
          cases i with
          | zero => exact ⟨b, by simpa using hx, by omega⟩
          | succ i =>
            obtain ⟨b', h1, h2⟩ := hall i (by simp at hi; omega)
            exact ⟨b', by simpa using h1, by omega⟩
        · intro hall i hi
          obtain ⟨b', h1, h2⟩ := hall (i + 1) (by simp; omega)
          exact ⟨b', by simpa using h1, by omega⟩
theorem rowsOk_iff {W : Int} {st : St} {s : RS} (h : Rel W st s) : ∀ (ls : List (List Int)), rowsOk s ls = true ↔ ∀ f, st = some f → ∀ k, k < ls.length → OkRow f (ls.getD k [])
  | [] => by simp [rowsOk]
  | r :: t => by
    have ih := rowsOk_iff h t
    simp only [rowsOk]
    rcases h with ⟨rfl, rfl⟩ | ⟨f, rfl, hu, h⟩
    · simp only [if_true]
      rw [ih]
      simp
    · rw [hu]
      simp only [Bool.false_eq_true, if_false]
      have h0 := okFrom_iff h r 0
      rw [show ((0 : Nat) : Int) = 0 from rfl] at h0
      by_cases hr : okFrom s.2 r 0 = true
      · rw [if_pos hr, ih]
        have hr := h0.1 hr
        constructor
        · intro hall f' e k hk
          cases e
          cases k with
          | zero =>
            intro i hi
            obtain ⟨b, h1, h2⟩ := hr i (by simpa using hi)
            exact ⟨b, by simpa using h1, by omega⟩
          | succ k => simpa using hall f rfl k (by simp at hk; omega)
        · intro hall f' e k hk
          cases e
          simpa using hall f rfl (k + 1) (by simp; omega)
      · rw [if_neg hr]
        simp only [Bool.false_eq_true, false_iff]
        intro hall
        apply hr
        rw [h0]
        intro i hi
        obtain ⟨b, h1, h2⟩ := hall f rfl 0 (by simp) i (by simpa using hi)
        exact ⟨b, by simpa using h1, by omega⟩
theorem descr_iff {W S : Int} {st : St} {s : RS} (h : Rel W st s) (ls : List (List Int)) : (decide ((ls.length : Int) = S) && rowsOk s ls) = true ↔ Descr S st ls := by
  simp only [Bool.and_eq_true, decide_eq_true_eq, rowsOk_iff h ls]
  exact Iff.rfl
end Go.Proofs.Ytjckghdgogkeaaa

namespace Go.Proofs.Ytjckghdgogkeaaa
open Go.RowKit Go.Maps
set_option linter.unusedVariables false

theorem g121 : Geo 1 2 1 := ⟨.inl rfl, by decide, by decide, .inl rfl, by decide⟩
theorem sAcc_pos {S W : Int} {f : FM} {x : Int} (h : ¬ x < 0) : sAcc S W (some f) x = some (mayAcc S W f x) := if_neg h

/-- An age asked of a known state. -/
theorem age_st {S W L : Int} (x : Int) (u : Bool) (p : Option Nat) (n : Nat) (f : FM) (w : World) (h : StB w W n (some f) u p) (hx : I64 x) (c : Int) (ok : Bool) (hc : (f x).getD 0 = c) (hok : (f x).isSome = ok) :
    Calls Try.prog 23 #[.agg #[.int .i64 S, .int .i64 W, .int .i64 L, .bool u, .map p], .int .i64 x] w fun e w' => e = .returned (.tuple #[.int .i64 c, .bool ok]) ∧ Ext w w' := by
  rcases h with ⟨_, _, h⟩ | ⟨rfl, f', he, him, _⟩
  · cases h
  · cases he
    exact may_age S W L x p n f w him hx c ok hc hok

def AW1 : FM := mayAcc 1 2 noF 4
def AW2 : FM := mayAcc 1 2 AW1 7
def AW3 : FM := mayAcc 1 2 AW2 9
theorem aw1 : AW2 4 = some 1 := awake_facts.1
theorem aw2 : AW2 7 = some 0 := awake_facts.2.1
theorem aw3 : AW3 4 = none := awake_facts.2.2
theorem awake_acc1 (u : Bool) (p : Option Nat) (n : Nat) (w : World) (h : StB w 2 n (some noF) u p) (hn : n ≤ 1000000) :
    Calls Try.prog 32 #[.agg #[.int .i64 1, .int .i64 2, .int .i64 1, .bool u, .map p], .int .i64 4] w (Gives 1 2 1 (n + 64) (some AW1) w) := acc_st g121 4 (by decide) u p n _ w h hn
theorem awake_acc2 (u : Bool) (p : Option Nat) (n : Nat) (w : World) (h : StB w 2 n (some AW1) u p) (hn : n ≤ 1000000) :
    Calls Try.prog 32 #[.agg #[.int .i64 1, .int .i64 2, .int .i64 1, .bool u, .map p], .int .i64 7] w (Gives 1 2 1 (n + 64) (some AW2) w) := acc_st g121 7 (by decide) u p n _ w h hn
theorem awake_acc3 (u : Bool) (p : Option Nat) (n : Nat) (w : World) (h : StB w 2 n (some AW2) u p) (hn : n ≤ 1000000) :
    Calls Try.prog 32 #[.agg #[.int .i64 1, .int .i64 2, .int .i64 1, .bool u, .map p], .int .i64 9] w (Gives 1 2 1 (n + 64) (some AW3) w) := acc_st g121 9 (by decide) u p n _ w h hn
theorem awake_age1 (u : Bool) (p : Option Nat) (n : Nat) (w : World) (h : StB w 2 n (some AW2) u p) :
    Calls Try.prog 23 #[.agg #[.int .i64 1, .int .i64 2, .int .i64 1, .bool u, .map p], .int .i64 4] w fun e w' => e = .returned (.tuple #[.int .i64 1, .bool true]) ∧ Ext w w' := age_st 4 u p n _ w h (.of (by decide) (by decide)) _ _ (by rw [aw1]; rfl) (by rw [aw1]; rfl)
theorem awake_age2 (u : Bool) (p : Option Nat) (n : Nat) (w : World) (h : StB w 2 n (some AW2) u p) :
    Calls Try.prog 23 #[.agg #[.int .i64 1, .int .i64 2, .int .i64 1, .bool u, .map p], .int .i64 7] w fun e w' => e = .returned (.tuple #[.int .i64 0, .bool true]) ∧ Ext w w' := age_st 7 u p n _ w h (.of (by decide) (by decide)) _ _ (by rw [aw2]; rfl) (by rw [aw2]; rfl)
theorem awake_age3 (u : Bool) (p : Option Nat) (n : Nat) (w : World) (h : StB w 2 n (some AW3) u p) :
    Calls Try.prog 23 #[.agg #[.int .i64 1, .int .i64 2, .int .i64 1, .bool u, .map p], .int .i64 4] w fun e w' => e = .returned (.tuple #[.int .i64 0, .bool false]) ∧ Ext w w' := age_st 4 u p n _ w h (.of (by decide) (by decide)) _ _ (by rw [aw3]; rfl) (by rw [aw3]; rfl)

set_option maxHeartbeats 1000000 in
theorem awake_yes (w : World) : Calls Try.prog 11 #[] w fun e w' => e = .returned (.bool true) ∧ Ext w w' := by
  go_enter Try.func11, Try.ntmps11
  go_wp2_with (first
    | (have g := hb6; clear g; go_at_call 23; refine Calls.mono (awake_age3 _ _ (0 + 64 + 64 + 64) _ (by repeat (first | (with_reducible assumption) | (with_reducible refine StB.set ?_) | (with_reducible refine StB.alloc ?_ _) | (refine StB.ext ?_ (by with_reducible assumption))))) ?_; rintro e w7 ⟨rfl, hb7⟩)
    | (have g := hb5; clear g; go_at_call 32; refine Calls.mono (awake_acc3 _ _ (0 + 64 + 64) _ (by repeat (first | (with_reducible assumption) | (with_reducible refine StB.set ?_) | (with_reducible refine StB.alloc ?_ _) | (refine StB.ext ?_ (by with_reducible assumption)))) (by omega)) ?_; rintro e w6 ⟨u6, p6, rfl, h6, hb6⟩)
    | (have g := hb4; clear g; go_at_call 23; refine Calls.mono (awake_age2 _ _ (0 + 64 + 64) _ (by repeat (first | (with_reducible assumption) | (with_reducible refine StB.set ?_) | (with_reducible refine StB.alloc ?_ _) | (refine StB.ext ?_ (by with_reducible assumption))))) ?_; rintro e w5 ⟨rfl, hb5⟩; obtain ⟨d0, d1, d2, d3, d4⟩ := Blk.c5 (w := w5) (B := w3.heap.size) (by repeat (first | (with_reducible assumption) | ((with_reducible refine Blk.new ?_); (first | (focus rfl) | (focus (simp; done)) | (focus omega))) | ((with_reducible refine Blk.set1 ?_ ?_); (focus omega)) | (with_reducible refine Blk.alloc ?_) | (refine Blk.ext ?_ (by with_reducible assumption)))))
    | (have g := hb3; clear g; go_at_call 23; refine Calls.mono (awake_age1 _ _ (0 + 64 + 64) _ (by repeat (first | (with_reducible assumption) | (with_reducible refine StB.set ?_) | (with_reducible refine StB.alloc ?_ _) | (refine StB.ext ?_ (by with_reducible assumption))))) ?_; rintro e w4 ⟨rfl, hb4⟩; obtain ⟨a0, a1, a2, a3, a4⟩ := Blk.c5 (w := w4) (B := w3.heap.size) (by repeat (first | (with_reducible assumption) | ((with_reducible refine Blk.new ?_); (first | (focus rfl) | (focus (simp; done)) | (focus omega))) | ((with_reducible refine Blk.set1 ?_ ?_); (focus omega)) | (with_reducible refine Blk.alloc ?_) | (refine Blk.ext ?_ (by with_reducible assumption)))); have q4 : w3.heap.size < w4.heap.size := (by have := hb4.size; simp at this; omega))
    | (have g := hb2; clear g; go_at_call 32; refine Calls.mono (awake_acc2 _ _ _ _ h2 (by omega)) ?_; rintro e w3 ⟨u3, p3, rfl, h3, hb3⟩)
    | (have g := hb1; clear g; go_at_call 32; refine Calls.mono (awake_acc1 _ _ 0 _ (StB.nil _ _ _) (by omega)) ?_; rintro e w2 ⟨u2, p2, rfl, h2, hb2⟩)
    | (go_at_call 21; refine Calls.mono (may_new_yes g121 _) ?_; rintro e w1 ⟨rfl, hb1⟩))
  go_ret
  exact ⟨rfl, (by repeat (first | ((with_reducible refine Ext.set1 ?_ ?_); (first | (focus (simp; done)) | (focus (simp; omega)) | (focus omega))) | (with_reducible refine Ext.alloc ?_ _) | (with_reducible exact Ext.refl _) | (refine Ext.trans ?_ (by with_reducible assumption))))⟩
end Go.Proofs.Ytjckghdgogkeaaa

namespace Go.Proofs.Ytjckghdgogkeaaa
open Go.RowKit Go.Maps Go.Proofs.YtjckghdgogkeaaaW.PrintWords Go.Proofs.Ytjckghdgogkeaaa.PMayDescribes
set_option linter.unusedVariables false

/-! ### small -/
def okStep (x : S45) : Bool := decide (¬ x.f0 < -4000 ∧ ¬ x.f0 > 4000 ∧ ¬ x.f1 < -4000 ∧ ¬ x.f1 > 4000)
def smallB (S W L : Int) (l : List S45) : Bool := vldB S W L && (decide (S ≤ 16) && (decide (W ≤ 16) && (decide (l.length ≤ 40) && l.all okStep)))
theorem power_f (n most : Int) (hm : most ≤ 64) : cache_power.f n most = some (powB n most) := by
  unfold cache_power.f
  by_cases h1 : n ≥ 1
  · rw [if_pos h1]
    by_cases h2 : n ≤ most
    · rw [if_pos h2, w64 (by omega), pow_bits n h1 (by omega)]
      unfold powB
      simp [h2]
    · rw [if_neg h2]
      unfold powB
      simp; omega
  · rw [if_neg h1]
    have : powB n most = false := by unfold powB Pow; simp; omega
    rw [this]
theorem valid_f (S W L : Int) : cache_Valid.f S W L = some (vldB S W L) := by
  unfold cache_Valid.f
  rw [power_f _ _ (by omega), power_f _ _ (by omega)]
  unfold vldB
  simp only [Option.bind_some]
  by_cases h1 : powB S 64 = true
  · rw [if_pos h1]
    by_cases h2 : W ≥ 1
    · rw [if_pos h2]
      by_cases h3 : W ≤ 8
      · rw [if_pos h3]
        have h2' : 1 ≤ W := h2
        simp [h1, h2', h3]
      · rw [if_neg h3]
        simp [h1, h3]
    · rw [if_neg h2]
      have h2' : ¬ 1 ≤ W := h2
      simp [h1, h2']
  · rw [if_neg h1]
    simp [h1]
theorem small_l0 (l : List S45) (hl : l.length < 100000) : ∀ (r pre : List S45) (k : Nat), l = pre ++ r → r.length + 1 ≤ k → ontimelaw31_small.l0 k l (l.length : Int) (pre.length : Int) = some (r.all okStep) := by
  intro r
  induction r with
  | nil =>
    intro pre k h hk
    obtain ⟨k, rfl⟩ : ∃ j, k = j + 1 := ⟨k - 1, by omega⟩
    simp only [List.append_nil] at h
    subst h
    rw [ontimelaw31_small.l0, if_neg (by omega)]
    rfl
  | cons a t ih =>
    intro pre k h hk
    obtain ⟨k, rfl⟩ : ∃ j, k = j + 1 := ⟨k - 1, by simp at hk; omega⟩
    have hlt : (pre.length : Int) < (l.length : Int) := by subst h; simp; omega
    have hr : rd_T45 l (pre.length : Int) = a := rowAt h _
    have hw : wrap64 ((pre.length : Int) + 1) = ((pre ++ [a]).length : Int) := by
      simp only [List.length_append, List.length_singleton]
      rw [w64] <;> omega
    simp only [List.length_cons] at hk
    rw [ontimelaw31_small.l0, if_pos hlt, if_pos (by omega), if_pos hlt, hr, hw, ih (pre ++ [a]) k (by simp [h]) (by omega)]
    simp only [List.all_cons]
    by_cases c1 : a.f0 < -4000
    · rw [if_pos c1]; simp [okStep]; intro; omega
    rw [if_neg c1]
    by_cases c2 : a.f0 > 4000
    · rw [if_pos c2]; simp [okStep]; intro; omega
    rw [if_neg c2]
    by_cases c3 : a.f1 < -4000
    · rw [if_pos c3]; simp [okStep]; intros; omega
    rw [if_neg c3]
    by_cases c4 : a.f1 > 4000
    · rw [if_pos c4]; simp [okStep]; intros; omega
    rw [if_neg c4]
    have : okStep a = true := by unfold okStep; exact decide_eq_true ⟨c1, c2, c3, c4⟩
    rw [this]; rfl
theorem small_f (S W L : Int) (l : List S45) : ∃ k, ontimelaw31_small.f k S W L l = some (smallB S W L l) := by
  refine ⟨60, ?_⟩
  unfold ontimelaw31_small.f smallB
  rw [valid_f]
  simp only [Option.bind_some]
  by_cases h1 : vldB S W L = true
  · rw [if_pos h1]
    by_cases h2 : S > 16
    · rw [if_pos h2, ontimelaw31_small.j0]
      have : ¬ S ≤ 16 := by omega
      simp [this]
    rw [if_neg h2]
    by_cases h3 : W > 16
    · rw [if_pos h3, ontimelaw31_small.j0]
      have : ¬ W ≤ 16 := by omega
      simp [this]
    rw [if_neg h3, ontimelaw31_small.j0]
    by_cases h4 : l.length ≤ 40
    · have e : ¬ (l.length : Int) > 40 := by omega
      have h2' : S ≤ 16 := by omega
      have h3' : W ≤ 16 := by omega
      simp only [e, decide_false, Bool.false_eq_true, if_false]
      have := small_l0 l (by omega) l [] 59 rfl (by omega)
      simp only [List.length_nil] at this
      rw [show ((0 : Nat) : Int) = 0 from rfl] at this
      rw [this]
      simp [h1, h2', h3', h4]
    · have e : (l.length : Int) > 40 := by omega
      simp [e, h4]
  · rw [if_neg h1, ontimelaw31_small.j0]
    simp [h1]
theorem small_any (S W L : Int) (A : Option Addr) (c : Nat) (l : List S45) (w : World) (hr : k45.C w A l.length l) (hc : l.length ≤ c) :
    Calls Try.prog 12 #[.agg #[.int .i64 S, .int .i64 W, .int .i64 L], .slice A l.length c] w fun e w' => e = .returned (.bool (smallB S W L l)) ∧ Ext w w' := by
  obtain ⟨k, h⟩ := small_f S W L l
  exact ontimelaw31_small.calls k S W L A c l _ w hr hc h
structure SmallIs (S W L : Int) (l : List S45) : Prop where
  geo : Geo S W L
  s16 : S ≤ 16
  len : l.length ≤ 40
  step : ∀ x ∈ l, -4000 ≤ x.f0 ∧ x.f0 ≤ 4000 ∧ -4000 ≤ x.f1 ∧ x.f1 ≤ 4000
theorem small_is {S W L : Int} {l : List S45} (h : smallB S W L l = true) : SmallIs S W L l := by
  unfold smallB at h
  simp only [Bool.and_eq_true, decide_eq_true_eq] at h
  obtain ⟨h1, h2, h3, h4, h5⟩ := h
  refine ⟨(vld_iff _ _ _).1 h1, h2, h4, fun x hx => ?_⟩
  have := List.all_eq_true.1 h5 x hx
  simp only [okStep, decide_eq_true_eq] at this
  omega

/-! ### after -/
def sSteps (S W : Int) : St → List S45 → St := List.foldl fun st x => sStep S W st x.f0 x.f1
def rSteps (S W : Int) : RS → List S45 → RS := List.foldl fun s x => rStep S W s x.f0 x.f1
theorem Rel.steps {S W : Int} (hS : 0 < S) (hW : 1 ≤ W) : ∀ (l : List S45) {st : St} {s : RS}, Rel W st s → Rel W (sSteps S W st l) (rSteps S W s l)
  | [], _, _, h => h
  | x :: t, _, _, h => Rel.steps hS hW t (h.step hS hW x.f0 x.f1)
theorem rSteps_len (S W : Int) : ∀ (l : List S45) (s : RS), (rSteps S W s l).2.length ≤ s.2.length + 64 * l.length
  | [], s => by simp [rSteps]
  | x :: t, s => by
    have h1 := rSteps_len S W t (rStep S W s x.f0 x.f1)
    have h2 := rStep_len S W s x.f0 x.f1
    show (rSteps S W (rStep S W s x.f0 x.f1) t).2.length ≤ _
    simp only [List.length_cons]
    omega
/-- The reference's list lies in w as v, in a block of its own from base on. -/
def RfB (w : World) (base : Nat) (v : Value) (l : List S81) : Prop := k81.R 81 w base (fun k => some k = v.ownBlock) v l
theorem RfB.own {w : World} {base : Nat} {v : Value} {l : List S81} (h : RfB w base v l) {g : Nat} (hg : some g = v.ownBlock) : g < w.heap.size ∧ ∃ cells, w.heap[g]? = some (.cells cells 81 (0, 0)) := by
  obtain ⟨_, _, h2, q, hq, cells, hb⟩ := (Kd.R_bound h).1 g hg.symm
  have : q = 81 := by
    rcases List.mem_cons.1 hq with h | h
    · exact h
    · cases h
  subst this
  exact ⟨h2, cells, hb⟩
theorem RfB.ext {w w' : World} {base : Nat} {v : Value} {l : List S81} (h : RfB w base v l) (e : Ext w w') : RfB w' base v l := Kd.R_below h e
theorem RfB.alloc {w : World} {base : Nat} {v : Value} {l : List S81} (h : RfB w base v l) (o : Obj) : RfB (w.alloc o) base v l := h.ext ((Ext.refl w).alloc o)
/-- A store into a block of another kind. -/
theorem RfB.set {w : World} {base : Nat} {v : Value} {l : List S81} {g k : Nat} {cs : Array Value} {t : TypeId} {u : Value} (hb : Blk w g (.cells cs t)) (ht : t ≠ 81) (h : RfB w base v l) : RfB (w.setCell ⟨g, k, none⟩ u) base v l := by
  refine Kd.R_far h (p := ⟨g, k, none⟩) (fun j hj => ?_) u
  rintro rfl
  obtain ⟨_, cells, he⟩ := h.own hj
  unfold Blk at hb
  rw [hb] at he
  cases he
  exact ht rfl
theorem kept_ne {w w' : World} {base : Nat} {v : Value} {l : List S81} (h : RfB w base v l) (hk : Kept w w' (fun k => some k = v.ownBlock)) {b : Nat} (hlt : b < w.heap.size) (ho : ∀ cells, w.heap[b]? ≠ some (.cells cells 81 (0, 0))) : w'.heap[b]? = w.heap[b]? :=
  hk.2 b hlt fun e => by
    obtain ⟨_, cells, he⟩ := h.own e
    exact ho cells he
theorem kept_blk {w w' : World} {base : Nat} {v : Value} {l : List S81} (h : RfB w base v l) (hk : Kept w w' (fun k => some k = v.ownBlock)) {b : Nat} {cs : Array Value} {t : TypeId} (hb : Blk w b (.cells cs t)) (ht : t ≠ 81) : Blk w' b (.cells cs t) := by
  refine (kept_ne h hk hb.lt fun cells e => ?_).trans hb
  unfold Blk at hb
  rw [hb] at e
  cases e
  exact ht rfl
theorem kept_st {w w' : World} {base : Nat} {v : Value} {l : List S81} (h : RfB w base v l) (hk : Kept w w' (fun k => some k = v.ownBlock)) {W : Int} {n : Nat} {st : St} {u : Bool} {p : Option Nat} (hs : StB w W n st u p) : StB w' W n st u p := by
  rcases hs with hs | ⟨h1, f, h2, h3, h4⟩
  · exact .inl hs
  · refine .inr ⟨h1, f, h2, h3.same fun b e => ?_, h4⟩
    rcases h3 with ⟨rfl, _⟩ | ⟨b', rfl, h3⟩
    · cases e
    · cases e
      obtain ⟨D, ⟨es, clock, hb, _⟩, _⟩ := h3
      have hlt : b < w.heap.size := (Array.getElem?_eq_some_iff.1 hb).1
      exact kept_ne h hk hlt fun cells e => by rw [hb] at e; cases e

theorem rstep_acc {S W L : Int} (g : Geo S W L) (x : Int) (s : RS) (v : Value) (w0 w : World) (hB : Ext w0 w) (ho : RfB w w0.heap.size v s.2) (hf : FitL W s.2) (hl : s.2.length < 50000) :
    Calls Try.prog 33 #[.agg #[.int .i64 S, .int .i64 W, .int .i64 L, .bool s.1, v], .int .i64 x] w fun e w' => ∃ v', e = .returned (.agg #[.int .i64 S, .int .i64 W, .int .i64 L, .bool (rAcc S W s x).1, v']) ∧ RfB w' w0.heap.size v' (rAcc S W s x).2 ∧ Ext w0 w' ∧ Kept w w' (fun k => some k = v.ownBlock) := by
  have hs := g.s1
  refine (ontimeref31_State_Access.calls _ S W L s.1 _ v s.2 x _ _ _ _ _ w0 w hB ho (acc_f x S W L s (by omega) g.w1 g.w8 hf (by omega) _ (Nat.le_refl _))).mono ?_
  rintro e w' ⟨v', he, h1, h2, h3⟩
  exact ⟨v', he, Kd.R_tight rfl h1, h2, h3⟩
theorem rstep_range {S W L : Int} (g : Geo S W L) (lo hi : Int) (hlo : -4000 ≤ lo ∧ lo ≤ 4000) (hhi : -4000 ≤ hi ∧ hi ≤ 4000) (s : RS) (v : Value) (w0 w : World) (hB : Ext w0 w) (ho : RfB w w0.heap.size v s.2) (hf : FitL W s.2) (hl : s.2.length < 50000) :
    Calls Try.prog 34 #[.agg #[.int .i64 S, .int .i64 W, .int .i64 L, .bool s.1, v], .int .i64 lo, .int .i64 hi] w fun e w' => ∃ v', e = .returned (.agg #[.int .i64 S, .int .i64 W, .int .i64 L, .bool (rRange S W s lo hi).1, v']) ∧ RfB w' w0.heap.size v' (rRange S W s lo hi).2 ∧ Ext w0 w' ∧ Kept w w' (fun k => some k = v.ownBlock) := by
  have hs := g.s1
  refine (ontimeref31_State_AccessRange.calls _ S W L s.1 _ v s.2 lo hi _ _ _ _ _ w0 w hB ho (range_f lo hi S W L (by omega) (by omega) (by omega) (by omega) s (by omega) g.w1 g.w8 hf hl _ (Nat.le_refl _))).mono ?_
  rintro e w' ⟨v', he, h1, h2, h3⟩
  exact ⟨v', he, Kd.R_tight rfl h1, h2, h3⟩
end Go.Proofs.Ytjckghdgogkeaaa
