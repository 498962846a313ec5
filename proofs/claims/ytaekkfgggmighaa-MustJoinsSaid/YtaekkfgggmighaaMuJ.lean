/- The contract of must.Join. -/
import Derived.Test.YtaekkfgggmighaaMu7
import Derived.Test.YtaekkfgggmighaaMuP
import Derived.Maps.RangeWalk
namespace Go.Proofs.Ytaekkfgggmighaa
open Go.RowKit Go.Maps Go.Proofs.YtaekkfgggmighaaW.PrintWords
set_option linter.unusedVariables false

theorem Mid.startN {f J : FM} (h : ∀ y, f y = none → J y = none) : Mid noF J (fun y => (f y).isSome) noF := fun y => by
  show none = if (f y).isSome = true then none else J y
  cases hf : f y with
  | none => simp [h y hf]
  | some c => simp
theorem I64.max {a b : Int} (ha : I64 a) (hb : I64 b) : I64 (max a b) := by
  rcases Int.le_total a b with h | h
  · rw [Int.max_eq_right h]; exact hb
  · rw [Int.max_eq_left h]; exact ha

set_option maxHeartbeats 400000 in
theorem must_join_zero {S W L : Int} (g : Geo S W L) (p q : Option Nat) (w : World) :
    Calls Try.prog 17 #[.agg #[.int .i64 S, .int .i64 W, .int .i64 L, .map p], .agg #[.int .i64 0, .int .i64 0, .int .i64 0, .map q]] w fun e w' => e = .returned (.agg #[.int .i64 0, .int .i64 0, .int .i64 0, .map none]) ∧ Ext w w' := by
  have h1 := g.s1
  have h2 : (S == 0) = false := by simp; omega
  go_enter Try.func17, Try.ntmps17
  go_wp2
  refine bodyPost_ret (v := .agg #[.int .i64 0, .int .i64 0, .int .i64 0, .map none]) ?_ rfl ⟨rfl, (by repeat (first | ((with_reducible refine Ext.set1 ?_ ?_); (first | (focus (simp; done)) | (focus (simp; omega)) | (focus omega))) | (with_reducible refine Ext.alloc ?_ _) | (with_reducible exact Ext.refl _) | (refine Ext.trans ?_ (by with_reducible assumption))))⟩
  simp [results, Try.results17, go_sem]

set_option maxHeartbeats 400000 in
theorem must_join_nil (S W L : Int) (q : Option Nat) (w : World) :
    Calls Try.prog 17 #[.agg #[.int .i64 S, .int .i64 W, .int .i64 L, .map none], .agg #[.int .i64 S, .int .i64 W, .int .i64 L, .map q]] w fun e w' => ∃ b', (e = .returned (.agg #[.int .i64 S, .int .i64 W, .int .i64 L, .map (some b')]) ∧ w.heap.size ≤ b') ∧ IMap w' b' 0 noF ∧ Ext w w' := by
  have hmm := @run_makeMap Try.prog
  have hrg := fun w => run_range_nilMap (P := Try.prog) w 26 _ _ Try.underlying26
  have hnx : ∀ (w : World) (X Y Z U : Obj) (ty : TypeId), (Instr.next (.pointer (some ⟨w.heap.size + 1 + 1 + 1 + 1, 0, none⟩)) false ty).run Try.prog (((((w.alloc X).alloc Y).alloc Z).alloc U).alloc (.mapIter none 0 #[] 0)) = .ok (.tuple #[.bool false]) (((((w.alloc X).alloc Y).alloc Z).alloc U).alloc (.mapIter none 0 #[] 0)) := fun w X Y Z U ty => by
    have := run_next_nilMap (P := Try.prog) ((((w.alloc X).alloc Y).alloc Z).alloc U) ty 0 0 #[]
    rwa [World.size_alloc, World.size_alloc, World.size_alloc, World.size_alloc] at this
  have h2 : ((S == S) && ((W == W) && (L == L))) = true := by simp
  go_enter Try.func17, Try.ntmps17
  go_wp2
  refine wp_loop_rounds 1 ?_
  rw [rounds_succ]
  go_wp2
  refine bodyPost_ret (v := .agg #[.int .i64 S, .int .i64 W, .int .i64 L, .map (some (w.heap.size + 1 + 1 + 1))]) ?_ rfl ⟨w.heap.size + 1 + 1 + 1, ⟨rfl, by omega⟩, ?_, ?_⟩
  · simp [results, Try.results17, go_sem]
  · repeat (with_reducible refine IMap.set ?_)
    refine IMap.alloc ?_ _
    exact IMap.made' (by simp)
  · exact (by repeat (first | ((with_reducible refine Ext.set1 ?_ ?_); (first | (focus (simp; done)) | (focus (simp; omega)) | (focus omega))) | (with_reducible refine Ext.alloc ?_ _) | (with_reducible exact Ext.refl _) | (refine Ext.trans ?_ (by with_reducible assumption))))

set_option maxHeartbeats 1000000 in
theorem must_join_some (S W L : Int) (b n : Nat) (f : FM) (q : Option Nat) (m : Nat) (j : FM) (w : World) (h : IMap w b n f) (k : IMapO w q m j) (hn : n ≤ 1000000) :
    Calls Try.prog 17 #[.agg #[.int .i64 S, .int .i64 W, .int .i64 L, .map (some b)], .agg #[.int .i64 S, .int .i64 W, .int .i64 L, .map q]] w fun e w' => ∃ b', (e = .returned (.agg #[.int .i64 S, .int .i64 W, .int .i64 L, .map (some b')]) ∧ w.heap.size ≤ b') ∧ IMap w' b' n (uJoin f j) ∧ Ext w w' := by
  have hmm := @run_makeMap Try.prog
  have hb0 := h.lt
  have hbe : ((S == S) && ((W == W) && (L == L))) = true := by simp
  go_enter Try.func17, Try.ntmps17
  go_wp2_with (at_range; refine wpList_range_im _ rfl _ rfl (w.heap.size + 1 + 1 + 1 + 1) (by simp) b n f rfl (h.ext (by repeat (first | ((with_reducible refine Ext.set1 ?_ ?_); (first | (focus (simp; done)) | (focus (simp; omega)) | (focus omega))) | (with_reducible refine Ext.alloc ?_ _) | (with_reducible exact Ext.refl _) | (refine Ext.trans ?_ (by with_reducible assumption))))) ?_; intro w4 cnt4 hrm4 hb4 hs4 hcn4)
  have hx3 : Ext w ((((w.alloc (mustO S W L (some b))).alloc (mustO S W L q)).alloc zMust).alloc (.map #[] 0)) := (by repeat (first | ((with_reducible refine Ext.set1 ?_ ?_); (first | (focus (simp; done)) | (focus (simp; omega)) | (focus omega))) | (with_reducible refine Ext.alloc ?_ _) | (with_reducible exact Ext.refl _) | (refine Ext.trans ?_ (by with_reducible assumption))))
  have k1 : Blk w4 (w.heap.size + 1) (mustO S W L q) := (by repeat (first | (with_reducible assumption) | ((with_reducible refine Blk.new ?_); (first | (focus rfl) | (focus (simp; done)) | (focus omega))) | (with_reducible apply Blk.put4) | (with_reducible apply Blk.put1) | ((with_reducible refine Blk.far4 ?_ ?_); (focus omega)) | ((with_reducible refine Blk.set1 ?_ ?_); (focus omega)) | (with_reducible refine Blk.alloc ?_) | (with_reducible refine Blk.drew ?_) | (refine Blk.ext ?_ (by with_reducible assumption))))
  have k0 : Blk w4 w.heap.size (mustO S W L (some b)) := (by repeat (first | (with_reducible assumption) | ((with_reducible refine Blk.new ?_); (first | (focus rfl) | (focus (simp; done)) | (focus omega))) | (with_reducible apply Blk.put4) | (with_reducible apply Blk.put1) | ((with_reducible refine Blk.far4 ?_ ?_); (focus omega)) | ((with_reducible refine Blk.set1 ?_ ?_); (focus omega)) | (with_reducible refine Blk.alloc ?_) | (with_reducible refine Blk.drew ?_) | (refine Blk.ext ?_ (by with_reducible assumption))))
  have k2 : Blk w4 (w.heap.size + 1 + 1) zMust := (by repeat (first | (with_reducible assumption) | ((with_reducible refine Blk.new ?_); (first | (focus rfl) | (focus (simp; done)) | (focus omega))) | (with_reducible apply Blk.put4) | (with_reducible apply Blk.put1) | ((with_reducible refine Blk.far4 ?_ ?_); (focus omega)) | ((with_reducible refine Blk.set1 ?_ ?_); (focus omega)) | (with_reducible refine Blk.alloc ?_) | (with_reducible refine Blk.drew ?_) | (refine Blk.ext ?_ (by with_reducible assumption))))
  have him4 : IMap w4 (w.heap.size + 1 + 1 + 1) 0 noF := (IMap.made' (by simp)).ext hb4
  have hext4 : Ext w w4 := hx3.trans hb4
  have hk4 : IMapO w4 q m j := k.ext hext4
  clear hx3 hb4
  go_frame
  go_loopw [6] (fun _ wr => ∃ (lf : Int → Bool) (cnt i : Nat) (fo : FM), (RMap wr b (w.heap.size + 1 + 1 + 1 + 1) n f lf cnt ∧ (IMap wr (w.heap.size + 1 + 1 + 1) i fo ∧ i + cnt ≤ n) ∧ IMapO wr q m j ∧
      Blk wr w.heap.size (mustO S W L (some b)) ∧ Blk wr (w.heap.size + 1) (mustO S W L q) ∧ Blk wr (w.heap.size + 1 + 1) zMust ∧ Ext w wr) ∧ Hid (Mid noF (uJoin f j) lf fo))
    (fun _ wr => wr.rangeLeft b (w.heap.size + 1 + 1 + 1 + 1))
  case atStart => exact ⟨_, _, 0, noF, ⟨hrm4, ⟨him4, by omega⟩, hk4, k0, k1, k2, hext4⟩, Mid.startN fun y e => uJoin_nl e⟩
  case round =>
    clear k0 k1 k2 him4 hext4 hrm4 hs4 hk4
    obtain ⟨lf, cnt, i, fo, ⟨hrm, ⟨him, hj⟩, hk, k0, k1, k2, hext⟩, HM⟩ := hrel
    have hl1 := k1.lt
    have hl2 := k2.lt
    have hrl := hrm.lt
    go_wp2_with (at_next; refine wpList_next_im _ rfl _ rfl b (w.heap.size + 1 + 1 + 1 + 1) n f lf cnt rfl hrm ?_ ?_)
    · intro hdone
      have hwb := him.lt
      obtain ⟨c0, c1, c2, c3⟩ := k0.c4
      obtain ⟨e0, e1, e2, e3⟩ := k2.c4
      obtain ⟨f0, f1, f2, f3⟩ := k2.f4
      go_wp2
      refine bodyPost_ret (v := .agg #[.int .i64 S, .int .i64 W, .int .i64 L, .map (some (w.heap.size + 1 + 1 + 1))]) ?_ rfl ⟨w.heap.size + 1 + 1 + 1, ⟨rfl, by omega⟩, ?_, ?_⟩
      · simp [results, Try.results17, go_sem, e0, e1, e2, e3]
      · have himf : IMap wr (w.heap.size + 1 + 1 + 1) n (uJoin f j) := (him.congr (HM.out.done hdone)).mono (by omega)
        clear him
        exact (by repeat (first | (with_reducible assumption) | (with_reducible refine IMap.set ?_) | (with_reducible refine IMap.alloc ?_ _) | (refine IMap.ext ?_ (by with_reducible assumption))))
      · exact (by repeat (first | ((with_reducible refine Ext.set1 ?_ ?_); (first | (focus (simp; done)) | (focus (simp; omega)) | (focus omega))) | (with_reducible refine Ext.alloc ?_ _) | (with_reducible exact Ext.refl _) | (refine Ext.trans ?_ (by with_reducible assumption))))
    · intro y c w5 cnt5 hy hc hly hfy hrm5 hlt5 hg5 hs5 hen
      have FY := Lib.hid hfy
      have LY := Lib.hid hly
      clear hly hfy
      have him5 := him.grown hg5 (by simp <;> omega)
      have k05 := k0.grown hg5 (by simp <;> omega)
      have k15 := k1.grown hg5 (by simp <;> omega)
      have k25 := k2.grown hg5 (by simp <;> omega)
      have hext5 : Ext w w5 := hext.grown hg5 (fun k e => by cases e; omega)
      have hk5 : IMapO w5 q m j := k.ext hext5
      have HLE := Lib.hid hrm.left_eq
      clear him k0 k1 k2 hext hrm hk
      have hwb := him5.lt
      obtain ⟨d0, d1, d2, d3⟩ := k15.c4
      cases hjy : j y with
      | none =>
        have HJ := Lib.hid hjy
        have HG : Hid (uJoin f j y = noF y) := uJoin_nr hjy
        clear hjy
        go_wp2_with (at_lookup; refine wpList_look_none _ rfl _ _ rfl q m j rfl hk5 y rfl hy HJ.out ?_)
        go_roundw
        case rel => exact ⟨_, cnt5, i, fo, ⟨hrm5, ⟨him5, by omega⟩, hk5, k05, k15, k25, hext5⟩, HM.out.keep HG.out⟩
        case measure => rw [hrm5.left_eq, HLE.out]; exact hlt5
      | some d =>
        have HJ := Lib.hid hjy
        have wmx : I64 (max c d) := I64.max hc (hk5.dom hjy).2
        have HG : Hid (uJoin f j y = some (max c d)) := uJoin_some FY.out hjy
        clear hjy
        obtain ⟨mx, hmx⟩ : ∃ mx, max c d = mx := ⟨_, rfl⟩
        rw [hmx] at wmx HG
        go_wp2_with (first
          | (at_lookup; refine wpList_look_some _ rfl _ _ rfl q m j rfl hk5 y rfl hy d HJ.out ?_)
          | (at_mapUpdate; refine wpList_store_im _ rfl _ _ _ rfl (w.heap.size + 1 + 1 + 1) i fo rfl him5 (by unfold maxLen; omega) y mx rfl (by simp [go_sem]) hy wmx ?_; intro w7 him7 hg7; have hz7 := hg7.size; have hrm7 := hrm5.grown hg7 (by simp <;> omega) (by simp <;> omega); have k07 := k05.grown hg7 (by simp <;> omega); have k17 := k15.grown hg7 (by simp <;> omega); have k27 := k25.grown hg7 (by simp <;> omega); have hext7 : Ext w w7 := hext5.grown hg7 (fun k e => by cases e; omega); go_frame))
        go_roundw
        case rel => exact ⟨_, cnt5, i + 1, _, ⟨hrm7, ⟨him7, by omega⟩, k.ext hext7, k07, k17, k27, hext7⟩, HM.out.put HG.out⟩
        case measure => rw [hrm7.left_eq, HLE.out]; exact hlt5
/-- must.Join. -/
theorem must_join (S W L : Int) (p : Option Nat) (n : Nat) (f : FM) (q : Option Nat) (m : Nat) (j : FM) (w : World) (h : MB w W n f p) (k : MB w W m j q) (hn : n ≤ 1000000) :
    Calls Try.prog 17 #[.agg #[.int .i64 S, .int .i64 W, .int .i64 L, .map p], .agg #[.int .i64 S, .int .i64 W, .int .i64 L, .map q]] w (GivesM S W L n (uJoin f j) w) := by
  obtain ⟨h, hf⟩ := h
  obtain ⟨k, hk⟩ := k
  rcases h with ⟨rfl, h⟩ | ⟨b, rfl, h⟩
  · exact (must_join_nil S W L q w).mono fun e w' ⟨b, ⟨h1, _⟩, h2, h3⟩ => ⟨some b, h1, ⟨.inr ⟨b, rfl, (h2.mono (Nat.zero_le _)).congr fun y => (uJoin_nl (h y)).symm⟩, fit_join hf hk⟩, h3⟩
  · exact (must_join_some S W L b n f q m j w h k hn).mono fun e w' ⟨b', ⟨h1, _⟩, h2, h3⟩ => ⟨some b', h1, ⟨.inr ⟨b', rfl, h2⟩, fit_join hf hk⟩, h3⟩
end Go.Proofs.Ytaekkfgggmighaa
