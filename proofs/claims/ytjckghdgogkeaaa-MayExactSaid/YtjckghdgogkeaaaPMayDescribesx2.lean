-- PRINTED BY print.sh 35421559b90ae4d0a3588c463048766b98c2df88dd9212a6774a882060cdf62d: not written by this session
import Derived.Test.YtjckghdgogkeaaaPMayDescribesx0
namespace Go.Proofs.Ytjckghdgogkeaaa.PMayDescribes
open Go.RowKit Go.Proofs.YtjckghdgogkeaaaW.PrintWords Go.Proofs.YtjckghdgogkeaaaW.PrintLast Go.Proofs.YtjckghdgogkeaaaW.PrintMore
attribute [local go_sem] max2_int min2_int max_two min_two max_three min_three max_four min_four   -- for this text's walks alone
set_option linter.unusedVariables false
set_option linter.unusedSimpArgs false

/-! ### ontimeref31_State_Put: function 42 -/
mutual
def ontimeref31_State_Put.l0 : Nat → Int → Int → Bool → Int → Int → Int → Int → Bool → List (S81) → Int → Int → Int → Bool → List (S81) → Option (Int × Int × Int × Bool × (List (S81)))
  | 0, _, _, _, _, _, _, _, _, _, _, _, _, _, _ => none
  | k + 1, x1, x2, x8, x9, x114000, x114001, x114002, x114003, x114004, x116000, x116001, x116002, x116003, x116004 => if x9 < (x114004.length : Int) then (if 0 ≤ x9 then (if x8 = true then (ontimeref31_State_Put.j1 k x1 x2 x8 x9 false x114000 x114001 x114002 x114003 x114004 x116000 x116001 x116002 x116003 x116004 ((rd_T81 x114004 x9).f0) ((rd_T81 x114004 x9).f1)) else (ontimeref31_State_Put.j1 k x1 x2 x8 x9 (decide (((rd_T81 x114004 x9).f0) ≥ x1)) x114000 x114001 x114002 x114003 x114004 x116000 x116001 x116002 x116003 x116004 ((rd_T81 x114004 x9).f0) ((rd_T81 x114004 x9).f1))) else (none)) else (if x8 = true then (some (x116000, x116001, x116002, x116003, x116004)) else (if x116004.length < 8796093022208 then (some (x116000, x116001, x116002, x116003, (x116004 ++ [(⟨x1, x2⟩ : S81)]))) else (none)))
def ontimeref31_State_Put.j1 : Nat → Int → Int → Bool → Int → Bool → Int → Int → Int → Bool → List (S81) → Int → Int → Int → Bool → List (S81) → Int → Int → Option (Int × Int × Int × Bool × (List (S81)))
  | 0, _, _, _, _, _, _, _, _, _, _, _, _, _, _, _, _, _ => none
  | k + 1, x1, x2, x8, x9, x33, x114000, x114001, x114002, x114003, x114004, x116000, x116001, x116002, x116003, x116004, x121000, x121001 => if x33 = true then (if x116004.length < 8796093022208 then ((some (x116004 ++ [(⟨x1, x2⟩ : S81)] : List (S81))).bind fun y121 => (if x121000 = x1 then (ontimeref31_State_Put.l0 k x1 x2 true (wrap64 (x9 + 1)) x114000 x114001 x114002 x114003 x114004 x116000 x116001 x116002 x116003 y121) else (if y121.length < 8796093022208 then (ontimeref31_State_Put.l0 k x1 x2 true (wrap64 (x9 + 1)) x114000 x114001 x114002 x114003 x114004 x116000 x116001 x116002 x116003 (y121 ++ [(⟨x121000, x121001⟩ : S81)])) else (none)))) else (none)) else (if x121000 = x1 then (ontimeref31_State_Put.l0 k x1 x2 x8 (wrap64 (x9 + 1)) x114000 x114001 x114002 x114003 x114004 x116000 x116001 x116002 x116003 x116004) else (if x116004.length < 8796093022208 then (ontimeref31_State_Put.l0 k x1 x2 x8 (wrap64 (x9 + 1)) x114000 x114001 x114002 x114003 x114004 x116000 x116001 x116002 x116003 (x116004 ++ [(⟨x121000, x121001⟩ : S81)])) else (none)))
end
def ontimeref31_State_Put.f (k : Nat) (a0_0 : Int) (a0_1 : Int) (a0_2 : Int) (a0_3 : Bool) (l0_4 : List (S81)) (a1 : Int) (a2 : Int) : Option (Int × Int × Int × Bool × (List (S81))) := ontimeref31_State_Put.l0 k a1 a2 false 0 a0_0 a0_1 a0_2 a0_3 l0_4 a0_0 a0_1 a0_2 false ([] : List (S81))
theorem ontimeref31_State_Put.mono_l : ∀ k, (∀ y0 y1 y2 y3 y4 y5 y6 y7 y8 y9 y10 y11 y12 y13, LeO (ontimeref31_State_Put.l0 k y0 y1 y2 y3 y4 y5 y6 y7 y8 y9 y10 y11 y12 y13) (ontimeref31_State_Put.l0 (k + 1) y0 y1 y2 y3 y4 y5 y6 y7 y8 y9 y10 y11 y12 y13)) ∧ (∀ y0 y1 y2 y3 y4 y5 y6 y7 y8 y9 y10 y11 y12 y13 y14 y15 y16, LeO (ontimeref31_State_Put.j1 k y0 y1 y2 y3 y4 y5 y6 y7 y8 y9 y10 y11 y12 y13 y14 y15 y16) (ontimeref31_State_Put.j1 (k + 1) y0 y1 y2 y3 y4 y5 y6 y7 y8 y9 y10 y11 y12 y13 y14 y15 y16))
  | 0 => ⟨fun _ _ _ _ _ _ _ _ _ _ _ _ _ _ r h => by simp [ontimeref31_State_Put.l0] at h, fun _ _ _ _ _ _ _ _ _ _ _ _ _ _ _ _ _ r h => by simp [ontimeref31_State_Put.j1] at h⟩
  | k + 1 => by
    obtain ⟨ih0, ih1⟩ := ontimeref31_State_Put.mono_l k
    refine ⟨?_, ?_⟩
    · intro y0 y1 y2 y3 y4 y5 y6 y7 y8 y9 y10 y11 y12 y13
      unfold ontimeref31_State_Put.l0
      repeat' first
      | (with_reducible exact ih0 _ _ _ _ _ _ _ _ _ _ _ _ _ _)
      | (with_reducible exact ih1 _ _ _ _ _ _ _ _ _ _ _ _ _ _ _ _ _)
      | (with_reducible exact LeO.refl _)
      | (with_reducible exact LeO.none _)
      | (with_reducible refine LeO.ite ?_ ?_)
      | (with_reducible refine LeO.bind ?_ (fun _ => ?_))
      | exact ih0 _ _ _ _ _ _ _ _ _ _ _ _ _ _
      | exact ih1 _ _ _ _ _ _ _ _ _ _ _ _ _ _ _ _ _
      | exact LeO.none _
      | refine LeO.ite ?_ ?_
      | refine LeO.bind ?_ (fun _ => ?_)
    · intro y0 y1 y2 y3 y4 y5 y6 y7 y8 y9 y10 y11 y12 y13 y14 y15 y16
      unfold ontimeref31_State_Put.j1
      repeat' first
      | (with_reducible exact ih0 _ _ _ _ _ _ _ _ _ _ _ _ _ _)
      | (with_reducible exact ih1 _ _ _ _ _ _ _ _ _ _ _ _ _ _ _ _ _)
      | (with_reducible exact LeO.refl _)
      | (with_reducible exact LeO.none _)
      | (with_reducible refine LeO.ite ?_ ?_)
      | (with_reducible refine LeO.bind ?_ (fun _ => ?_))
      | exact ih0 _ _ _ _ _ _ _ _ _ _ _ _ _ _
      | exact ih1 _ _ _ _ _ _ _ _ _ _ _ _ _ _ _ _ _
      | exact LeO.none _
      | refine LeO.ite ?_ ?_
      | refine LeO.bind ?_ (fun _ => ?_)
theorem ontimeref31_State_Put.mono : ∀ a0 a1 a2 a3 a4 a5 a6 k, LeO (ontimeref31_State_Put.f k a0 a1 a2 a3 a4 a5 a6) (ontimeref31_State_Put.f (k + 1) a0 a1 a2 a3 a4 a5 a6) := by
  intro a0 a1 a2 a3 a4 a5 a6 k
  obtain ⟨ih0, ih1⟩ := ontimeref31_State_Put.mono_l k
  unfold ontimeref31_State_Put.f
  repeat' first
      | (with_reducible exact ih0 _ _ _ _ _ _ _ _ _ _ _ _ _ _)
      | (with_reducible exact ih1 _ _ _ _ _ _ _ _ _ _ _ _ _ _ _ _ _)
      | (with_reducible exact LeO.refl _)
      | (with_reducible exact LeO.none _)
      | (with_reducible refine LeO.ite ?_ ?_)
      | (with_reducible refine LeO.bind ?_ (fun _ => ?_))
      | exact ih0 _ _ _ _ _ _ _ _ _ _ _ _ _ _
      | exact ih1 _ _ _ _ _ _ _ _ _ _ _ _ _ _ _ _ _
      | exact LeO.none _
      | refine LeO.ite ?_ ?_
      | refine LeO.bind ?_ (fun _ => ?_)
set_option maxHeartbeats 8000000 in
set_option maxRecDepth 100000 in
theorem ontimeref31_State_Put.calls (k : Nat) (a0_0 : Int) (a0_1 : Int) (a0_2 : Int) (a0_3 : Bool) (A0_4 : Option Addr) (c0_4 : Nat) (l0_4 : List (S81)) (a1 : Int) (a2 : Int) (r1 : Int) (r2 : Int) (r3 : Int) (r4 : Bool) (r5 : List (S81)) (w : World) (hr0_4 : Kd.C k81 w A0_4 l0_4.length l0_4) (hc0_4 : l0_4.length ≤ c0_4) (h : ontimeref31_State_Put.f k a0_0 a0_1 a0_2 a0_3 l0_4 a1 a2 = some (r1, r2, r3, r4, r5)) :
    Calls Try.prog 42 #[.agg #[.int .i64 a0_0, .int .i64 a0_1, .int .i64 a0_2, .bool a0_3, .slice A0_4 l0_4.length c0_4], .int .i64 a1, .int .i64 a2] w fun e w' => ∃ v4_ : Value, e = .returned (.agg #[.int .i64 r1, .int .i64 r2, .int .i64 r3, .bool r4, v4_]) ∧ Kd.R k81 81 w' w.heap.size (fun _ => True) v4_ r5 ∧ Below w.heap.size w w' := by
  have hu34 := Try.underlying34
  have hu23 := Try.underlying23
  have hu81 := Try.underlying81
  have HR0_4 := Aside0.mk hr0_4
  have HC0_4 := Aside0.mk hc0_4
  clear hr0_4 hc0_4
  have HB := Aside0.mk (Below.refl w.heap.size w)
  have H : (ontimeref31_State_Put.l0 k a1 a2 false 0 a0_0 a0_1 a0_2 a0_3 l0_4 a0_0 a0_1 a0_2 false ([] : List (S81))) = some (r1, r2, r3, r4, r5) := h
  clear h
  have H' := Aside0.mk H
  clear H
  go_enter Try.func42, Try.ntmps42
  go_wp2_with (first | ((with_reducible refine gate_dst (N := 3) rfl ?_); refine box_event ?hg (N := 3) ?hd (cs := #[.int .i64 a0_0, .int .i64 a0_1, .int .i64 a0_2, .bool a0_3, .slice A0_4 l0_4.length c0_4]) (t := 34) ?hr ?_; (case hd => rfl); (case hg => rfl); (case hr => first | (go_simp; done) | (go_simp; rfl)); intro gb113 hg w4 hbox hb; have n0_ := Aside0.mk (below_step (by repeat (first | (with_reducible first | exact HB.out | apply below_alloc | apply pw_below_drewN | apply below_drew1) | exact HB.out)) hb); have n1_ := Aside0.mk (hbox); have n2_ := Aside0.mk ((by rw [hg]; exact (below_size (by repeat (first | (with_reducible first | exact HB.out | apply below_alloc | apply pw_below_drewN | apply below_drew1) | exact HB.out))) : w.heap.size ≤ gb113)); have n3_ := Aside0.mk ((by rw [hg]; exact (below_size (by repeat (first | (with_reducible first | exact HB.out | apply below_alloc | apply pw_below_drewN | apply below_drew1) | exact HB.out))) : w.heap.size ≤ gb113)); clear HB; have HB := n0_; have BK113 := n1_; have GW113 := n2_; have GE113 := n3_; clear n0_ n1_ n2_ n3_; clear hb hbox hg) | ((with_reducible refine gate_dst (N := 6) rfl ?_); refine box_event ?hg (N := 6) ?hd (cs := #[.int .i64 0, .int .i64 0, .int .i64 0, .bool false, .slice none 0 0]) (t := 34) ?hr ?_; (case hd => rfl); (case hg => rfl); (case hr => first | (go_simp; done) | (go_simp; rfl)); intro gb114 hg w5 hbox hb; have n0_ := Aside0.mk (blk_below (g := gb113) (o := .cells #[.int .i64 a0_0, .int .i64 a0_1, .int .i64 a0_2, .bool a0_3, .slice A0_4 l0_4.length c0_4] 34 (0, 0)) (by (with_reducible repeat (first | refine blk_drewN ?_ _ | refine blk_drew ?_ | refine blk_alloc ?_ _)); exact BK113.out) hb); have n1_ := Aside0.mk (below_step (by repeat (first | (with_reducible first | exact HB.out | apply below_alloc | apply pw_below_drewN | apply below_drew1 | refine below_set ?_ GE113.out) | exact HB.out)) hb); have n2_ := Aside0.mk (hbox); have n3_ := Aside0.mk ((by rw [hg]; exact (below_size (by repeat (first | (with_reducible first | exact HB.out | apply below_alloc | apply pw_below_drewN | apply below_drew1 | refine below_set ?_ GE113.out) | exact HB.out))) : w.heap.size ≤ gb114)); have n4_ := Aside0.mk ((by rw [hg]; exact (below_size (by repeat (first | (with_reducible first | exact HB.out | apply below_alloc | apply pw_below_drewN | apply below_drew1 | refine below_set ?_ GE113.out) | exact HB.out))) : w.heap.size ≤ gb114)); have n5_ := Aside0.mk ((by rw [hg]; exact Nat.ne_of_lt (blk_lt (g := gb113) (o := .cells #[.int .i64 a0_0, .int .i64 a0_1, .int .i64 a0_2, .bool a0_3, .slice A0_4 l0_4.length c0_4] 34 (0, 0)) (by (with_reducible repeat (first | refine blk_drewN ?_ _ | refine blk_drew ?_ | refine blk_alloc ?_ _)); exact BK113.out)) : gb113 ≠ gb114)); have n6_ := Aside0.mk ((by rw [hg]; exact Nat.ne_of_gt (blk_lt (g := gb113) (o := .cells #[.int .i64 a0_0, .int .i64 a0_1, .int .i64 a0_2, .bool a0_3, .slice A0_4 l0_4.length c0_4] 34 (0, 0)) (by (with_reducible repeat (first | refine blk_drewN ?_ _ | refine blk_drew ?_ | refine blk_alloc ?_ _)); exact BK113.out)) : gb114 ≠ gb113)); clear BK113; clear HB; have BK113 := n0_; have HB := n1_; have BK114 := n2_; have GW114 := n3_; have GE114 := n4_; have NB113_114 := n5_; have NB114_113 := n6_; clear n0_ n1_ n2_ n3_ n4_ n5_ n6_; clear hb hbox hg; have hnb6 := NB113_114.out; have hnc6 := NB114_113.out; have hcz7_0 : w5.cell? ⟨gb113, 0, none⟩ = some (.int .i64 a0_0) := (blk_cell BK113.out 0).trans rfl; have hcz7_1 : w5.cell? ⟨gb113, 1, none⟩ = some (.int .i64 a0_1) := (blk_cell BK113.out 1).trans rfl; have hcz7_2 : w5.cell? ⟨gb113, 2, none⟩ = some (.int .i64 a0_2) := (blk_cell BK113.out 2).trans rfl; have hcz7_3 : w5.cell? ⟨gb113, 3, none⟩ = some (.bool a0_3) := (blk_cell BK113.out 3).trans rfl; have hcz7_4 : w5.cell? ⟨gb113, 4, none⟩ = some (.slice A0_4 l0_4.length c0_4) := (blk_cell BK113.out 4).trans rfl; have hfz7_0 := blk_frozen BK113.out 0; have hfz7_1 := blk_frozen BK113.out 1; have hfz7_2 := blk_frozen BK113.out 2; have hfz7_3 := blk_frozen BK113.out 3; have hfz7_4 := blk_frozen BK113.out 4) | ((with_reducible refine gate_dst (N := 7) rfl ?_); refine box_event ?hg (N := 7) ?hd (cs := #[.int .i64 0, .int .i64 0, .int .i64 0, .bool false, .slice none 0 0]) (t := 34) ?hr ?_; (case hd => rfl); (case hg => rfl); (case hr => first | (go_simp; done) | (go_simp; rfl)); intro gb115 hg w8 hbox hb; have n0_ := Aside0.mk (blk_below (g := gb113) (o := .cells #[.int .i64 a0_0, .int .i64 a0_1, .int .i64 a0_2, .bool a0_3, .slice A0_4 l0_4.length c0_4] 34 (0, 0)) (by (with_reducible repeat (first | refine blk_drewN ?_ _ | refine blk_drew ?_ | refine blk_alloc ?_ _)); exact BK113.out) hb); have n1_ := Aside0.mk (blk_below (g := gb114) (o := .cells #[.int .i64 0, .int .i64 0, .int .i64 0, .bool false, .slice none 0 0] 34 (0, 0)) (by (with_reducible repeat (first | refine blk_drewN ?_ _ | refine blk_drew ?_ | refine blk_alloc ?_ _)); exact BK114.out) hb); have n2_ := Aside0.mk (below_step (by repeat (first | (with_reducible first | exact HB.out | apply below_alloc | apply pw_below_drewN | apply below_drew1 | refine below_set ?_ GE113.out | refine below_set ?_ GE114.out) | exact HB.out)) hb); have n3_ := Aside0.mk (hbox); have n4_ := Aside0.mk ((by rw [hg]; exact (below_size (by repeat (first | (with_reducible first | exact HB.out | apply below_alloc | apply pw_below_drewN | apply below_drew1 | refine below_set ?_ GE113.out | refine below_set ?_ GE114.out) | exact HB.out))) : w.heap.size ≤ gb115)); have n5_ := Aside0.mk ((by rw [hg]; exact (below_size (by repeat (first | (with_reducible first | exact HB.out | apply below_alloc | apply pw_below_drewN | apply below_drew1 | refine below_set ?_ GE113.out | refine below_set ?_ GE114.out) | exact HB.out))) : w.heap.size ≤ gb115)); have n6_ := Aside0.mk ((by rw [hg]; exact Nat.ne_of_lt (blk_lt (g := gb113) (o := .cells #[.int .i64 a0_0, .int .i64 a0_1, .int .i64 a0_2, .bool a0_3, .slice A0_4 l0_4.length c0_4] 34 (0, 0)) (by (with_reducible repeat (first | refine blk_drewN ?_ _ | refine blk_drew ?_ | refine blk_alloc ?_ _)); exact BK113.out)) : gb113 ≠ gb115)); have n7_ := Aside0.mk ((by rw [hg]; exact Nat.ne_of_gt (blk_lt (g := gb113) (o := .cells #[.int .i64 a0_0, .int .i64 a0_1, .int .i64 a0_2, .bool a0_3, .slice A0_4 l0_4.length c0_4] 34 (0, 0)) (by (with_reducible repeat (first | refine blk_drewN ?_ _ | refine blk_drew ?_ | refine blk_alloc ?_ _)); exact BK113.out)) : gb115 ≠ gb113)); have n8_ := Aside0.mk ((by rw [hg]; exact Nat.ne_of_lt (blk_lt (g := gb114) (o := .cells #[.int .i64 0, .int .i64 0, .int .i64 0, .bool false, .slice none 0 0] 34 (0, 0)) (by (with_reducible repeat (first | refine blk_drewN ?_ _ | refine blk_drew ?_ | refine blk_alloc ?_ _)); exact BK114.out)) : gb114 ≠ gb115)); have n9_ := Aside0.mk ((by rw [hg]; exact Nat.ne_of_gt (blk_lt (g := gb114) (o := .cells #[.int .i64 0, .int .i64 0, .int .i64 0, .bool false, .slice none 0 0] 34 (0, 0)) (by (with_reducible repeat (first | refine blk_drewN ?_ _ | refine blk_drew ?_ | refine blk_alloc ?_ _)); exact BK114.out)) : gb115 ≠ gb114)); clear BK113; clear BK114; clear HB; have BK113 := n0_; have BK114 := n1_; have HB := n2_; have BK115 := n3_; have GW115 := n4_; have GE115 := n5_; have NB113_115 := n6_; have NB115_113 := n7_; have NB114_115 := n8_; have NB115_114 := n9_; clear n0_ n1_ n2_ n3_ n4_ n5_ n6_ n7_ n8_ n9_; clear hb hbox hg; have hnb9 := NB115_113.out; have hnc9 := NB113_115.out; have hnb10 := NB115_114.out; have hnc10 := NB114_115.out; have hcz11_0 : w8.cell? ⟨gb115, 0, none⟩ = some (.int .i64 0) := (blk_cell BK115.out 0).trans rfl; have hcz11_1 : w8.cell? ⟨gb115, 1, none⟩ = some (.int .i64 0) := (blk_cell BK115.out 1).trans rfl; have hcz11_2 : w8.cell? ⟨gb115, 2, none⟩ = some (.int .i64 0) := (blk_cell BK115.out 2).trans rfl; have hcz11_3 : w8.cell? ⟨gb115, 3, none⟩ = some (.bool false) := (blk_cell BK115.out 3).trans rfl; have hcz11_4 : w8.cell? ⟨gb115, 4, none⟩ = some (.slice none 0 0) := (blk_cell BK115.out 4).trans rfl; have hfz11_0 := blk_frozen BK115.out 0; have hfz11_1 := blk_frozen BK115.out 1; have hfz11_2 := blk_frozen BK115.out 2; have hfz11_3 := blk_frozen BK115.out 3; have hfz11_4 := blk_frozen BK115.out 4))
  go_loopg [8, 9] k (fun kq v8 v9 w' => ∃ (x8_1 : Bool) (x9_1 : Int) (x116004_1 : List (S81)) (u116004 : Value), v8 = .bool x8_1 ∧ v9 = .int .i64 x9_1 ∧ Aside0 (ontimeref31_State_Put.l0 kq a1 a2 x8_1 x9_1 a0_0 a0_1 a0_2 a0_3 l0_4 a0_0 a0_1 a0_2 false x116004_1 = some (r1, r2, r3, r4, r5)) ∧ Aside0 (kq ≤ k) ∧ Aside0 (Kd.R k81 81 w' w.heap.size (fun _ => True) u116004 x116004_1) ∧ Aside0 (w'.heap[gb113]? = some (.cells #[.int .i64 a0_0, .int .i64 a0_1, .int .i64 a0_2, .bool a0_3, (.slice A0_4 l0_4.length c0_4)] 34 (0, 0))) ∧ Aside0 (w'.heap[gb114]? = some (.cells #[.int .i64 0, .int .i64 0, .int .i64 0, .bool false, (.slice none 0 0)] 34 (0, 0))) ∧ Aside0 (w'.heap[gb115]? = some (.cells #[.int .i64 a0_0, .int .i64 a0_1, .int .i64 a0_2, .bool false, u116004] 34 (0, 0))) ∧ Aside0 (Below w.heap.size w w'))
  case atStart => exact ⟨(false), (0), (([] : List (S81))), (.slice none 0 0), (by first | rfl | (simp; done) | (simp [*]; done)), (by first | rfl | (simp; done) | (simp [*]; done)), H', ⟨Nat.le_refl _⟩, ⟨by first | exact Kd.R_nil _ _ _ _ _ | exact Kd.N_nil _ _ _ _ _ | exact Kd.V_nil _ _ _ _ _ | exact Kd.Q_nil _ _ _ _ _ | exact Kd.S_nil _ _ _ _ _⟩, ⟨by (with_reducible repeat (first | refine blk_drewN ?_ _ | refine blk_drew ?_ | refine blk_alloc ?_ _)); refine blk_far ?_ NB113_115.out _; (with_reducible repeat (first | refine blk_drewN ?_ _ | refine blk_drew ?_ | refine blk_alloc ?_ _)); refine blk_far ?_ NB113_115.out _; (with_reducible repeat (first | refine blk_drewN ?_ _ | refine blk_drew ?_ | refine blk_alloc ?_ _)); refine blk_far ?_ NB113_115.out _; (with_reducible repeat (first | refine blk_drewN ?_ _ | refine blk_drew ?_ | refine blk_alloc ?_ _)); refine blk_far ?_ NB113_115.out _; (with_reducible repeat (first | refine blk_drewN ?_ _ | refine blk_drew ?_ | refine blk_alloc ?_ _)); refine blk_far ?_ NB113_115.out _; (with_reducible repeat (first | refine blk_drewN ?_ _ | refine blk_drew ?_ | refine blk_alloc ?_ _)); exact BK113.out⟩, ⟨by (with_reducible repeat (first | refine blk_drewN ?_ _ | refine blk_drew ?_ | refine blk_alloc ?_ _)); refine blk_far ?_ NB114_115.out _; (with_reducible repeat (first | refine blk_drewN ?_ _ | refine blk_drew ?_ | refine blk_alloc ?_ _)); refine blk_far ?_ NB114_115.out _; (with_reducible repeat (first | refine blk_drewN ?_ _ | refine blk_drew ?_ | refine blk_alloc ?_ _)); refine blk_far ?_ NB114_115.out _; (with_reducible repeat (first | refine blk_drewN ?_ _ | refine blk_drew ?_ | refine blk_alloc ?_ _)); refine blk_far ?_ NB114_115.out _; (with_reducible repeat (first | refine blk_drewN ?_ _ | refine blk_drew ?_ | refine blk_alloc ?_ _)); refine blk_far ?_ NB114_115.out _; (with_reducible repeat (first | refine blk_drewN ?_ _ | refine blk_drew ?_ | refine blk_alloc ?_ _)); exact BK114.out⟩, ⟨by (with_reducible repeat (first | refine blk_drewN ?_ _ | refine blk_drew ?_ | refine blk_alloc ?_ _)); refine blk_put (cs := #[.int .i64 a0_0, .int .i64 a0_1, .int .i64 a0_2, .bool false, .slice none 0 0]) ?_ 4 _ rfl; (with_reducible repeat (first | refine blk_drewN ?_ _ | refine blk_drew ?_ | refine blk_alloc ?_ _)); refine blk_put (cs := #[.int .i64 a0_0, .int .i64 a0_1, .int .i64 a0_2, .bool false, .slice none 0 0]) ?_ 3 _ rfl; (with_reducible repeat (first | refine blk_drewN ?_ _ | refine blk_drew ?_ | refine blk_alloc ?_ _)); refine blk_put (cs := #[.int .i64 a0_0, .int .i64 a0_1, .int .i64 0, .bool false, .slice none 0 0]) ?_ 2 _ rfl; (with_reducible repeat (first | refine blk_drewN ?_ _ | refine blk_drew ?_ | refine blk_alloc ?_ _)); refine blk_put (cs := #[.int .i64 a0_0, .int .i64 0, .int .i64 0, .bool false, .slice none 0 0]) ?_ 1 _ rfl; (with_reducible repeat (first | refine blk_drewN ?_ _ | refine blk_drew ?_ | refine blk_alloc ?_ _)); refine blk_put (cs := #[.int .i64 0, .int .i64 0, .int .i64 0, .bool false, .slice none 0 0]) ?_ 0 _ rfl; (with_reducible repeat (first | refine blk_drewN ?_ _ | refine blk_drew ?_ | refine blk_alloc ?_ _)); exact BK115.out⟩, ⟨by repeat (first | (with_reducible first | exact HB.out | apply below_alloc | apply pw_below_drewN | apply below_drew1 | refine below_set ?_ GE113.out | refine below_set ?_ GE114.out | refine below_set ?_ GE115.out) | exact HB.out)⟩⟩
  case round =>
    clear H'
    try clear c1
    try clear p2
    try clear c4
    try clear c6
    try clear c9
    try clear c10
    try clear hcz11_0
    try clear hcz11_1
    try clear hcz11_2
    try clear hcz11_3
    try clear hcz11_4
    try clear hcz7_0
    try clear hcz7_1
    try clear hcz7_2
    try clear hcz7_3
    try clear hcz7_4
    try clear hfz11_0
    try clear hfz11_1
    try clear hfz11_2
    try clear hfz11_3
    try clear hfz11_4
    try clear hfz7_0
    try clear hfz7_1
    try clear hfz7_2
    try clear hfz7_3
    try clear hfz7_4
    obtain ⟨x8_1, x9_1, x116004_1, u116004, rfl, rfl, HA, HK1, HO_116004, BK113, BK114, BK115, HB⟩ := hrel
    cases gk with
    | zero => exact absurd HA.out (by simp [ontimeref31_State_Put.l0])
    | succ k1 =>
      have H := HA.out
      clear HA
      simp only [ontimeref31_State_Put.l0] at H
      by_cases c12 : x9_1 < (l0_4.length : Int)
      · rw [if_pos c12] at H
        have c12b0 : decide (x9_1 < (l0_4.length : Int)) = true := decide_eq_true c12
        clear c12
        by_cases c13 : 0 ≤ x9_1
        · rw [if_pos c13] at H
          have c13b0 : decide (0 ≤ x9_1) = true := decide_eq_true c13
          clear c13
          have HC14 := Aside0.mk H
          clear H
          have hnb15 := NB113_114.out
          have hnc15 := NB114_113.out
          have hnb16 := NB113_115.out
          have hnc16 := NB115_113.out
          have hcz17_0 : wr.cell? ⟨gb113, 0, none⟩ = some (.int .i64 a0_0) := (blk_cell BK113.out 0).trans rfl
          have hcz17_1 : wr.cell? ⟨gb113, 1, none⟩ = some (.int .i64 a0_1) := (blk_cell BK113.out 1).trans rfl
          have hcz17_2 : wr.cell? ⟨gb113, 2, none⟩ = some (.int .i64 a0_2) := (blk_cell BK113.out 2).trans rfl
          have hcz17_3 : wr.cell? ⟨gb113, 3, none⟩ = some (.bool a0_3) := (blk_cell BK113.out 3).trans rfl
          have hcz17_4 : wr.cell? ⟨gb113, 4, none⟩ = some (.slice A0_4 l0_4.length c0_4) := (blk_cell BK113.out 4).trans rfl
          have hfz17_0 := blk_frozen BK113.out 0
          have hfz17_1 := blk_frozen BK113.out 1
          have hfz17_2 := blk_frozen BK113.out 2
          have hfz17_3 := blk_frozen BK113.out 3
          have hfz17_4 := blk_frozen BK113.out 4
          have p119 : 0 ≤ (x9_1 : Int) := of_decide_eq_true (by first | (with_reducible assumption) | assumption)
          have q119 : x9_1 < (l0_4.length : Int) := of_decide_eq_true (by first | (with_reducible assumption) | assumption)
          obtain ⟨ad119, e119, hx119_0, hx119_1⟩ := at_T81 HR0_4.out x9_1 p119 q119
          cases e119
          replace hx119_0 := (HB.out.cell (World.block_lt_of_cell? w _ hx119_0)).trans hx119_0
          replace hx119_1 := (HB.out.cell (World.block_lt_of_cell? w _ hx119_1)).trans hx119_1
          replace p119 := eq_true p119
          replace q119 := eq_true q119
          go_upto_region 7 with (first | ((with_reducible refine gate_dst (N := 10) rfl ?_); refine box_event ?hg (N := 10) ?hd (cs := #[.int .i64 0, .int .i64 0]) (t := 81) ?hr ?_; (case hd => rfl); (case hg => rfl); (case hr => first | (go_simp; done) | (go_simp; rfl)); intro gb120 hg w18 hbox hb; have n0_ := Aside0.mk (Kd.R_below (Kd.R_elderB (by (with_reducible repeat (first | apply Kd.R_alloc | apply Kd.R_drewN | apply Kd.R_drew)); exact HO_116004.out) gb120 (Nat.le_of_eq hg.symm)) hb); have n1_ := Aside0.mk (blk_below (g := gb113) (o := .cells #[.int .i64 a0_0, .int .i64 a0_1, .int .i64 a0_2, .bool a0_3, .slice (some ad119) l0_4.length c0_4] 34 (0, 0)) (by (with_reducible repeat (first | refine blk_drewN ?_ _ | refine blk_drew ?_ | refine blk_alloc ?_ _)); exact BK113.out) hb); have n2_ := Aside0.mk (blk_below (g := gb114) (o := .cells #[.int .i64 0, .int .i64 0, .int .i64 0, .bool false, .slice none 0 0] 34 (0, 0)) (by (with_reducible repeat (first | refine blk_drewN ?_ _ | refine blk_drew ?_ | refine blk_alloc ?_ _)); exact BK114.out) hb); have n3_ := Aside0.mk (blk_below (g := gb115) (o := .cells #[.int .i64 a0_0, .int .i64 a0_1, .int .i64 a0_2, .bool false, u116004] 34 (0, 0)) (by (with_reducible repeat (first | refine blk_drewN ?_ _ | refine blk_drew ?_ | refine blk_alloc ?_ _)); exact BK115.out) hb); have n4_ := Aside0.mk (below_step (by repeat (first | (with_reducible first | exact HB.out | apply below_alloc | apply pw_below_drewN | apply below_drew1 | refine below_set ?_ GE113.out | refine below_set ?_ GE114.out | refine below_set ?_ GE115.out) | exact HB.out)) hb); have n5_ := Aside0.mk (hbox); have n6_ := Aside0.mk ((by rw [hg]; exact (below_size (by repeat (first | (with_reducible first | exact HB.out | apply below_alloc | apply pw_below_drewN | apply below_drew1 | refine below_set ?_ GE113.out | refine below_set ?_ GE114.out | refine below_set ?_ GE115.out) | exact HB.out))) : w.heap.size ≤ gb120)); have n7_ := Aside0.mk ((by rw [hg]; exact (below_size (by repeat (first | (with_reducible first | exact HB.out | apply below_alloc | apply pw_below_drewN | apply below_drew1 | refine below_set ?_ GE113.out | refine below_set ?_ GE114.out | refine below_set ?_ GE115.out) | exact HB.out))) : w.heap.size ≤ gb120)); have n8_ := Aside0.mk ((by rw [hg]; exact Nat.ne_of_lt (blk_lt (g := gb113) (o := .cells #[.int .i64 a0_0, .int .i64 a0_1, .int .i64 a0_2, .bool a0_3, .slice (some ad119) l0_4.length c0_4] 34 (0, 0)) (by (with_reducible repeat (first | refine blk_drewN ?_ _ | refine blk_drew ?_ | refine blk_alloc ?_ _)); exact BK113.out)) : gb113 ≠ gb120)); have n9_ := Aside0.mk ((by rw [hg]; exact Nat.ne_of_gt (blk_lt (g := gb113) (o := .cells #[.int .i64 a0_0, .int .i64 a0_1, .int .i64 a0_2, .bool a0_3, .slice (some ad119) l0_4.length c0_4] 34 (0, 0)) (by (with_reducible repeat (first | refine blk_drewN ?_ _ | refine blk_drew ?_ | refine blk_alloc ?_ _)); exact BK113.out)) : gb120 ≠ gb113)); have n10_ := Aside0.mk ((by rw [hg]; exact Nat.ne_of_lt (blk_lt (g := gb114) (o := .cells #[.int .i64 0, .int .i64 0, .int .i64 0, .bool false, .slice none 0 0] 34 (0, 0)) (by (with_reducible repeat (first | refine blk_drewN ?_ _ | refine blk_drew ?_ | refine blk_alloc ?_ _)); exact BK114.out)) : gb114 ≠ gb120)); have n11_ := Aside0.mk ((by rw [hg]; exact Nat.ne_of_gt (blk_lt (g := gb114) (o := .cells #[.int .i64 0, .int .i64 0, .int .i64 0, .bool false, .slice none 0 0] 34 (0, 0)) (by (with_reducible repeat (first | refine blk_drewN ?_ _ | refine blk_drew ?_ | refine blk_alloc ?_ _)); exact BK114.out)) : gb120 ≠ gb114)); have n12_ := Aside0.mk ((by rw [hg]; exact Nat.ne_of_lt (blk_lt (g := gb115) (o := .cells #[.int .i64 a0_0, .int .i64 a0_1, .int .i64 a0_2, .bool false, u116004] 34 (0, 0)) (by (with_reducible repeat (first | refine blk_drewN ?_ _ | refine blk_drew ?_ | refine blk_alloc ?_ _)); exact BK115.out)) : gb115 ≠ gb120)); have n13_ := Aside0.mk ((by rw [hg]; exact Nat.ne_of_gt (blk_lt (g := gb115) (o := .cells #[.int .i64 a0_0, .int .i64 a0_1, .int .i64 a0_2, .bool false, u116004] 34 (0, 0)) (by (with_reducible repeat (first | refine blk_drewN ?_ _ | refine blk_drew ?_ | refine blk_alloc ?_ _)); exact BK115.out)) : gb120 ≠ gb115)); clear HO_116004; clear BK113; clear BK114; clear BK115; clear HB; have HO_116004 := n0_; have BK113 := n1_; have BK114 := n2_; have BK115 := n3_; have HB := n4_; have BK120 := n5_; have GW120 := n6_; have GE120 := n7_; have NB113_120 := n8_; have NB120_113 := n9_; have NB114_120 := n10_; have NB120_114 := n11_; have NB115_120 := n12_; have NB120_115 := n13_; clear n0_ n1_ n2_ n3_ n4_ n5_ n6_ n7_ n8_ n9_ n10_ n11_ n12_ n13_; clear hb hbox hg; have hnb19 := NB120_113.out; have hnc19 := NB113_120.out; have hnb20 := NB120_114.out; have hnc20 := NB114_120.out; have hnb21 := NB120_115.out; have hnc21 := NB115_120.out; have hcz22_0 : w18.cell? ⟨gb120, 0, none⟩ = some (.int .i64 0) := (blk_cell BK120.out 0).trans rfl; have hcz22_1 : w18.cell? ⟨gb120, 1, none⟩ = some (.int .i64 0) := (blk_cell BK120.out 1).trans rfl; have hfz22_0 := blk_frozen BK120.out 0; have hfz22_1 := blk_frozen BK120.out 1))
          (try simp only [Act.put, List.setIfInBounds_toArray, List.set_cons_zero, List.set_cons_succ])
          go_cut [33] (fun v33 wc => ∃ (kq : Nat) (x33_13 : Bool), v33 = .bool x33_13 ∧ Aside0 (ontimeref31_State_Put.j1 kq a1 a2 x8_1 x9_1 x33_13 a0_0 a0_1 a0_2 a0_3 l0_4 a0_0 a0_1 a0_2 false x116004_1 ((rd_T81 l0_4 x9_1).f0) ((rd_T81 l0_4 x9_1).f1) = some (r1, r2, r3, r4, r5)) ∧ Aside0 (kq ≤ k1) ∧ Aside0 (Kd.R k81 81 wc w.heap.size (fun k_ => k_ ≠ gb120) u116004 x116004_1) ∧ Aside0 (wc.heap[gb113]? = some (.cells #[.int .i64 a0_0, .int .i64 a0_1, .int .i64 a0_2, .bool a0_3, (.slice (some ad119) l0_4.length c0_4)] 34 (0, 0))) ∧ Aside0 (wc.heap[gb114]? = some (.cells #[.int .i64 0, .int .i64 0, .int .i64 0, .bool false, (.slice none 0 0)] 34 (0, 0))) ∧ Aside0 (wc.heap[gb115]? = some (.cells #[.int .i64 a0_0, .int .i64 a0_1, .int .i64 a0_2, .bool false, u116004] 34 (0, 0))) ∧ Aside0 (wc.heap[gb120]? = some (.cells #[.int .i64 ((rd_T81 l0_4 x9_1).f0), .int .i64 ((rd_T81 l0_4 x9_1).f1)] 81 (0, 0))) ∧ Aside0 (Below w.heap.size w wc))
          case first =>
            have H := HC14.out
            clear HC14
            by_cases c23 : x8_1 = true
            · subst c23
              have H1 : (ontimeref31_State_Put.j1 k1 a1 a2 true x9_1 false a0_0 a0_1 a0_2 a0_3 l0_4 a0_0 a0_1 a0_2 false x116004_1 ((rd_T81 l0_4 x9_1).f0) ((rd_T81 l0_4 x9_1).f1)) = some (r1, r2, r3, r4, r5) := by rw [if_pos rfl] at H; exact H
              clear H
              have H := H1
              clear H1
              have H' := Aside0.mk H
              clear H
              go_wp2
              go_meet
              case rel => exact ⟨_, (false), (by first | rfl | (simp; done) | (simp [*]; done)), H', ⟨by have := HK1.out; first | omega | exact Nat.le_refl _⟩, ⟨by (with_reducible repeat (first | apply Kd.R_alloc | apply Kd.R_drewN | apply Kd.R_drew)); exact Kd.R_mono (Kd.R_far (p := ⟨gb120, 1, none⟩) (Kd.R_far (p := ⟨gb120, 0, none⟩) (Kd.R_mono HO_116004.out (fun k_ hk => (⟨hk, hk.2⟩ : _ ∧ k_ ≠ gb120))) (fun _ hk => hk.2) (.int .i64 ((rd_T81 l0_4 x9_1).f0))) (fun _ hk => hk.2) (.int .i64 ((rd_T81 l0_4 x9_1).f1))) (fun _ hk => hk.1.2)⟩, ⟨by (with_reducible repeat (first | refine blk_drewN ?_ _ | refine blk_drew ?_ | refine blk_alloc ?_ _)); refine blk_far ?_ NB113_120.out _; (with_reducible repeat (first | refine blk_drewN ?_ _ | refine blk_drew ?_ | refine blk_alloc ?_ _)); refine blk_far ?_ NB113_120.out _; (with_reducible repeat (first | refine blk_drewN ?_ _ | refine blk_drew ?_ | refine blk_alloc ?_ _)); exact BK113.out⟩, ⟨by (with_reducible repeat (first | refine blk_drewN ?_ _ | refine blk_drew ?_ | refine blk_alloc ?_ _)); refine blk_far ?_ NB114_120.out _; (with_reducible repeat (first | refine blk_drewN ?_ _ | refine blk_drew ?_ | refine blk_alloc ?_ _)); refine blk_far ?_ NB114_120.out _; (with_reducible repeat (first | refine blk_drewN ?_ _ | refine blk_drew ?_ | refine blk_alloc ?_ _)); exact BK114.out⟩, ⟨by (with_reducible repeat (first | refine blk_drewN ?_ _ | refine blk_drew ?_ | refine blk_alloc ?_ _)); refine blk_far ?_ NB115_120.out _; (with_reducible repeat (first | refine blk_drewN ?_ _ | refine blk_drew ?_ | refine blk_alloc ?_ _)); refine blk_far ?_ NB115_120.out _; (with_reducible repeat (first | refine blk_drewN ?_ _ | refine blk_drew ?_ | refine blk_alloc ?_ _)); exact BK115.out⟩, ⟨by (with_reducible repeat (first | refine blk_drewN ?_ _ | refine blk_drew ?_ | refine blk_alloc ?_ _)); refine blk_put (cs := #[.int .i64 ((rd_T81 l0_4 x9_1).f0), .int .i64 0]) ?_ 1 _ rfl; (with_reducible repeat (first | refine blk_drewN ?_ _ | refine blk_drew ?_ | refine blk_alloc ?_ _)); refine blk_put (cs := #[.int .i64 0, .int .i64 0]) ?_ 0 _ rfl; (with_reducible repeat (first | refine blk_drewN ?_ _ | refine blk_drew ?_ | refine blk_alloc ?_ _)); exact BK120.out⟩, ⟨by repeat (first | (with_reducible first | exact HB.out | apply below_alloc | apply pw_below_drewN | apply below_drew1 | refine below_set ?_ GE113.out | refine below_set ?_ GE114.out | refine below_set ?_ GE115.out | refine below_set ?_ GE120.out) | exact HB.out)⟩⟩
            · replace c23 := Bool.eq_false_iff.mpr c23
              subst c23
              have H1 : (ontimeref31_State_Put.j1 k1 a1 a2 false x9_1 (decide (((rd_T81 l0_4 x9_1).f0) ≥ a1)) a0_0 a0_1 a0_2 a0_3 l0_4 a0_0 a0_1 a0_2 false x116004_1 ((rd_T81 l0_4 x9_1).f0) ((rd_T81 l0_4 x9_1).f1)) = some (r1, r2, r3, r4, r5) := by rw [if_neg (show ¬ (false = true) by decide)] at H; exact H
              clear H
              have H := H1
              clear H1
              have H' := Aside0.mk H
              clear H
              have hnb24 := NB120_113.out
              have hnc24 := NB113_120.out
              have hnb25 := NB120_114.out
              have hnc25 := NB114_120.out
              have hnb26 := NB120_115.out
              have hnc26 := NB115_120.out
              have hcz27_0 : w18.cell? ⟨gb120, 0, none⟩ = some (.int .i64 0) := (blk_cell BK120.out 0).trans rfl
              have hcz27_1 : w18.cell? ⟨gb120, 1, none⟩ = some (.int .i64 0) := (blk_cell BK120.out 1).trans rfl
              have hfz27_0 := blk_frozen BK120.out 0
              have hfz27_1 := blk_frozen BK120.out 1
              go_wp2
              go_meet
              case rel => exact ⟨_, (decide (((rd_T81 l0_4 x9_1).f0) ≥ a1)), (by first | rfl | (simp; done) | (simp [*]; done)), H', ⟨by have := HK1.out; first | omega | exact Nat.le_refl _⟩, ⟨by (with_reducible repeat (first | apply Kd.R_alloc | apply Kd.R_drewN | apply Kd.R_drew)); exact Kd.R_mono (Kd.R_far (p := ⟨gb120, 1, none⟩) (Kd.R_far (p := ⟨gb120, 0, none⟩) (Kd.R_mono HO_116004.out (fun k_ hk => (⟨hk, hk.2⟩ : _ ∧ k_ ≠ gb120))) (fun _ hk => hk.2) (.int .i64 ((rd_T81 l0_4 x9_1).f0))) (fun _ hk => hk.2) (.int .i64 ((rd_T81 l0_4 x9_1).f1))) (fun _ hk => hk.1.2)⟩, ⟨by (with_reducible repeat (first | refine blk_drewN ?_ _ | refine blk_drew ?_ | refine blk_alloc ?_ _)); refine blk_far ?_ NB113_120.out _; (with_reducible repeat (first | refine blk_drewN ?_ _ | refine blk_drew ?_ | refine blk_alloc ?_ _)); refine blk_far ?_ NB113_120.out _; (with_reducible repeat (first | refine blk_drewN ?_ _ | refine blk_drew ?_ | refine blk_alloc ?_ _)); exact BK113.out⟩, ⟨by (with_reducible repeat (first | refine blk_drewN ?_ _ | refine blk_drew ?_ | refine blk_alloc ?_ _)); refine blk_far ?_ NB114_120.out _; (with_reducible repeat (first | refine blk_drewN ?_ _ | refine blk_drew ?_ | refine blk_alloc ?_ _)); refine blk_far ?_ NB114_120.out _; (with_reducible repeat (first | refine blk_drewN ?_ _ | refine blk_drew ?_ | refine blk_alloc ?_ _)); exact BK114.out⟩, ⟨by (with_reducible repeat (first | refine blk_drewN ?_ _ | refine blk_drew ?_ | refine blk_alloc ?_ _)); refine blk_far ?_ NB115_120.out _; (with_reducible repeat (first | refine blk_drewN ?_ _ | refine blk_drew ?_ | refine blk_alloc ?_ _)); refine blk_far ?_ NB115_120.out _; (with_reducible repeat (first | refine blk_drewN ?_ _ | refine blk_drew ?_ | refine blk_alloc ?_ _)); exact BK115.out⟩, ⟨by (with_reducible repeat (first | refine blk_drewN ?_ _ | refine blk_drew ?_ | refine blk_alloc ?_ _)); refine blk_put (cs := #[.int .i64 ((rd_T81 l0_4 x9_1).f0), .int .i64 0]) ?_ 1 _ rfl; (with_reducible repeat (first | refine blk_drewN ?_ _ | refine blk_drew ?_ | refine blk_alloc ?_ _)); refine blk_put (cs := #[.int .i64 0, .int .i64 0]) ?_ 0 _ rfl; (with_reducible repeat (first | refine blk_drewN ?_ _ | refine blk_drew ?_ | refine blk_alloc ?_ _)); exact BK120.out⟩, ⟨by repeat (first | (with_reducible first | exact HB.out | apply below_alloc | apply pw_below_drewN | apply below_drew1 | refine below_set ?_ GE113.out | refine below_set ?_ GE114.out | refine below_set ?_ GE115.out | refine below_set ?_ GE120.out) | exact HB.out)⟩⟩
          case rest =>
            clear HC14
            try clear c1
            try clear p1
            try clear q1
            try clear hx1
            try clear c2
            try clear p2
            try clear c4
            try clear c6
            try clear c9
            try clear c10
            try clear p11
            try clear q11
            try clear hx11
            try clear c12
            try clear c12b0
            try clear c13
            try clear c13b0
            try clear c15
            try clear c16
            try clear c19
            try clear c20
            try clear c21
            try clear c23
            try clear c24
            try clear c25
            try clear c26
            try clear hcz11_0
            try clear hcz11_1
            try clear hcz11_2
            try clear hcz11_3
            try clear hcz11_4
            try clear hcz17_0
            try clear hcz17_1
            try clear hcz17_2
            try clear hcz17_3
            try clear hcz17_4
            try clear hcz22_0
            try clear hcz22_1
            try clear hcz27_0
            try clear hcz27_1
            try clear hcz7_0
            try clear hcz7_1
            try clear hcz7_2
            try clear hcz7_3
            try clear hcz7_4
            try clear hfz11_0
            try clear hfz11_1
            try clear hfz11_2
            try clear hfz11_3
            try clear hfz11_4
            try clear hfz17_0
            try clear hfz17_1
            try clear hfz17_2
            try clear hfz17_3
            try clear hfz17_4
            try clear hfz22_0
            try clear hfz22_1
            try clear hfz27_0
            try clear hfz27_1
            try clear hfz7_0
            try clear hfz7_1
            try clear hfz7_2
            try clear hfz7_3
            try clear hfz7_4
            try clear hx119_0
            try clear hx119_1
            try clear p119
            try clear p2
            try clear q119
            obtain ⟨kq, x33_13, rfl, HA, HJ13, HO_116004, BK113, BK114, BK115, BK120, HB⟩ := hcut
            cases kq with
            | zero => exact absurd HA.out (by simp [ontimeref31_State_Put.j1])
            | succ kj13 =>
              have H := HA.out
              clear HA
              simp only [ontimeref31_State_Put.j1] at H
              by_cases c28 : x33_13 = true
              · subst c28
                have H1 : (if x116004_1.length < 8796093022208 then ((some (x116004_1 ++ [(⟨a1, a2⟩ : S81)] : List (S81))).bind fun y121 => (if ((rd_T81 l0_4 x9_1).f0) = a1 then (ontimeref31_State_Put.l0 kj13 a1 a2 true (wrap64 (x9_1 + 1)) a0_0 a0_1 a0_2 a0_3 l0_4 a0_0 a0_1 a0_2 false y121) else (if y121.length < 8796093022208 then (ontimeref31_State_Put.l0 kj13 a1 a2 true (wrap64 (x9_1 + 1)) a0_0 a0_1 a0_2 a0_3 l0_4 a0_0 a0_1 a0_2 false (y121 ++ [(⟨((rd_T81 l0_4 x9_1).f0), ((rd_T81 l0_4 x9_1).f1)⟩ : S81)])) else (none)))) else (none)) = some (r1, r2, r3, r4, r5) := by rw [if_pos rfl] at H; exact H
                clear H
                have H := H1
                clear H1
                by_cases c29 : x116004_1.length < 8796093022208
                · rw [if_pos c29] at H
                  have LMc29 := Aside0.mk c29
                  clear c29
                  obtain ⟨y121, hy121⟩ : ∃ y_ : List (S81), y_ = (x116004_1 ++ [(⟨a1, a2⟩ : S81)]) := ⟨_, rfl⟩
                  replace H : (if ((rd_T81 l0_4 x9_1).f0) = a1 then (ontimeref31_State_Put.l0 kj13 a1 a2 true (wrap64 (x9_1 + 1)) a0_0 a0_1 a0_2 a0_3 l0_4 a0_0 a0_1 a0_2 false y121) else (if y121.length < 8796093022208 then (ontimeref31_State_Put.l0 kj13 a1 a2 true (wrap64 (x9_1 + 1)) a0_0 a0_1 a0_2 a0_3 l0_4 a0_0 a0_1 a0_2 false (y121 ++ [(⟨((rd_T81 l0_4 x9_1).f0), ((rd_T81 l0_4 x9_1).f1)⟩ : S81)])) else (none))) = some (r1, r2, r3, r4, r5) := by first | (rw [hy121]; with_reducible exact H) | (have H2_ := (Option.bind_some _ _).symm.trans H; rw [hy121]; with_reducible exact H2_) | (have H2_ := (Option.bind_some _ _).symm.trans H; with_reducible exact H2_) | with_reducible exact H | (rw [hy121]; exact H) | exact H
                  have Ny121 := Aside0.mk hy121
                  clear hy121
                  by_cases c30 : ((rd_T81 l0_4 x9_1).f0) = a1
                  · rw [if_pos c30] at H
                    have c30b0 : (((rd_T81 l0_4 x9_1).f0) == a1) = true := beq_iff_eq.mpr c30
                    have c30b1 : (((rd_T81 l0_4 x9_1).f0) != a1) = false := bne_eq_false_iff_eq.mpr c30
                    clear c30
                    have H' := Aside0.mk H
                    clear H
                    have hnb31 := NB115_113.out
                    have hnc31 := NB113_115.out
                    have hnb32 := NB115_114.out
                    have hnc32 := NB114_115.out
                    have hnb33 := NB115_120.out
                    have hnc33 := NB120_115.out
                    have hcz34_0 : wc.cell? ⟨gb115, 0, none⟩ = some (.int .i64 a0_0) := (blk_cell BK115.out 0).trans rfl
                    have hcz34_1 : wc.cell? ⟨gb115, 1, none⟩ = some (.int .i64 a0_1) := (blk_cell BK115.out 1).trans rfl
                    have hcz34_2 : wc.cell? ⟨gb115, 2, none⟩ = some (.int .i64 a0_2) := (blk_cell BK115.out 2).trans rfl
                    have hcz34_3 : wc.cell? ⟨gb115, 3, none⟩ = some (.bool false) := (blk_cell BK115.out 3).trans rfl
                    have hcz34_4 : wc.cell? ⟨gb115, 4, none⟩ = some (u116004) := (blk_cell BK115.out 4).trans rfl
                    have hfz34_0 := blk_frozen BK115.out 0
                    have hfz34_1 := blk_frozen BK115.out 1
                    have hfz34_2 := blk_frozen BK115.out 2
                    have hfz34_3 := blk_frozen BK115.out 3
                    have hfz34_4 := blk_frozen BK115.out 4
                    go_wp2_with (first | ((with_reducible refine gate_builtin (b := .append) (xs := #[.tmp 35, .tmp 39]) rfl ?_); at_builtin; refine Kd.R_append k81 (w0 := w) w.heap.size rfl (.tmp 35) (.tmp 39) 32 81 (.agg #[(.int .i64 0), (.int .i64 0)]) 16 rfl Try.underlying32 info81 rfl (by decide) (by omega) u116004 x116004_1 (⟨a1, a2⟩ : S81) [.int .i64 a1, .int .i64 a2] (fun k_ => k_ ≠ gb120) (fun _ => False) rfl rfl ?aP (fun _ hk => hk.elim) ?aF ?aO ?aB ?aS ?aL ?_; (case aP => exact k81_mkM _ _ _ (⟨a1, a2⟩ : S81)); (case aB => exact (by repeat (first | (with_reducible first | exact HB.out | apply below_alloc | apply pw_below_drewN | apply below_drew1 | refine below_set ?_ GE113.out | refine below_set ?_ GE114.out | refine below_set ?_ GE115.out | refine below_set ?_ GE120.out) | exact HB.out))); (case aF => exact (fun k_ hk => Kd.freshB (g := gb120) (o := .cells #[.int .i64 ((rd_T81 l0_4 x9_1).f0), .int .i64 ((rd_T81 l0_4 x9_1).f1)] 81 (0, 0)) (by (with_reducible repeat (first | refine blk_drewN ?_ _ | refine blk_drew ?_ | refine blk_alloc ?_ _)); exact BK120.out) k_ hk)); (case aO => exact (by (with_reducible repeat (first | apply Kd.R_alloc | apply Kd.R_drewN | apply Kd.R_drew)); exact HO_116004.out)); (case aS => exact (below_size (by repeat (first | (with_reducible first | exact HB.out | apply below_alloc | apply pw_below_drewN | apply below_drew1 | refine below_set ?_ GE113.out | refine below_set ?_ GE114.out | refine below_set ?_ GE115.out | refine below_set ?_ GE120.out) | exact HB.out)))); (case aL => have := LMc29.out; omega); intro v122 w35 ho hb hg hat; rw [← Ny121.out] at ho; have n0_ := Aside0.mk (blk_grown (g := gb113) (o := .cells #[.int .i64 a0_0, .int .i64 a0_1, .int .i64 a0_2, .bool a0_3, .slice (some ad119) l0_4.length c0_4] 34 (0, 0)) (by (with_reducible repeat (first | refine blk_drewN ?_ _ | refine blk_drew ?_ | refine blk_alloc ?_ _)); exact BK113.out) hg (Kd.R_ne HO_116004.out BK113.out (by decide))); have n1_ := Aside0.mk (blk_grown (g := gb114) (o := .cells #[.int .i64 0, .int .i64 0, .int .i64 0, .bool false, .slice none 0 0] 34 (0, 0)) (by (with_reducible repeat (first | refine blk_drewN ?_ _ | refine blk_drew ?_ | refine blk_alloc ?_ _)); exact BK114.out) hg (Kd.R_ne HO_116004.out BK114.out (by decide))); have n2_ := Aside0.mk (blk_grown (g := gb115) (o := .cells #[.int .i64 a0_0, .int .i64 a0_1, .int .i64 a0_2, .bool false, u116004] 34 (0, 0)) (by (with_reducible repeat (first | refine blk_drewN ?_ _ | refine blk_drew ?_ | refine blk_alloc ?_ _)); exact BK115.out) hg (Kd.R_ne HO_116004.out BK115.out (by decide))); have n3_ := Aside0.mk (blk_grown (g := gb120) (o := .cells #[.int .i64 ((rd_T81 l0_4 x9_1).f0), .int .i64 ((rd_T81 l0_4 x9_1).f1)] 81 (0, 0)) (by (with_reducible repeat (first | refine blk_drewN ?_ _ | refine blk_drew ?_ | refine blk_alloc ?_ _)); exact BK120.out) hg (Kd.R_away HO_116004.out (fun _ hk => hk))); have n4_ := Aside0.mk (hb); have n5_ := Aside0.mk (ho); clear BK113; clear BK114; clear BK115; clear BK120; clear HB; clear HO_116004; have BK113 := n0_; have BK114 := n1_; have BK115 := n2_; have BK120 := n3_; have HB := n4_; have HO123 := n5_; clear n0_ n1_ n2_ n3_ n4_ n5_; clear ho hb hg hat; obtain ⟨Ao36, co36, eo36⟩ := Kd.R_slice HO123.out; subst eo36; have hcz37_0 : w35.cell? ⟨gb115, 0, none⟩ = some (.int .i64 a0_0) := (blk_cell BK115.out 0).trans rfl; have hcz37_1 : w35.cell? ⟨gb115, 1, none⟩ = some (.int .i64 a0_1) := (blk_cell BK115.out 1).trans rfl; have hcz37_2 : w35.cell? ⟨gb115, 2, none⟩ = some (.int .i64 a0_2) := (blk_cell BK115.out 2).trans rfl; have hcz37_3 : w35.cell? ⟨gb115, 3, none⟩ = some (.bool false) := (blk_cell BK115.out 3).trans rfl; have hcz37_4 : w35.cell? ⟨gb115, 4, none⟩ = some (u116004) := (blk_cell BK115.out 4).trans rfl; have hfz37_0 := blk_frozen BK115.out 0; have hfz37_1 := blk_frozen BK115.out 1; have hfz37_2 := blk_frozen BK115.out 2; have hfz37_3 := blk_frozen BK115.out 3; have hfz37_4 := blk_frozen BK115.out 4; have hnb38 := NB120_113.out; have hnc38 := NB113_120.out; have hnb39 := NB120_114.out; have hnc39 := NB114_120.out; have hcz40_0 : w35.cell? ⟨gb120, 0, none⟩ = some (.int .i64 ((rd_T81 l0_4 x9_1).f0)) := (blk_cell BK120.out 0).trans rfl; have hcz40_1 : w35.cell? ⟨gb120, 1, none⟩ = some (.int .i64 ((rd_T81 l0_4 x9_1).f1)) := (blk_cell BK120.out 1).trans rfl; have hfz40_0 := blk_frozen BK120.out 0; have hfz40_1 := blk_frozen BK120.out 1))
                    go_roundg kj13
                    case measure => have := HK1.out; have := HJ13.out; omega
                    case rel => exact ⟨(true), (wrap64 (x9_1 + 1)), (y121), (.slice Ao36 y121.length co36), (by first | rfl | (simp; done) | (simp [*]; done)), (by first | rfl | (simp; done) | (simp [*]; done)), H', ⟨by have := HK1.out; have := HJ13.out; omega⟩, ⟨by (with_reducible repeat (first | apply Kd.R_alloc | apply Kd.R_drewN | apply Kd.R_drew)); exact Kd.R_mono (Kd.R_far (p := ⟨gb115, 4, none⟩) (Kd.R_types HO123.out BK115.out (by decide)) (fun _ hk => hk.2) (.slice Ao36 y121.length co36)) (fun _ hk => trivial)⟩, ⟨by (with_reducible repeat (first | refine blk_drewN ?_ _ | refine blk_drew ?_ | refine blk_alloc ?_ _)); refine blk_far ?_ NB113_115.out _; (with_reducible repeat (first | refine blk_drewN ?_ _ | refine blk_drew ?_ | refine blk_alloc ?_ _)); exact BK113.out⟩, ⟨by (with_reducible repeat (first | refine blk_drewN ?_ _ | refine blk_drew ?_ | refine blk_alloc ?_ _)); refine blk_far ?_ NB114_115.out _; (with_reducible repeat (first | refine blk_drewN ?_ _ | refine blk_drew ?_ | refine blk_alloc ?_ _)); exact BK114.out⟩, ⟨by (with_reducible repeat (first | refine blk_drewN ?_ _ | refine blk_drew ?_ | refine blk_alloc ?_ _)); refine blk_put (cs := #[.int .i64 a0_0, .int .i64 a0_1, .int .i64 a0_2, .bool false, u116004]) ?_ 4 _ rfl; (with_reducible repeat (first | refine blk_drewN ?_ _ | refine blk_drew ?_ | refine blk_alloc ?_ _)); exact BK115.out⟩, ⟨by repeat (first | (with_reducible first | exact HB.out | apply below_alloc | apply pw_below_drewN | apply below_drew1 | refine below_set ?_ GE113.out | refine below_set ?_ GE114.out | refine below_set ?_ GE115.out | refine below_set ?_ GE120.out) | exact HB.out)⟩⟩
                  · rw [if_neg c30] at H
                    have c30b0 : (((rd_T81 l0_4 x9_1).f0) == a1) = false := beq_eq_false_iff_ne.mpr c30
                    have c30b1 : (((rd_T81 l0_4 x9_1).f0) != a1) = true := bne_iff_ne.mpr c30
                    by_cases c41 : y121.length < 8796093022208
                    · rw [if_pos c41] at H
                      have LMc41 := Aside0.mk c41
                      clear c41
                      obtain ⟨y124, hy124⟩ : ∃ y_ : List (S81), y_ = (y121 ++ [(⟨((rd_T81 l0_4 x9_1).f0), ((rd_T81 l0_4 x9_1).f1)⟩ : S81)]) := ⟨_, rfl⟩
                      replace H : (ontimeref31_State_Put.l0 kj13 a1 a2 true (wrap64 (x9_1 + 1)) a0_0 a0_1 a0_2 a0_3 l0_4 a0_0 a0_1 a0_2 false y124) = some (r1, r2, r3, r4, r5) := by first | (rw [hy124]; with_reducible exact H) | (have H2_ := (Option.bind_some _ _).symm.trans H; rw [hy124]; with_reducible exact H2_) | (have H2_ := (Option.bind_some _ _).symm.trans H; with_reducible exact H2_) | with_reducible exact H | (rw [hy124]; exact H) | exact H
                      have Ny124 := Aside0.mk hy124
                      clear hy124
                      have H' := Aside0.mk H
                      clear H
                      have hnb42 := NB115_113.out
                      have hnc42 := NB113_115.out
                      have hnb43 := NB115_114.out
                      have hnc43 := NB114_115.out
                      have hnb44 := NB115_120.out
                      have hnc44 := NB120_115.out
                      have hcz45_0 : wc.cell? ⟨gb115, 0, none⟩ = some (.int .i64 a0_0) := (blk_cell BK115.out 0).trans rfl
                      have hcz45_1 : wc.cell? ⟨gb115, 1, none⟩ = some (.int .i64 a0_1) := (blk_cell BK115.out 1).trans rfl
                      have hcz45_2 : wc.cell? ⟨gb115, 2, none⟩ = some (.int .i64 a0_2) := (blk_cell BK115.out 2).trans rfl
                      have hcz45_3 : wc.cell? ⟨gb115, 3, none⟩ = some (.bool false) := (blk_cell BK115.out 3).trans rfl
                      have hcz45_4 : wc.cell? ⟨gb115, 4, none⟩ = some (u116004) := (blk_cell BK115.out 4).trans rfl
                      have hfz45_0 := blk_frozen BK115.out 0
                      have hfz45_1 := blk_frozen BK115.out 1
                      have hfz45_2 := blk_frozen BK115.out 2
                      have hfz45_3 := blk_frozen BK115.out 3
                      have hfz45_4 := blk_frozen BK115.out 4
                      go_wp2_with (first | ((with_reducible refine gate_builtin (b := .append) (xs := #[.tmp 35, .tmp 39]) rfl ?_); at_builtin; refine Kd.R_append k81 (w0 := w) w.heap.size rfl (.tmp 35) (.tmp 39) 32 81 (.agg #[(.int .i64 0), (.int .i64 0)]) 16 rfl Try.underlying32 info81 rfl (by decide) (by omega) u116004 x116004_1 (⟨a1, a2⟩ : S81) [.int .i64 a1, .int .i64 a2] (fun k_ => k_ ≠ gb120) (fun _ => False) rfl rfl ?aP (fun _ hk => hk.elim) ?aF ?aO ?aB ?aS ?aL ?_; (case aP => exact k81_mkM _ _ _ (⟨a1, a2⟩ : S81)); (case aB => exact (by repeat (first | (with_reducible first | exact HB.out | apply below_alloc | apply pw_below_drewN | apply below_drew1 | refine below_set ?_ GE113.out | refine below_set ?_ GE114.out | refine below_set ?_ GE115.out | refine below_set ?_ GE120.out) | exact HB.out))); (case aF => exact (fun k_ hk => Kd.freshB (g := gb120) (o := .cells #[.int .i64 ((rd_T81 l0_4 x9_1).f0), .int .i64 ((rd_T81 l0_4 x9_1).f1)] 81 (0, 0)) (by (with_reducible repeat (first | refine blk_drewN ?_ _ | refine blk_drew ?_ | refine blk_alloc ?_ _)); exact BK120.out) k_ hk)); (case aO => exact (by (with_reducible repeat (first | apply Kd.R_alloc | apply Kd.R_drewN | apply Kd.R_drew)); exact HO_116004.out)); (case aS => exact (below_size (by repeat (first | (with_reducible first | exact HB.out | apply below_alloc | apply pw_below_drewN | apply below_drew1 | refine below_set ?_ GE113.out | refine below_set ?_ GE114.out | refine below_set ?_ GE115.out | refine below_set ?_ GE120.out) | exact HB.out)))); (case aL => have := LMc29.out; omega); intro v122 w46 ho hb hg hat; rw [← Ny121.out] at ho; have n0_ := Aside0.mk (blk_grown (g := gb113) (o := .cells #[.int .i64 a0_0, .int .i64 a0_1, .int .i64 a0_2, .bool a0_3, .slice (some ad119) l0_4.length c0_4] 34 (0, 0)) (by (with_reducible repeat (first | refine blk_drewN ?_ _ | refine blk_drew ?_ | refine blk_alloc ?_ _)); exact BK113.out) hg (Kd.R_ne HO_116004.out BK113.out (by decide))); have n1_ := Aside0.mk (blk_grown (g := gb114) (o := .cells #[.int .i64 0, .int .i64 0, .int .i64 0, .bool false, .slice none 0 0] 34 (0, 0)) (by (with_reducible repeat (first | refine blk_drewN ?_ _ | refine blk_drew ?_ | refine blk_alloc ?_ _)); exact BK114.out) hg (Kd.R_ne HO_116004.out BK114.out (by decide))); have n2_ := Aside0.mk (blk_grown (g := gb115) (o := .cells #[.int .i64 a0_0, .int .i64 a0_1, .int .i64 a0_2, .bool false, u116004] 34 (0, 0)) (by (with_reducible repeat (first | refine blk_drewN ?_ _ | refine blk_drew ?_ | refine blk_alloc ?_ _)); exact BK115.out) hg (Kd.R_ne HO_116004.out BK115.out (by decide))); have n3_ := Aside0.mk (blk_grown (g := gb120) (o := .cells #[.int .i64 ((rd_T81 l0_4 x9_1).f0), .int .i64 ((rd_T81 l0_4 x9_1).f1)] 81 (0, 0)) (by (with_reducible repeat (first | refine blk_drewN ?_ _ | refine blk_drew ?_ | refine blk_alloc ?_ _)); exact BK120.out) hg (Kd.R_away HO_116004.out (fun _ hk => hk))); have n4_ := Aside0.mk (hb); have n5_ := Aside0.mk (ho); clear BK113; clear BK114; clear BK115; clear BK120; clear HB; clear HO_116004; have BK113 := n0_; have BK114 := n1_; have BK115 := n2_; have BK120 := n3_; have HB := n4_; have HO123 := n5_; clear n0_ n1_ n2_ n3_ n4_ n5_; clear ho hb hg hat; obtain ⟨Ao47, co47, eo47⟩ := Kd.R_slice HO123.out; subst eo47; have hcz48_0 : w46.cell? ⟨gb115, 0, none⟩ = some (.int .i64 a0_0) := (blk_cell BK115.out 0).trans rfl; have hcz48_1 : w46.cell? ⟨gb115, 1, none⟩ = some (.int .i64 a0_1) := (blk_cell BK115.out 1).trans rfl; have hcz48_2 : w46.cell? ⟨gb115, 2, none⟩ = some (.int .i64 a0_2) := (blk_cell BK115.out 2).trans rfl; have hcz48_3 : w46.cell? ⟨gb115, 3, none⟩ = some (.bool false) := (blk_cell BK115.out 3).trans rfl; have hcz48_4 : w46.cell? ⟨gb115, 4, none⟩ = some (u116004) := (blk_cell BK115.out 4).trans rfl; have hfz48_0 := blk_frozen BK115.out 0; have hfz48_1 := blk_frozen BK115.out 1; have hfz48_2 := blk_frozen BK115.out 2; have hfz48_3 := blk_frozen BK115.out 3; have hfz48_4 := blk_frozen BK115.out 4; have hnb49 := NB120_113.out; have hnc49 := NB113_120.out; have hnb50 := NB120_114.out; have hnc50 := NB114_120.out; have hcz51_0 : w46.cell? ⟨gb120, 0, none⟩ = some (.int .i64 ((rd_T81 l0_4 x9_1).f0)) := (blk_cell BK120.out 0).trans rfl; have hcz51_1 : w46.cell? ⟨gb120, 1, none⟩ = some (.int .i64 ((rd_T81 l0_4 x9_1).f1)) := (blk_cell BK120.out 1).trans rfl; have hfz51_0 := blk_frozen BK120.out 0; have hfz51_1 := blk_frozen BK120.out 1) | ((with_reducible refine gate_builtin (b := .append) (xs := #[.tmp 47, .tmp 49]) rfl ?_); at_builtin; refine Kd.R_append k81 (w0 := w) w.heap.size rfl (.tmp 47) (.tmp 49) 32 81 (.agg #[(.int .i64 0), (.int .i64 0)]) 16 rfl Try.underlying32 info81 rfl (by decide) (by omega) (.slice Ao47 y121.length co47) y121 (⟨((rd_T81 l0_4 x9_1).f0), ((rd_T81 l0_4 x9_1).f1)⟩ : S81) [.int .i64 ((rd_T81 l0_4 x9_1).f0), .int .i64 ((rd_T81 l0_4 x9_1).f1)] (fun k_ => k_ ≠ gb120) (fun _ => False) rfl (by first | (go_simp; done) | (go_simp; rfl)) ?aP (fun _ hk => hk.elim) ?aF ?aO ?aB ?aS ?aL ?_; (case aP => exact k81_mkM _ _ _ (⟨((rd_T81 l0_4 x9_1).f0), ((rd_T81 l0_4 x9_1).f1)⟩ : S81)); (case aB => exact (by repeat (first | (with_reducible first | exact HB.out | apply below_alloc | apply pw_below_drewN | apply below_drew1 | refine below_set ?_ GE113.out | refine below_set ?_ GE114.out | refine below_set ?_ GE115.out | refine below_set ?_ GE120.out) | exact HB.out))); (case aF => exact (fun k_ hk => Kd.freshB (g := gb120) (o := .cells #[.int .i64 ((rd_T81 l0_4 x9_1).f0), .int .i64 ((rd_T81 l0_4 x9_1).f1)] 81 (0, 0)) (by (with_reducible repeat (first | refine blk_drewN ?_ _ | refine blk_drew ?_ | refine blk_alloc ?_ _)); refine blk_far ?_ NB120_115.out _; (with_reducible repeat (first | refine blk_drewN ?_ _ | refine blk_drew ?_ | refine blk_alloc ?_ _)); exact BK120.out) k_ hk)); (case aO => exact (by (with_reducible repeat (first | apply Kd.R_alloc | apply Kd.R_drewN | apply Kd.R_drew)); exact Kd.R_mono (Kd.R_far (p := ⟨gb115, 4, none⟩) (Kd.R_types HO123.out BK115.out (by decide)) (fun _ hk => hk.2) (.slice Ao47 y121.length co47)) (fun _ hk => hk.1))); (case aS => exact (below_size (by repeat (first | (with_reducible first | exact HB.out | apply below_alloc | apply pw_below_drewN | apply below_drew1 | refine below_set ?_ GE113.out | refine below_set ?_ GE114.out | refine below_set ?_ GE115.out | refine below_set ?_ GE120.out) | exact HB.out)))); (case aL => have := LMc41.out; omega); intro v125 w52 ho hb hg hat; rw [← Ny124.out] at ho; have n0_ := Aside0.mk (blk_grown (g := gb113) (o := .cells #[.int .i64 a0_0, .int .i64 a0_1, .int .i64 a0_2, .bool a0_3, .slice (some ad119) l0_4.length c0_4] 34 (0, 0)) (by (with_reducible repeat (first | refine blk_drewN ?_ _ | refine blk_drew ?_ | refine blk_alloc ?_ _)); refine blk_far ?_ NB113_115.out _; (with_reducible repeat (first | refine blk_drewN ?_ _ | refine blk_drew ?_ | refine blk_alloc ?_ _)); exact BK113.out) hg (Kd.R_ne HO123.out BK113.out (by decide))); have n1_ := Aside0.mk (blk_grown (g := gb114) (o := .cells #[.int .i64 0, .int .i64 0, .int .i64 0, .bool false, .slice none 0 0] 34 (0, 0)) (by (with_reducible repeat (first | refine blk_drewN ?_ _ | refine blk_drew ?_ | refine blk_alloc ?_ _)); refine blk_far ?_ NB114_115.out _; (with_reducible repeat (first | refine blk_drewN ?_ _ | refine blk_drew ?_ | refine blk_alloc ?_ _)); exact BK114.out) hg (Kd.R_ne HO123.out BK114.out (by decide))); have n2_ := Aside0.mk (blk_grown (g := gb115) (o := .cells #[.int .i64 a0_0, .int .i64 a0_1, .int .i64 a0_2, .bool false, .slice Ao47 y121.length co47] 34 (0, 0)) (by (with_reducible repeat (first | refine blk_drewN ?_ _ | refine blk_drew ?_ | refine blk_alloc ?_ _)); refine blk_put (cs := #[.int .i64 a0_0, .int .i64 a0_1, .int .i64 a0_2, .bool false, u116004]) ?_ 4 _ rfl; (with_reducible repeat (first | refine blk_drewN ?_ _ | refine blk_drew ?_ | refine blk_alloc ?_ _)); exact BK115.out) hg (Kd.R_ne HO123.out BK115.out (by decide))); have n3_ := Aside0.mk (blk_grown (g := gb120) (o := .cells #[.int .i64 ((rd_T81 l0_4 x9_1).f0), .int .i64 ((rd_T81 l0_4 x9_1).f1)] 81 (0, 0)) (by (with_reducible repeat (first | refine blk_drewN ?_ _ | refine blk_drew ?_ | refine blk_alloc ?_ _)); refine blk_far ?_ NB120_115.out _; (with_reducible repeat (first | refine blk_drewN ?_ _ | refine blk_drew ?_ | refine blk_alloc ?_ _)); exact BK120.out) hg (Kd.R_away HO123.out (fun _ hk => hk))); have n4_ := Aside0.mk (hb); have n5_ := Aside0.mk (ho); clear BK113; clear BK114; clear BK115; clear BK120; clear HB; clear HO123; have BK113 := n0_; have BK114 := n1_; have BK115 := n2_; have BK120 := n3_; have HB := n4_; have HO126 := n5_; clear n0_ n1_ n2_ n3_ n4_ n5_; clear ho hb hg hat; obtain ⟨Ao53, co53, eo53⟩ := Kd.R_slice HO126.out; subst eo53; have hcz54_0 : w52.cell? ⟨gb115, 0, none⟩ = some (.int .i64 a0_0) := (blk_cell BK115.out 0).trans rfl; have hcz54_1 : w52.cell? ⟨gb115, 1, none⟩ = some (.int .i64 a0_1) := (blk_cell BK115.out 1).trans rfl; have hcz54_2 : w52.cell? ⟨gb115, 2, none⟩ = some (.int .i64 a0_2) := (blk_cell BK115.out 2).trans rfl; have hcz54_3 : w52.cell? ⟨gb115, 3, none⟩ = some (.bool false) := (blk_cell BK115.out 3).trans rfl; have hcz54_4 : w52.cell? ⟨gb115, 4, none⟩ = some (.slice Ao47 y121.length co47) := (blk_cell BK115.out 4).trans rfl; have hfz54_0 := blk_frozen BK115.out 0; have hfz54_1 := blk_frozen BK115.out 1; have hfz54_2 := blk_frozen BK115.out 2; have hfz54_3 := blk_frozen BK115.out 3; have hfz54_4 := blk_frozen BK115.out 4))
                      go_roundg kj13
                      case measure => have := HK1.out; have := HJ13.out; omega
                      case rel => exact ⟨(true), (wrap64 (x9_1 + 1)), (y124), (.slice Ao53 y124.length co53), (by first | rfl | (simp; done) | (simp [*]; done)), (by first | rfl | (simp; done) | (simp [*]; done)), H', ⟨by have := HK1.out; have := HJ13.out; omega⟩, ⟨by (with_reducible repeat (first | apply Kd.R_alloc | apply Kd.R_drewN | apply Kd.R_drew)); exact Kd.R_mono (Kd.R_far (p := ⟨gb115, 4, none⟩) (Kd.R_types HO126.out BK115.out (by decide)) (fun _ hk => hk.2) (.slice Ao53 y124.length co53)) (fun _ hk => trivial)⟩, ⟨by (with_reducible repeat (first | refine blk_drewN ?_ _ | refine blk_drew ?_ | refine blk_alloc ?_ _)); refine blk_far ?_ NB113_115.out _; (with_reducible repeat (first | refine blk_drewN ?_ _ | refine blk_drew ?_ | refine blk_alloc ?_ _)); exact BK113.out⟩, ⟨by (with_reducible repeat (first | refine blk_drewN ?_ _ | refine blk_drew ?_ | refine blk_alloc ?_ _)); refine blk_far ?_ NB114_115.out _; (with_reducible repeat (first | refine blk_drewN ?_ _ | refine blk_drew ?_ | refine blk_alloc ?_ _)); exact BK114.out⟩, ⟨by (with_reducible repeat (first | refine blk_drewN ?_ _ | refine blk_drew ?_ | refine blk_alloc ?_ _)); refine blk_put (cs := #[.int .i64 a0_0, .int .i64 a0_1, .int .i64 a0_2, .bool false, .slice Ao47 y121.length co47]) ?_ 4 _ rfl; (with_reducible repeat (first | refine blk_drewN ?_ _ | refine blk_drew ?_ | refine blk_alloc ?_ _)); exact BK115.out⟩, ⟨by repeat (first | (with_reducible first | exact HB.out | apply below_alloc | apply pw_below_drewN | apply below_drew1 | refine below_set ?_ GE113.out | refine below_set ?_ GE114.out | refine below_set ?_ GE115.out | refine below_set ?_ GE120.out) | exact HB.out)⟩⟩
                    · rw [if_neg c41] at H
                      exact absurd H (by simp)
                · rw [if_neg c29] at H
                  exact absurd H (by simp)
              · replace c28 := Bool.eq_false_iff.mpr c28
                subst c28
                have H1 : (if ((rd_T81 l0_4 x9_1).f0) = a1 then (ontimeref31_State_Put.l0 kj13 a1 a2 x8_1 (wrap64 (x9_1 + 1)) a0_0 a0_1 a0_2 a0_3 l0_4 a0_0 a0_1 a0_2 false x116004_1) else (if x116004_1.length < 8796093022208 then (ontimeref31_State_Put.l0 kj13 a1 a2 x8_1 (wrap64 (x9_1 + 1)) a0_0 a0_1 a0_2 a0_3 l0_4 a0_0 a0_1 a0_2 false (x116004_1 ++ [(⟨((rd_T81 l0_4 x9_1).f0), ((rd_T81 l0_4 x9_1).f1)⟩ : S81)])) else (none))) = some (r1, r2, r3, r4, r5) := by rw [if_neg (show ¬ (false = true) by decide)] at H; exact H
                clear H
                have H := H1
                clear H1
                by_cases c55 : ((rd_T81 l0_4 x9_1).f0) = a1
                · rw [if_pos c55] at H
                  have c55b0 : (((rd_T81 l0_4 x9_1).f0) == a1) = true := beq_iff_eq.mpr c55
                  have c55b1 : (((rd_T81 l0_4 x9_1).f0) != a1) = false := bne_eq_false_iff_eq.mpr c55
                  clear c55
                  have H' := Aside0.mk H
                  clear H
                  have hnb56 := NB120_113.out
                  have hnc56 := NB113_120.out
                  have hnb57 := NB120_114.out
                  have hnc57 := NB114_120.out
                  have hnb58 := NB120_115.out
                  have hnc58 := NB115_120.out
                  have hcz59_0 : wc.cell? ⟨gb120, 0, none⟩ = some (.int .i64 ((rd_T81 l0_4 x9_1).f0)) := (blk_cell BK120.out 0).trans rfl
                  have hcz59_1 : wc.cell? ⟨gb120, 1, none⟩ = some (.int .i64 ((rd_T81 l0_4 x9_1).f1)) := (blk_cell BK120.out 1).trans rfl
                  have hfz59_0 := blk_frozen BK120.out 0
                  have hfz59_1 := blk_frozen BK120.out 1
                  go_wp2
                  go_roundg kj13
                  case measure => have := HK1.out; have := HJ13.out; omega
                  case rel => exact ⟨(x8_1), (wrap64 (x9_1 + 1)), (x116004_1), (u116004), (by first | rfl | (simp; done) | (simp [*]; done)), (by first | rfl | (simp; done) | (simp [*]; done)), H', ⟨by have := HK1.out; have := HJ13.out; omega⟩, ⟨by (with_reducible repeat (first | apply Kd.R_alloc | apply Kd.R_drewN | apply Kd.R_drew)); exact Kd.R_mono HO_116004.out (fun _ hk => trivial)⟩, ⟨by (with_reducible repeat (first | refine blk_drewN ?_ _ | refine blk_drew ?_ | refine blk_alloc ?_ _)); exact BK113.out⟩, ⟨by (with_reducible repeat (first | refine blk_drewN ?_ _ | refine blk_drew ?_ | refine blk_alloc ?_ _)); exact BK114.out⟩, ⟨by (with_reducible repeat (first | refine blk_drewN ?_ _ | refine blk_drew ?_ | refine blk_alloc ?_ _)); exact BK115.out⟩, ⟨by repeat (first | (with_reducible first | exact HB.out | apply below_alloc | apply pw_below_drewN | apply below_drew1 | refine below_set ?_ GE113.out | refine below_set ?_ GE114.out | refine below_set ?_ GE115.out | refine below_set ?_ GE120.out) | exact HB.out)⟩⟩
                · rw [if_neg c55] at H
                  have c55b0 : (((rd_T81 l0_4 x9_1).f0) == a1) = false := beq_eq_false_iff_ne.mpr c55
                  have c55b1 : (((rd_T81 l0_4 x9_1).f0) != a1) = true := bne_iff_ne.mpr c55
                  by_cases c60 : x116004_1.length < 8796093022208
                  · rw [if_pos c60] at H
                    have LMc60 := Aside0.mk c60
                    clear c60
                    obtain ⟨y127, hy127⟩ : ∃ y_ : List (S81), y_ = (x116004_1 ++ [(⟨((rd_T81 l0_4 x9_1).f0), ((rd_T81 l0_4 x9_1).f1)⟩ : S81)]) := ⟨_, rfl⟩
                    replace H : (ontimeref31_State_Put.l0 kj13 a1 a2 x8_1 (wrap64 (x9_1 + 1)) a0_0 a0_1 a0_2 a0_3 l0_4 a0_0 a0_1 a0_2 false y127) = some (r1, r2, r3, r4, r5) := by first | (rw [hy127]; with_reducible exact H) | (have H2_ := (Option.bind_some _ _).symm.trans H; rw [hy127]; with_reducible exact H2_) | (have H2_ := (Option.bind_some _ _).symm.trans H; with_reducible exact H2_) | with_reducible exact H | (rw [hy127]; exact H) | exact H
                    have Ny127 := Aside0.mk hy127
                    clear hy127
                    have H' := Aside0.mk H
                    clear H
                    have hnb61 := NB120_113.out
                    have hnc61 := NB113_120.out
                    have hnb62 := NB120_114.out
                    have hnc62 := NB114_120.out
                    have hnb63 := NB120_115.out
                    have hnc63 := NB115_120.out
                    have hcz64_0 : wc.cell? ⟨gb120, 0, none⟩ = some (.int .i64 ((rd_T81 l0_4 x9_1).f0)) := (blk_cell BK120.out 0).trans rfl
                    have hcz64_1 : wc.cell? ⟨gb120, 1, none⟩ = some (.int .i64 ((rd_T81 l0_4 x9_1).f1)) := (blk_cell BK120.out 1).trans rfl
                    have hfz64_0 := blk_frozen BK120.out 0
                    have hfz64_1 := blk_frozen BK120.out 1
                    have hnb65 := NB115_113.out
                    have hnc65 := NB113_115.out
                    have hnb66 := NB115_114.out
                    have hnc66 := NB114_115.out
                    have hcz67_0 : wc.cell? ⟨gb115, 0, none⟩ = some (.int .i64 a0_0) := (blk_cell BK115.out 0).trans rfl
                    have hcz67_1 : wc.cell? ⟨gb115, 1, none⟩ = some (.int .i64 a0_1) := (blk_cell BK115.out 1).trans rfl
                    have hcz67_2 : wc.cell? ⟨gb115, 2, none⟩ = some (.int .i64 a0_2) := (blk_cell BK115.out 2).trans rfl
                    have hcz67_3 : wc.cell? ⟨gb115, 3, none⟩ = some (.bool false) := (blk_cell BK115.out 3).trans rfl
                    have hcz67_4 : wc.cell? ⟨gb115, 4, none⟩ = some (u116004) := (blk_cell BK115.out 4).trans rfl
                    have hfz67_0 := blk_frozen BK115.out 0
                    have hfz67_1 := blk_frozen BK115.out 1
                    have hfz67_2 := blk_frozen BK115.out 2
                    have hfz67_3 := blk_frozen BK115.out 3
                    have hfz67_4 := blk_frozen BK115.out 4
                    go_wp2_with (first | ((with_reducible refine gate_builtin (b := .append) (xs := #[.tmp 47, .tmp 49]) rfl ?_); at_builtin; refine Kd.R_append k81 (w0 := w) w.heap.size rfl (.tmp 47) (.tmp 49) 32 81 (.agg #[(.int .i64 0), (.int .i64 0)]) 16 rfl Try.underlying32 info81 rfl (by decide) (by omega) u116004 x116004_1 (⟨((rd_T81 l0_4 x9_1).f0), ((rd_T81 l0_4 x9_1).f1)⟩ : S81) [.int .i64 ((rd_T81 l0_4 x9_1).f0), .int .i64 ((rd_T81 l0_4 x9_1).f1)] (fun k_ => k_ ≠ gb120) (fun _ => False) rfl rfl ?aP (fun _ hk => hk.elim) ?aF ?aO ?aB ?aS ?aL ?_; (case aP => exact k81_mkM _ _ _ (⟨((rd_T81 l0_4 x9_1).f0), ((rd_T81 l0_4 x9_1).f1)⟩ : S81)); (case aB => exact (by repeat (first | (with_reducible first | exact HB.out | apply below_alloc | apply pw_below_drewN | apply below_drew1 | refine below_set ?_ GE113.out | refine below_set ?_ GE114.out | refine below_set ?_ GE115.out | refine below_set ?_ GE120.out) | exact HB.out))); (case aF => exact (fun k_ hk => Kd.freshB (g := gb120) (o := .cells #[.int .i64 ((rd_T81 l0_4 x9_1).f0), .int .i64 ((rd_T81 l0_4 x9_1).f1)] 81 (0, 0)) (by (with_reducible repeat (first | refine blk_drewN ?_ _ | refine blk_drew ?_ | refine blk_alloc ?_ _)); exact BK120.out) k_ hk)); (case aO => exact (by (with_reducible repeat (first | apply Kd.R_alloc | apply Kd.R_drewN | apply Kd.R_drew)); exact HO_116004.out)); (case aS => exact (below_size (by repeat (first | (with_reducible first | exact HB.out | apply below_alloc | apply pw_below_drewN | apply below_drew1 | refine below_set ?_ GE113.out | refine below_set ?_ GE114.out | refine below_set ?_ GE115.out | refine below_set ?_ GE120.out) | exact HB.out)))); (case aL => have := LMc60.out; omega); intro v128 w68 ho hb hg hat; rw [← Ny127.out] at ho; have n0_ := Aside0.mk (blk_grown (g := gb113) (o := .cells #[.int .i64 a0_0, .int .i64 a0_1, .int .i64 a0_2, .bool a0_3, .slice (some ad119) l0_4.length c0_4] 34 (0, 0)) (by (with_reducible repeat (first | refine blk_drewN ?_ _ | refine blk_drew ?_ | refine blk_alloc ?_ _)); exact BK113.out) hg (Kd.R_ne HO_116004.out BK113.out (by decide))); have n1_ := Aside0.mk (blk_grown (g := gb114) (o := .cells #[.int .i64 0, .int .i64 0, .int .i64 0, .bool false, .slice none 0 0] 34 (0, 0)) (by (with_reducible repeat (first | refine blk_drewN ?_ _ | refine blk_drew ?_ | refine blk_alloc ?_ _)); exact BK114.out) hg (Kd.R_ne HO_116004.out BK114.out (by decide))); have n2_ := Aside0.mk (blk_grown (g := gb115) (o := .cells #[.int .i64 a0_0, .int .i64 a0_1, .int .i64 a0_2, .bool false, u116004] 34 (0, 0)) (by (with_reducible repeat (first | refine blk_drewN ?_ _ | refine blk_drew ?_ | refine blk_alloc ?_ _)); exact BK115.out) hg (Kd.R_ne HO_116004.out BK115.out (by decide))); have n3_ := Aside0.mk (blk_grown (g := gb120) (o := .cells #[.int .i64 ((rd_T81 l0_4 x9_1).f0), .int .i64 ((rd_T81 l0_4 x9_1).f1)] 81 (0, 0)) (by (with_reducible repeat (first | refine blk_drewN ?_ _ | refine blk_drew ?_ | refine blk_alloc ?_ _)); exact BK120.out) hg (Kd.R_away HO_116004.out (fun _ hk => hk))); have n4_ := Aside0.mk (hb); have n5_ := Aside0.mk (ho); clear BK113; clear BK114; clear BK115; clear BK120; clear HB; clear HO_116004; have BK113 := n0_; have BK114 := n1_; have BK115 := n2_; have BK120 := n3_; have HB := n4_; have HO129 := n5_; clear n0_ n1_ n2_ n3_ n4_ n5_; clear ho hb hg hat; obtain ⟨Ao69, co69, eo69⟩ := Kd.R_slice HO129.out; subst eo69; have hcz70_0 : w68.cell? ⟨gb115, 0, none⟩ = some (.int .i64 a0_0) := (blk_cell BK115.out 0).trans rfl; have hcz70_1 : w68.cell? ⟨gb115, 1, none⟩ = some (.int .i64 a0_1) := (blk_cell BK115.out 1).trans rfl; have hcz70_2 : w68.cell? ⟨gb115, 2, none⟩ = some (.int .i64 a0_2) := (blk_cell BK115.out 2).trans rfl; have hcz70_3 : w68.cell? ⟨gb115, 3, none⟩ = some (.bool false) := (blk_cell BK115.out 3).trans rfl; have hcz70_4 : w68.cell? ⟨gb115, 4, none⟩ = some (u116004) := (blk_cell BK115.out 4).trans rfl; have hfz70_0 := blk_frozen BK115.out 0; have hfz70_1 := blk_frozen BK115.out 1; have hfz70_2 := blk_frozen BK115.out 2; have hfz70_3 := blk_frozen BK115.out 3; have hfz70_4 := blk_frozen BK115.out 4))
                    go_roundg kj13
                    case measure => have := HK1.out; have := HJ13.out; omega
                    case rel => exact ⟨(x8_1), (wrap64 (x9_1 + 1)), (y127), (.slice Ao69 y127.length co69), (by first | rfl | (simp; done) | (simp [*]; done)), (by first | rfl | (simp; done) | (simp [*]; done)), H', ⟨by have := HK1.out; have := HJ13.out; omega⟩, ⟨by (with_reducible repeat (first | apply Kd.R_alloc | apply Kd.R_drewN | apply Kd.R_drew)); exact Kd.R_mono (Kd.R_far (p := ⟨gb115, 4, none⟩) (Kd.R_types HO129.out BK115.out (by decide)) (fun _ hk => hk.2) (.slice Ao69 y127.length co69)) (fun _ hk => trivial)⟩, ⟨by (with_reducible repeat (first | refine blk_drewN ?_ _ | refine blk_drew ?_ | refine blk_alloc ?_ _)); refine blk_far ?_ NB113_115.out _; (with_reducible repeat (first | refine blk_drewN ?_ _ | refine blk_drew ?_ | refine blk_alloc ?_ _)); exact BK113.out⟩, ⟨by (with_reducible repeat (first | refine blk_drewN ?_ _ | refine blk_drew ?_ | refine blk_alloc ?_ _)); refine blk_far ?_ NB114_115.out _; (with_reducible repeat (first | refine blk_drewN ?_ _ | refine blk_drew ?_ | refine blk_alloc ?_ _)); exact BK114.out⟩, ⟨by (with_reducible repeat (first | refine blk_drewN ?_ _ | refine blk_drew ?_ | refine blk_alloc ?_ _)); refine blk_put (cs := #[.int .i64 a0_0, .int .i64 a0_1, .int .i64 a0_2, .bool false, u116004]) ?_ 4 _ rfl; (with_reducible repeat (first | refine blk_drewN ?_ _ | refine blk_drew ?_ | refine blk_alloc ?_ _)); exact BK115.out⟩, ⟨by repeat (first | (with_reducible first | exact HB.out | apply below_alloc | apply pw_below_drewN | apply below_drew1 | refine below_set ?_ GE113.out | refine below_set ?_ GE114.out | refine below_set ?_ GE115.out | refine below_set ?_ GE120.out) | exact HB.out)⟩⟩
                  · rw [if_neg c60] at H
                    exact absurd H (by simp)
        · rw [if_neg c13] at H
          exact absurd H (by simp)
      · rw [if_neg c12] at H
        have c12b0 : decide (x9_1 < (l0_4.length : Int)) = false := decide_eq_false c12
        clear c12
        by_cases c71 : x8_1 = true
        · subst c71
          have H1 : (some (a0_0, a0_1, a0_2, false, x116004_1)) = some (r1, r2, r3, r4, r5) := by rw [if_pos rfl] at H; exact H
          clear H
          have H := H1
          clear H1
          simp only [Option.some.injEq, Prod.mk.injEq] at H
          obtain ⟨rfl, rfl, rfl, rfl, rfl⟩ := H
          have hnb72 := NB113_114.out
          have hnc72 := NB114_113.out
          have hnb73 := NB113_115.out
          have hnc73 := NB115_113.out
          have hcz74_0 : wr.cell? ⟨gb113, 0, none⟩ = some (.int .i64 a0_0) := (blk_cell BK113.out 0).trans rfl
          have hcz74_1 : wr.cell? ⟨gb113, 1, none⟩ = some (.int .i64 a0_1) := (blk_cell BK113.out 1).trans rfl
          have hcz74_2 : wr.cell? ⟨gb113, 2, none⟩ = some (.int .i64 a0_2) := (blk_cell BK113.out 2).trans rfl
          have hcz74_3 : wr.cell? ⟨gb113, 3, none⟩ = some (.bool a0_3) := (blk_cell BK113.out 3).trans rfl
          have hcz74_4 : wr.cell? ⟨gb113, 4, none⟩ = some (.slice A0_4 l0_4.length c0_4) := (blk_cell BK113.out 4).trans rfl
          have hfz74_0 := blk_frozen BK113.out 0
          have hfz74_1 := blk_frozen BK113.out 1
          have hfz74_2 := blk_frozen BK113.out 2
          have hfz74_3 := blk_frozen BK113.out 3
          have hfz74_4 := blk_frozen BK113.out 4
          have hnb75 := NB115_114.out
          have hnc75 := NB114_115.out
          have hcz76_0 : wr.cell? ⟨gb115, 0, none⟩ = some (.int .i64 a0_0) := (blk_cell BK115.out 0).trans rfl
          have hcz76_1 : wr.cell? ⟨gb115, 1, none⟩ = some (.int .i64 a0_1) := (blk_cell BK115.out 1).trans rfl
          have hcz76_2 : wr.cell? ⟨gb115, 2, none⟩ = some (.int .i64 a0_2) := (blk_cell BK115.out 2).trans rfl
          have hcz76_3 : wr.cell? ⟨gb115, 3, none⟩ = some (.bool false) := (blk_cell BK115.out 3).trans rfl
          have hcz76_4 : wr.cell? ⟨gb115, 4, none⟩ = some (u116004) := (blk_cell BK115.out 4).trans rfl
          have hfz76_0 := blk_frozen BK115.out 0
          have hfz76_1 := blk_frozen BK115.out 1
          have hfz76_2 := blk_frozen BK115.out 2
          have hfz76_3 := blk_frozen BK115.out 3
          have hfz76_4 := blk_frozen BK115.out 4
          have hcz77_0 : wr.cell? ⟨gb114, 0, none⟩ = some (.int .i64 0) := (blk_cell BK114.out 0).trans rfl
          have hcz77_1 : wr.cell? ⟨gb114, 1, none⟩ = some (.int .i64 0) := (blk_cell BK114.out 1).trans rfl
          have hcz77_2 : wr.cell? ⟨gb114, 2, none⟩ = some (.int .i64 0) := (blk_cell BK114.out 2).trans rfl
          have hcz77_3 : wr.cell? ⟨gb114, 3, none⟩ = some (.bool false) := (blk_cell BK114.out 3).trans rfl
          have hcz77_4 : wr.cell? ⟨gb114, 4, none⟩ = some (.slice none 0 0) := (blk_cell BK114.out 4).trans rfl
          have hfz77_0 := blk_frozen BK114.out 0
          have hfz77_1 := blk_frozen BK114.out 1
          have hfz77_2 := blk_frozen BK114.out 2
          have hfz77_3 := blk_frozen BK114.out 3
          have hfz77_4 := blk_frozen BK114.out 4
          obtain ⟨Ao78, co78, eo78⟩ := Kd.R_slice HO_116004.out
          subst eo78
          go_wp2
          refine bodyPost_ret (results_cell_row rfl _ _ gb114 34 #[.int .i64 a0_0, .int .i64 a0_1, .int .i64 a0_2, .bool false, .slice Ao78 x116004_1.length co78] (0, 0) _ rfl (by (with_reducible repeat (first | refine blk_drewN ?_ _ | refine blk_drew ?_ | refine blk_alloc ?_ _)); refine blk_put (cs := #[.int .i64 a0_0, .int .i64 a0_1, .int .i64 a0_2, .bool false, .slice none 0 0]) ?_ 4 _ rfl; (with_reducible repeat (first | refine blk_drewN ?_ _ | refine blk_drew ?_ | refine blk_alloc ?_ _)); refine blk_put (cs := #[.int .i64 a0_0, .int .i64 a0_1, .int .i64 a0_2, .bool false, .slice none 0 0]) ?_ 3 _ rfl; (with_reducible repeat (first | refine blk_drewN ?_ _ | refine blk_drew ?_ | refine blk_alloc ?_ _)); refine blk_put (cs := #[.int .i64 a0_0, .int .i64 a0_1, .int .i64 0, .bool false, .slice none 0 0]) ?_ 2 _ rfl; (with_reducible repeat (first | refine blk_drewN ?_ _ | refine blk_drew ?_ | refine blk_alloc ?_ _)); refine blk_put (cs := #[.int .i64 a0_0, .int .i64 0, .int .i64 0, .bool false, .slice none 0 0]) ?_ 1 _ rfl; (with_reducible repeat (first | refine blk_drewN ?_ _ | refine blk_drew ?_ | refine blk_alloc ?_ _)); refine blk_put (cs := #[.int .i64 0, .int .i64 0, .int .i64 0, .bool false, .slice none 0 0]) ?_ 0 _ rfl; (with_reducible repeat (first | refine blk_drewN ?_ _ | refine blk_drew ?_ | refine blk_alloc ?_ _)); exact BK114.out) Try.underlying34 rfl (by kernel_rfl)) rfl ?_
          exact ⟨_, by first | rfl | (simp [errW_none, errW_some] <;> rfl) | (simp [*, errW_none, errW_some] <;> rfl), by (with_reducible repeat (first | apply Kd.R_alloc | apply Kd.R_drewN | apply Kd.R_drew)); exact Kd.R_mono (Kd.R_far (p := ⟨gb114, 4, none⟩) (Kd.R_far (p := ⟨gb114, 3, none⟩) (Kd.R_far (p := ⟨gb114, 2, none⟩) (Kd.R_far (p := ⟨gb114, 1, none⟩) (Kd.R_far (p := ⟨gb114, 0, none⟩) (Kd.R_types HO_116004.out BK114.out (by decide)) (fun _ hk => hk.2) (.int .i64 a0_0)) (fun _ hk => hk.2) (.int .i64 a0_1)) (fun _ hk => hk.2) (.int .i64 a0_2)) (fun _ hk => hk.2) (.bool false)) (fun _ hk => hk.2) (.slice Ao78 x116004_1.length co78)) (fun _ hk => trivial), by repeat (first | (with_reducible first | exact HB.out | apply below_alloc | apply pw_below_drewN | apply below_drew1 | refine below_set ?_ GE113.out | refine below_set ?_ GE114.out | refine below_set ?_ GE115.out) | exact HB.out)⟩
        · replace c71 := Bool.eq_false_iff.mpr c71
          subst c71
          have H1 : (if x116004_1.length < 8796093022208 then (some (a0_0, a0_1, a0_2, false, (x116004_1 ++ [(⟨a1, a2⟩ : S81)]))) else (none)) = some (r1, r2, r3, r4, r5) := by rw [if_neg (show ¬ (false = true) by decide)] at H; exact H
          clear H
          have H := H1
          clear H1
          by_cases c79 : x116004_1.length < 8796093022208
          · rw [if_pos c79] at H
            have LMc79 := Aside0.mk c79
            clear c79
            obtain ⟨y116, hy116⟩ : ∃ y_ : List (S81), y_ = (x116004_1 ++ [(⟨a1, a2⟩ : S81)]) := ⟨_, rfl⟩
            replace H : (some (a0_0, a0_1, a0_2, false, y116)) = some (r1, r2, r3, r4, r5) := by first | (rw [hy116]; with_reducible exact H) | (have H2_ := (Option.bind_some _ _).symm.trans H; rw [hy116]; with_reducible exact H2_) | (have H2_ := (Option.bind_some _ _).symm.trans H; with_reducible exact H2_) | with_reducible exact H | (rw [hy116]; exact H) | exact H
            have Ny116 := Aside0.mk hy116
            clear hy116
            simp only [Option.some.injEq, Prod.mk.injEq] at H
            obtain ⟨rfl, rfl, rfl, rfl, rfl⟩ := H
            have hnb80 := NB113_114.out
            have hnc80 := NB114_113.out
            have hnb81 := NB113_115.out
            have hnc81 := NB115_113.out
            have hcz82_0 : wr.cell? ⟨gb113, 0, none⟩ = some (.int .i64 a0_0) := (blk_cell BK113.out 0).trans rfl
            have hcz82_1 : wr.cell? ⟨gb113, 1, none⟩ = some (.int .i64 a0_1) := (blk_cell BK113.out 1).trans rfl
            have hcz82_2 : wr.cell? ⟨gb113, 2, none⟩ = some (.int .i64 a0_2) := (blk_cell BK113.out 2).trans rfl
            have hcz82_3 : wr.cell? ⟨gb113, 3, none⟩ = some (.bool a0_3) := (blk_cell BK113.out 3).trans rfl
            have hcz82_4 : wr.cell? ⟨gb113, 4, none⟩ = some (.slice A0_4 l0_4.length c0_4) := (blk_cell BK113.out 4).trans rfl
            have hfz82_0 := blk_frozen BK113.out 0
            have hfz82_1 := blk_frozen BK113.out 1
            have hfz82_2 := blk_frozen BK113.out 2
            have hfz82_3 := blk_frozen BK113.out 3
            have hfz82_4 := blk_frozen BK113.out 4
            have hnb83 := NB115_114.out
            have hnc83 := NB114_115.out
            have hcz84_0 : wr.cell? ⟨gb115, 0, none⟩ = some (.int .i64 a0_0) := (blk_cell BK115.out 0).trans rfl
            have hcz84_1 : wr.cell? ⟨gb115, 1, none⟩ = some (.int .i64 a0_1) := (blk_cell BK115.out 1).trans rfl
            have hcz84_2 : wr.cell? ⟨gb115, 2, none⟩ = some (.int .i64 a0_2) := (blk_cell BK115.out 2).trans rfl
            have hcz84_3 : wr.cell? ⟨gb115, 3, none⟩ = some (.bool false) := (blk_cell BK115.out 3).trans rfl
            have hcz84_4 : wr.cell? ⟨gb115, 4, none⟩ = some (u116004) := (blk_cell BK115.out 4).trans rfl
            have hfz84_0 := blk_frozen BK115.out 0
            have hfz84_1 := blk_frozen BK115.out 1
            have hfz84_2 := blk_frozen BK115.out 2
            have hfz84_3 := blk_frozen BK115.out 3
            have hfz84_4 := blk_frozen BK115.out 4
            go_wp2_with (first | ((with_reducible refine gate_builtin (b := .append) (xs := #[.tmp 55, .tmp 59]) rfl ?_); at_builtin; refine Kd.R_append k81 (w0 := w) w.heap.size rfl (.tmp 55) (.tmp 59) 32 81 (.agg #[(.int .i64 0), (.int .i64 0)]) 16 rfl Try.underlying32 info81 rfl (by decide) (by omega) u116004 x116004_1 (⟨a1, a2⟩ : S81) [.int .i64 a1, .int .i64 a2] (fun _ => True) (fun _ => False) rfl rfl ?aP (fun _ hk => hk.elim) ?aF ?aO ?aB ?aS ?aL ?_; (case aP => exact k81_mkM _ _ _ (⟨a1, a2⟩ : S81)); (case aB => exact (by repeat (first | (with_reducible first | exact HB.out | apply below_alloc | apply pw_below_drewN | apply below_drew1 | refine below_set ?_ GE113.out | refine below_set ?_ GE114.out | refine below_set ?_ GE115.out) | exact HB.out))); (case aF => exact (fun _ _ => trivial)); (case aO => exact (by (with_reducible repeat (first | apply Kd.R_alloc | apply Kd.R_drewN | apply Kd.R_drew)); exact HO_116004.out)); (case aS => exact (below_size (by repeat (first | (with_reducible first | exact HB.out | apply below_alloc | apply pw_below_drewN | apply below_drew1 | refine below_set ?_ GE113.out | refine below_set ?_ GE114.out | refine below_set ?_ GE115.out) | exact HB.out)))); (case aL => have := LMc79.out; omega); intro v117 w85 ho hb hg hat; rw [← Ny116.out] at ho; have n0_ := Aside0.mk (blk_grown (g := gb113) (o := .cells #[.int .i64 a0_0, .int .i64 a0_1, .int .i64 a0_2, .bool a0_3, .slice A0_4 l0_4.length c0_4] 34 (0, 0)) (by (with_reducible repeat (first | refine blk_drewN ?_ _ | refine blk_drew ?_ | refine blk_alloc ?_ _)); exact BK113.out) hg (Kd.R_ne HO_116004.out BK113.out (by decide))); have n1_ := Aside0.mk (blk_grown (g := gb114) (o := .cells #[.int .i64 0, .int .i64 0, .int .i64 0, .bool false, .slice none 0 0] 34 (0, 0)) (by (with_reducible repeat (first | refine blk_drewN ?_ _ | refine blk_drew ?_ | refine blk_alloc ?_ _)); exact BK114.out) hg (Kd.R_ne HO_116004.out BK114.out (by decide))); have n2_ := Aside0.mk (blk_grown (g := gb115) (o := .cells #[.int .i64 a0_0, .int .i64 a0_1, .int .i64 a0_2, .bool false, u116004] 34 (0, 0)) (by (with_reducible repeat (first | refine blk_drewN ?_ _ | refine blk_drew ?_ | refine blk_alloc ?_ _)); exact BK115.out) hg (Kd.R_ne HO_116004.out BK115.out (by decide))); have n3_ := Aside0.mk (hb); have n4_ := Aside0.mk (ho); clear BK113; clear BK114; clear BK115; clear HB; clear HO_116004; have BK113 := n0_; have BK114 := n1_; have BK115 := n2_; have HB := n3_; have HO118 := n4_; clear n0_ n1_ n2_ n3_ n4_; clear ho hb hg hat; obtain ⟨Ao86, co86, eo86⟩ := Kd.R_slice HO118.out; subst eo86; have hcz87_0 : w85.cell? ⟨gb115, 0, none⟩ = some (.int .i64 a0_0) := (blk_cell BK115.out 0).trans rfl; have hcz87_1 : w85.cell? ⟨gb115, 1, none⟩ = some (.int .i64 a0_1) := (blk_cell BK115.out 1).trans rfl; have hcz87_2 : w85.cell? ⟨gb115, 2, none⟩ = some (.int .i64 a0_2) := (blk_cell BK115.out 2).trans rfl; have hcz87_3 : w85.cell? ⟨gb115, 3, none⟩ = some (.bool false) := (blk_cell BK115.out 3).trans rfl; have hcz87_4 : w85.cell? ⟨gb115, 4, none⟩ = some (u116004) := (blk_cell BK115.out 4).trans rfl; have hfz87_0 := blk_frozen BK115.out 0; have hfz87_1 := blk_frozen BK115.out 1; have hfz87_2 := blk_frozen BK115.out 2; have hfz87_3 := blk_frozen BK115.out 3; have hfz87_4 := blk_frozen BK115.out 4; have hcz88_0 : w85.cell? ⟨gb114, 0, none⟩ = some (.int .i64 0) := (blk_cell BK114.out 0).trans rfl; have hcz88_1 : w85.cell? ⟨gb114, 1, none⟩ = some (.int .i64 0) := (blk_cell BK114.out 1).trans rfl; have hcz88_2 : w85.cell? ⟨gb114, 2, none⟩ = some (.int .i64 0) := (blk_cell BK114.out 2).trans rfl; have hcz88_3 : w85.cell? ⟨gb114, 3, none⟩ = some (.bool false) := (blk_cell BK114.out 3).trans rfl; have hcz88_4 : w85.cell? ⟨gb114, 4, none⟩ = some (.slice none 0 0) := (blk_cell BK114.out 4).trans rfl; have hfz88_0 := blk_frozen BK114.out 0; have hfz88_1 := blk_frozen BK114.out 1; have hfz88_2 := blk_frozen BK114.out 2; have hfz88_3 := blk_frozen BK114.out 3; have hfz88_4 := blk_frozen BK114.out 4))
            refine bodyPost_ret (results_cell_row rfl _ _ gb114 34 #[.int .i64 a0_0, .int .i64 a0_1, .int .i64 a0_2, .bool false, .slice Ao86 y116.length co86] (0, 0) _ rfl (by (with_reducible repeat (first | refine blk_drewN ?_ _ | refine blk_drew ?_ | refine blk_alloc ?_ _)); refine blk_put (cs := #[.int .i64 a0_0, .int .i64 a0_1, .int .i64 a0_2, .bool false, .slice none 0 0]) ?_ 4 _ rfl; (with_reducible repeat (first | refine blk_drewN ?_ _ | refine blk_drew ?_ | refine blk_alloc ?_ _)); refine blk_put (cs := #[.int .i64 a0_0, .int .i64 a0_1, .int .i64 a0_2, .bool false, .slice none 0 0]) ?_ 3 _ rfl; (with_reducible repeat (first | refine blk_drewN ?_ _ | refine blk_drew ?_ | refine blk_alloc ?_ _)); refine blk_put (cs := #[.int .i64 a0_0, .int .i64 a0_1, .int .i64 0, .bool false, .slice none 0 0]) ?_ 2 _ rfl; (with_reducible repeat (first | refine blk_drewN ?_ _ | refine blk_drew ?_ | refine blk_alloc ?_ _)); refine blk_put (cs := #[.int .i64 a0_0, .int .i64 0, .int .i64 0, .bool false, .slice none 0 0]) ?_ 1 _ rfl; (with_reducible repeat (first | refine blk_drewN ?_ _ | refine blk_drew ?_ | refine blk_alloc ?_ _)); refine blk_put (cs := #[.int .i64 0, .int .i64 0, .int .i64 0, .bool false, .slice none 0 0]) ?_ 0 _ rfl; (with_reducible repeat (first | refine blk_drewN ?_ _ | refine blk_drew ?_ | refine blk_alloc ?_ _)); refine blk_far ?_ NB114_115.out _; (with_reducible repeat (first | refine blk_drewN ?_ _ | refine blk_drew ?_ | refine blk_alloc ?_ _)); exact BK114.out) Try.underlying34 rfl (by kernel_rfl)) rfl ?_
            exact ⟨_, by first | rfl | (simp [errW_none, errW_some] <;> rfl) | (simp [*, errW_none, errW_some] <;> rfl), by (with_reducible repeat (first | apply Kd.R_alloc | apply Kd.R_drewN | apply Kd.R_drew)); exact Kd.R_mono (Kd.R_far (p := ⟨gb114, 4, none⟩) (Kd.R_far (p := ⟨gb114, 3, none⟩) (Kd.R_far (p := ⟨gb114, 2, none⟩) (Kd.R_far (p := ⟨gb114, 1, none⟩) (Kd.R_far (p := ⟨gb114, 0, none⟩) (Kd.R_far (p := ⟨gb115, 4, none⟩) (Kd.R_types (Kd.R_types HO118.out BK115.out (by decide)) BK114.out (by decide)) (fun _ hk => hk.1.2) (.slice Ao86 y116.length co86)) (fun _ hk => hk.2) (.int .i64 a0_0)) (fun _ hk => hk.2) (.int .i64 a0_1)) (fun _ hk => hk.2) (.int .i64 a0_2)) (fun _ hk => hk.2) (.bool false)) (fun _ hk => hk.2) (.slice Ao86 y116.length co86)) (fun _ hk => trivial), by repeat (first | (with_reducible first | exact HB.out | apply below_alloc | apply pw_below_drewN | apply below_drew1 | refine below_set ?_ GE113.out | refine below_set ?_ GE114.out | refine below_set ?_ GE115.out) | exact HB.out)⟩
          · rw [if_neg c79] at H
            exact absurd H (by simp)

end Go.Proofs.Ytjckghdgogkeaaa.PMayDescribes
