/- The walk of ontimelaw31.MaySteps. -/
import Derived.Test.YtjckghdgogkeaaaSame
import Derived.Deep.RegionHeld3
import Derived.Deep.DeepCutAuto
import Derived.Deep.CutRange
import Derived.Deep.DrawnRows
namespace Go.Proofs.Ytjckghdgogkeaaa
open Go.RowKit Go.Maps Go.Proofs.YtjckghdgogkeaaaW.PrintWords Go.Proofs.Ytjckghdgogkeaaa.PMayDescribes
set_option linter.unusedVariables false
attribute [local go_sem ↓] Go.wp_at_zero Go.wp_at_succ

theorem Blk.far5s {w : World} {B g : Nat} {o : Obj} {a b c d e : Value} (hne : B ≠ g) (h : Blk w B o) : Blk (((((w.setCell ⟨g, 0, none⟩ a).setCell ⟨g, 1, none⟩ b).setCell ⟨g, 2, none⟩ c).setCell ⟨g, 3, none⟩ d).setCell ⟨g, 4, none⟩ e) B o :=
  Blk.set1 hne (Blk.set1 hne (Blk.set1 hne (Blk.set1 hne (Blk.set1 hne h))))
theorem Ext.set5 {w0 w : World} {g : Nat} {a b c d e : Value} (hg : w0.heap.size ≤ g) (h : Ext w0 w) : Ext w0 (((((w.setCell ⟨g, 0, none⟩ a).setCell ⟨g, 1, none⟩ b).setCell ⟨g, 2, none⟩ c).setCell ⟨g, 3, none⟩ d).setCell ⟨g, 4, none⟩ e) :=
  Ext.set1 hg (Ext.set1 hg (Ext.set1 hg (Ext.set1 hg (Ext.set1 hg h))))
theorem StB.set5 {w : World} {W : Int} {n g : Nat} {st : St} {u : Bool} {p : Option Nat} {a b c d e : Value} (h : StB w W n st u p) : StB (((((w.setCell ⟨g, 0, none⟩ a).setCell ⟨g, 1, none⟩ b).setCell ⟨g, 2, none⟩ c).setCell ⟨g, 3, none⟩ d).setCell ⟨g, 4, none⟩ e) W n st u p :=
  h.set.set.set.set.set
theorem C_take {w : World} {A : Option Addr} {n k : Nat} {xs : List S45} (h : k45.C w A n xs) (hk : k ≤ n) : k45.C w A k (xs.take k) := by
  have hl := h.1
  refine ⟨by rw [List.length_take]; omega, Nat.le_trans hk h.2.1, fun hp => ?_⟩
  obtain ⟨ad, ha, hc⟩ := h.2.2 (by omega)
  refine ⟨ad, ha, fun j p hj => hc j p ?_⟩
  rw [List.getElem?_take] at hj
  split at hj
  · exact hj
  · cases hj

theorem Blk.new1 {w : World} {B : Nat} {o o' : Obj} (hB : B = w.heap.size + 1) : Blk ((w.alloc o').alloc o) B o := Blk.new (by rw [hB, World.size_alloc])
theorem Blk.drew {w : World} {B : Nat} {o : Obj} (h : Blk w B o) : Blk w.drew B o := h
theorem StB.drew {w : World} {W : Int} {n : Nat} {st : St} {u : Bool} {p : Option Nat} (h : StB w W n st u p) : StB w.drew W n st u p := h.ext (Ext.drew (Ext.refl _))
/-- after, at the first steps of a slice. -/
theorem after_take {S W L : Int} (g : Geo S W L) (A : Option Addr) (c j : Nat) (l : List S45) (w : World) (hr : k45.C w A l.length l) (hj : j < l.length) (hl : l.length ≤ 100) (hb : ∀ x ∈ l, -4000 ≤ x.f0 ∧ x.f0 ≤ 4000 ∧ -4000 ≤ x.f1 ∧ x.f1 ≤ 4000) :
    Calls Try.prog 13 #[.agg #[.int .i64 S, .int .i64 W, .int .i64 L], .slice A (j + 1) c] w fun e w' => ∃ u p A' c', e = .returned (.tuple #[.agg #[.int .i64 S, .int .i64 W, .int .i64 L, .bool u, .map p], .agg #[.int .i64 S, .int .i64 W, .int .i64 L, .bool (rSteps S W (false, []) (l.take (j + 1))).1, .slice A' (rSteps S W (false, []) (l.take (j + 1))).2.length c']]) ∧
      StB w' W (64 * (j + 1)) (sSteps S W (some noF) (l.take (j + 1))) u p ∧ RfB w' w.heap.size (.slice A' (rSteps S W (false, []) (l.take (j + 1))).2.length c') (rSteps S W (false, []) (l.take (j + 1))).2 ∧ Ext w w' := by
  have hlen : (l.take (j + 1)).length = j + 1 := by rw [List.length_take]; omega
  have hr' := C_take hr (k := j + 1) (by omega)
  have hr2 : k45.C w A (l.take (j + 1)).length (l.take (j + 1)) := by rw [hlen]; exact hr'
  have := after_st g A c (l.take (j + 1)) w hr2 (by omega) fun x hx => hb x (List.mem_of_mem_take hx)
  rw [hlen] at this
  refine this.mono ?_
  rintro e w' ⟨u, p, v, he, h1, h2, h3⟩
  obtain ⟨A', c', rfl⟩ := Kd.R_slice h2
  exact ⟨u, p, A', c', he, h1, h2, h3⟩

set_option maxHeartbeats 1000000 in
theorem steps_invalid (S W L : Int) (A : Option Addr) (c : Nat) (l : List S45) (w : World) (hv : vldB S W L = false) :
    Calls Try.prog 8 #[.agg #[.int .i64 S, .int .i64 W, .int .i64 L], .slice A l.length c] w fun e w' => e = .returned (.bool true) ∧ Ext w w' := by
  have HV := Lib.hid hv; clear hv
  go_enter Try.func8, Try.ntmps8
  go_wp2_with (first
    | (go_at_call 14; refine Calls.mono (may_unknown_no HV.out _) ?_; rintro e w4 ⟨rfl, hb4⟩)
    | (go_at_call 21; refine Calls.mono (may_new_no HV.out _) ?_; rintro e w3 ⟨rfl, hb3⟩; obtain ⟨i0, i1, i2⟩ := Blk.c3 (w := w3) (B := w.heap.size) (by repeat (first | (with_reducible assumption) | ((with_reducible refine Blk.new ?_); (first | (focus rfl) | (focus (simp; done)) | (focus omega))) | ((with_reducible refine Blk.set1 ?_ ?_); (focus omega)) | (with_reducible refine Blk.alloc ?_) | (refine Blk.ext ?_ (by with_reducible assumption)))); have q3 : w.heap.size < w3.heap.size := (by have := hb3.size; have := hb2.size; have := hb1.size; simp at this; omega))
    | (go_at_call 30; refine Calls.mono (valid_no HV.out _) ?_; rintro e w2 ⟨rfl, hb2⟩; obtain ⟨d0, d1, d2⟩ := Blk.c3 (w := w2) (B := w.heap.size) (by repeat (first | (with_reducible assumption) | ((with_reducible refine Blk.new ?_); (first | (focus rfl) | (focus (simp; done)) | (focus omega))) | ((with_reducible refine Blk.set1 ?_ ?_); (focus omega)) | (with_reducible refine Blk.alloc ?_) | (refine Blk.ext ?_ (by with_reducible assumption)))))
    | (go_at_call 11; refine Calls.mono (awake_yes _) ?_; rintro e w1 ⟨rfl, hb1⟩; obtain ⟨a0, a1, a2⟩ := Blk.c3 (w := w1) (B := w.heap.size) (by repeat (first | (with_reducible assumption) | ((with_reducible refine Blk.new ?_); (first | (focus rfl) | (focus (simp; done)) | (focus omega))) | ((with_reducible refine Blk.set1 ?_ ?_); (focus omega)) | (with_reducible refine Blk.alloc ?_) | (refine Blk.ext ?_ (by with_reducible assumption))))))
  go_ret
  exact ⟨rfl, (by repeat (first | ((with_reducible refine Ext.set1 ?_ ?_); (first | (focus (simp; done)) | (focus (simp; omega)) | (focus omega))) | (with_reducible refine Ext.alloc ?_ _) | (with_reducible exact Ext.refl _) | (refine Ext.trans ?_ (by with_reducible assumption))))⟩

set_option maxHeartbeats 1000000 in
theorem steps_big (S W L : Int) (A : Option Addr) (c : Nat) (l : List S45) (w : World) (hr : k45.C w A l.length l) (hc : l.length ≤ c) (hv : Geo S W L) (hs : smallB S W L l = false) :
    Calls Try.prog 8 #[.agg #[.int .i64 S, .int .i64 W, .int .i64 L], .slice A l.length c] w fun e w' => e = .returned (.bool true) ∧ Ext w w' := by
  have HS := Lib.hid hs; clear hs
  go_enter Try.func8, Try.ntmps8
  go_wp2_with (first
    | (go_at_call 12; refine Calls.mono (small_any S W L A c l _ (C_ext hr (by exact (by repeat (first | ((with_reducible refine Ext.set1 ?_ ?_); (first | (focus (simp; done)) | (focus (simp; omega)) | (focus omega))) | (with_reducible refine Ext.alloc ?_ _) | (with_reducible exact Ext.refl _) | (refine Ext.trans ?_ (by with_reducible assumption)))))) hc) ?_; rintro e w3 ⟨rfl, hb3⟩; rw [HS.out])
    | (go_at_call 30; refine Calls.mono (valid_yes hv _) ?_; rintro e w2 ⟨rfl, hb2⟩; obtain ⟨d0, d1, d2⟩ := Blk.c3 (w := w2) (B := w.heap.size) (by repeat (first | (with_reducible assumption) | ((with_reducible refine Blk.new ?_); (first | (focus rfl) | (focus (simp; done)) | (focus omega))) | ((with_reducible refine Blk.set1 ?_ ?_); (focus omega)) | (with_reducible refine Blk.alloc ?_) | (refine Blk.ext ?_ (by with_reducible assumption)))))
    | (go_at_call 11; refine Calls.mono (awake_yes _) ?_; rintro e w1 ⟨rfl, hb1⟩; obtain ⟨a0, a1, a2⟩ := Blk.c3 (w := w1) (B := w.heap.size) (by repeat (first | (with_reducible assumption) | ((with_reducible refine Blk.new ?_); (first | (focus rfl) | (focus (simp; done)) | (focus omega))) | ((with_reducible refine Blk.set1 ?_ ?_); (focus omega)) | (with_reducible refine Blk.alloc ?_) | (refine Blk.ext ?_ (by with_reducible assumption))))))
  go_ret
  exact ⟨rfl, (by repeat (first | ((with_reducible refine Ext.set1 ?_ ?_); (first | (focus (simp; done)) | (focus (simp; omega)) | (focus omega))) | (with_reducible refine Ext.alloc ?_ _) | (with_reducible exact Ext.refl _) | (refine Ext.trans ?_ (by with_reducible assumption))))⟩

set_option maxHeartbeats 1000000 in
theorem steps_walk (S W L : Int) (A : Option Addr) (c : Nat) (l : List S45) (w : World) (hr : k45.C w A l.length l) (hc : l.length ≤ c) :
    Calls Try.prog 8 #[.agg #[.int .i64 S, .int .i64 W, .int .i64 L], .slice A l.length c] w fun e w' => e = .returned (.bool true) ∧ Ext w w' := by
  cases hv : vldB S W L with
  | false => exact steps_invalid S W L A c l w hv
  | true =>
    cases hs : smallB S W L l with
    | false => exact steps_big S W L A c l w hr hc ((vld_iff _ _ _).1 hv) hs
    | true =>
      have sl := small_is hs
      have HS := Lib.hid hs; clear hs hv
      have g := sl.geo
      have gw := g.w1
      have gs := g.s1
      have hll : l.length ≤ 40 := sl.len
      go_enter Try.func8, Try.ntmps8
      go_wp2_with (first
        | (go_at_call 27; refine Calls.mono (same_yes false none 0 (some noF) (false, []) none 0 _ (StB.nil _ _ _) (by omega) (Rel.start W) (fun _ h => by cases h) (Kd.C_nil _ _) (Nat.le_refl _) (by simp)) ?_; rintro e w5 ⟨rfl, hb5⟩)
        | (go_at_call 21; refine Calls.mono (may_new_yes g _) ?_; rintro e w4 ⟨rfl, hb4⟩; obtain ⟨j0, j1, j2⟩ := Blk.c3 (w := w4) (B := w.heap.size) (by repeat (first | (with_reducible assumption) | ((with_reducible refine Blk.new ?_); (first | (focus rfl) | (focus (simp; done)) | (focus omega))) | ((with_reducible refine Blk.set1 ?_ ?_); (focus omega)) | (with_reducible refine Blk.alloc ?_) | (refine Blk.ext ?_ (by with_reducible assumption)))); have q4 : w.heap.size < w4.heap.size := (by have := hb4.size; have := hb3.size; have := hb2.size; have := hb1.size; simp at this; omega))
        | (go_at_call 12; refine Calls.mono (small_any S W L A c l _ (C_ext hr (by exact (by repeat (first | ((with_reducible refine Ext.set1 ?_ ?_); (first | (focus (simp; done)) | (focus (simp; omega)) | (focus omega))) | (with_reducible refine Ext.alloc ?_ _) | (with_reducible exact Ext.refl _) | (refine Ext.trans ?_ (by with_reducible assumption)))))) hc) ?_; rintro e w3 ⟨rfl, hb3⟩; rw [HS.out]; obtain ⟨i0, i1, i2⟩ := Blk.c3 (w := w3) (B := w.heap.size) (by repeat (first | (with_reducible assumption) | ((with_reducible refine Blk.new ?_); (first | (focus rfl) | (focus (simp; done)) | (focus omega))) | ((with_reducible refine Blk.set1 ?_ ?_); (focus omega)) | (with_reducible refine Blk.alloc ?_) | (refine Blk.ext ?_ (by with_reducible assumption)))))
        | (go_at_call 30; refine Calls.mono (valid_yes g _) ?_; rintro e w2 ⟨rfl, hb2⟩; obtain ⟨d0, d1, d2⟩ := Blk.c3 (w := w2) (B := w.heap.size) (by repeat (first | (with_reducible assumption) | ((with_reducible refine Blk.new ?_); (first | (focus rfl) | (focus (simp; done)) | (focus omega))) | ((with_reducible refine Blk.set1 ?_ ?_); (focus omega)) | (with_reducible refine Blk.alloc ?_) | (refine Blk.ext ?_ (by with_reducible assumption)))))
        | (go_at_call 11; refine Calls.mono (awake_yes _) ?_; rintro e w1 ⟨rfl, hb1⟩; obtain ⟨a0, a1, a2⟩ := Blk.c3 (w := w1) (B := w.heap.size) (by repeat (first | (with_reducible assumption) | ((with_reducible refine Blk.new ?_); (first | (focus rfl) | (focus (simp; done)) | (focus omega))) | ((with_reducible refine Blk.set1 ?_ ?_); (focus omega)) | (with_reducible refine Blk.alloc ?_) | (refine Blk.ext ?_ (by with_reducible assumption))))))
      have k9 : Blk w5 w4.heap.size (mayO S W L false none) := (by repeat (first | (with_reducible assumption) | ((with_reducible refine Blk.new ?_); (first | (focus rfl) | (focus (simp; done)) | (focus omega))) | ((with_reducible refine Blk.set1 ?_ ?_); (focus omega)) | (with_reducible refine Blk.alloc ?_) | (refine Blk.ext ?_ (by with_reducible assumption))))
      have kc : Blk w5 w.heap.size (.cells #[.int .i64 S, .int .i64 W, .int .i64 L] 23) := (by repeat (first | (with_reducible assumption) | ((with_reducible refine Blk.new ?_); (first | (focus rfl) | (focus (simp; done)) | (focus omega))) | ((with_reducible refine Blk.set1 ?_ ?_); (focus omega)) | (with_reducible refine Blk.alloc ?_) | (refine Blk.ext ?_ (by with_reducible assumption))))
      have hx5 : Ext w w5 := (by repeat (first | ((with_reducible refine Ext.set1 ?_ ?_); (first | (focus (simp; done)) | (focus (simp; omega)) | (focus omega))) | (with_reducible refine Ext.alloc ?_ _) | (with_reducible exact Ext.refl _) | (refine Ext.trans ?_ (by with_reducible assumption))))
      clear hb1 hb2 hb3 hb4 hb5 a0 a1 a2 d0 d1 d2 i0 i1 i2 j0 j1 j2
      go_loopw [55] (fun i wr => ∃ (j : Nat) (u : Bool) (p : Option Nat), i = .int .i64 j ∧ j ≤ l.length ∧ (Blk wr w4.heap.size (mayO S W L u p) ∧ Blk wr w.heap.size (.cells #[.int .i64 S, .int .i64 W, .int .i64 L] 23) ∧
          StB wr W (64 * j) (sSteps S W (some noF) (l.take j)) u p ∧ Ext w wr)) (fun i _ => l.length - (Go.RowKit.intOf i).toNat)
      case atStart => exact ⟨0, false, none, rfl, Nat.zero_le _, k9, kc, StB.nil _ _ _, hx5⟩
      case round =>
        clear k9 kc hx5
        obtain ⟨j, u, p, rfl, hj, k9, kc, hst, hext⟩ := hrel
        have hl9 := k9.lt
        have hlc := kc.lt
        by_cases hlt : j < l.length
        · have hjc : j + 1 ≤ c := by omega
          have hwr : IntKind.i64.wrap ((j : Int) + 1) = (j : Int) + 1 := IntWalk.i64_in _ (by omega)
          have hn0 : (0 : Int) ≤ (j : Int) + 1 := by omega
          have hn1 : ((j : Int) + 1).toNat = j + 1 := by omega
          have hn2 : (j : Int) + 1 ≤ (c : Int) := by omega
          go_wp2
          go_cut [12, 13] (fun v12 v13 wc => ∃ (b12 b13 : Nat) (ux : Bool) (px : Option Nat) (A1 : Option Addr) (c1 : Nat), v12 = .pointer (some ⟨b12, 0, none⟩) ∧ v13 = .pointer (some ⟨b13, 0, none⟩) ∧ (wr.heap.size ≤ b12 ∧ wr.heap.size ≤ b13) ∧ Blk wc b12 (mayO S W L ux px) ∧
            Blk wc b13 (refO S W L (rSteps S W (false, []) (l.take (j + 1))).1 (.slice A1 (rSteps S W (false, []) (l.take (j + 1))).2.length c1)) ∧ StB wc W (64 * (j + 1)) (sSteps S W (some noF) (l.take (j + 1))) ux px ∧
            RfB wc wr.heap.size (.slice A1 (rSteps S W (false, []) (l.take (j + 1))).2.length c1) (rSteps S W (false, []) (l.take (j + 1))).2 ∧ Ext wr wc)
          case first =>
            obtain ⟨a0, a1, a2⟩ := kc.c3
            have ne1 : ¬ w.heap.size = wr.heap.size := by omega
            have ne2 : ¬ w.heap.size = wr.heap.size + 1 := by omega
            have ne3 : ¬ wr.heap.size = w.heap.size := by omega
            have ne4 : ¬ wr.heap.size + 1 = w.heap.size := by omega
            go_region_held3 (fun w' => w'.cell? ⟨w.heap.size, 0, none⟩ = some (.int .i64 S) ∧ w'.cell? ⟨w.heap.size, 1, none⟩ = some (.int .i64 W) ∧ w'.cell? ⟨w.heap.size, 2, none⟩ = some (.int .i64 L)) (go_keep)
              (first
                | (go_at_call 13; refine Calls.mono (after_take g A c j l _ (C_ext hr (by repeat (first | (with_reducible assumption) | ((with_reducible refine Ext.set1 ?_ ?_); (focus omega)) | (with_reducible refine Ext.alloc ?_ _) | (with_reducible exact Ext.refl _) | (with_reducible refine Ext.drew ?_) | (refine Ext.trans ?_ (by with_reducible assumption))))) hlt (by omega) sl.step) ?_; rintro e w6 ⟨u6, p6, A6, c6, rfl, h6, hrf6', hb6⟩; have hrf6 := Kd.R_lower (base' := wr.heap.size) hrf6' (by simp <;> omega); obtain ⟨hcc6, hff6⟩ := hb6.cells; have cg0 := hcc6 wr.heap.size 0; (try simp at cg0); have fg0 := hff6 wr.heap.size 0; (try simp at fg0); have cg1 := hcc6 wr.heap.size 1; (try simp at cg1); have fg1 := hff6 wr.heap.size 1; (try simp at fg1); have cg2 := hcc6 wr.heap.size 2; (try simp at cg2); have fg2 := hff6 wr.heap.size 2; (try simp at fg2); have cg3 := hcc6 wr.heap.size 3; (try simp at cg3); have fg3 := hff6 wr.heap.size 3; (try simp at fg3); have cg4 := hcc6 wr.heap.size 4; (try simp at cg4); have fg4 := hff6 wr.heap.size 4; (try simp at fg4); have ch0 := hcc6 (wr.heap.size + 1) 0; (try simp at ch0); have fh0 := hff6 (wr.heap.size + 1) 0; (try simp at fh0); have ch1 := hcc6 (wr.heap.size + 1) 1; (try simp at ch1); have fh1 := hff6 (wr.heap.size + 1) 1; (try simp at fh1); have ch2 := hcc6 (wr.heap.size + 1) 2; (try simp at ch2); have fh2 := hff6 (wr.heap.size + 1) 2; (try simp at fh2); have ch3 := hcc6 (wr.heap.size + 1) 3; (try simp at ch3); have fh3 := hff6 (wr.heap.size + 1) 3; (try simp at fh3); have ch4 := hcc6 (wr.heap.size + 1) 4; (try simp at ch4); have fh4 := hff6 (wr.heap.size + 1) 4; (try simp at fh4); clear hcc6 hff6; have hszE := hb6.size; (try simp at hszE); (try have hne6 : wr.heap.size < w6.heap.size := Nat.lt_of_succ_le hszE); (try have hne6 : wr.heap.size < w6.heap.size := Nat.lt_of_succ_le (Nat.le_of_succ_le hszE)); (try have hne7 : wr.heap.size + 1 < w6.heap.size := Nat.lt_of_succ_le hszE); have hE6 : Ext wr w6 := Ext.trans (by repeat (first | (with_reducible assumption) | ((with_reducible refine Ext.set1 ?_ ?_); (focus omega)) | (with_reducible refine Ext.alloc ?_ _) | (with_reducible exact Ext.refl _) | (with_reducible refine Ext.drew ?_) | (refine Ext.trans ?_ (by with_reducible assumption)))) hb6; obtain ⟨d0, d1, d2⟩ := (kc.ext hE6).c3; have hz6 := hE6.size; have hlt6 : w.heap.size < w6.heap.size := (by omega); have ne6 : ¬ w.heap.size = w6.heap.size := (by omega); have ne7 : ¬ w.heap.size = w6.heap.size + 1 := (by omega)))
            all_goals
              go_wp2_with fail
              go_meet
            · exact ⟨w6.heap.size, w6.heap.size + 1, u6, p6, A6, c6, rfl, rfl, (by omega), Blk.alloc (Blk.new rfl), Blk.new (by simp), (h6.alloc _).alloc _, RfB.alloc (RfB.alloc hrf6 _) _, (hE6.alloc _).alloc _⟩
            · exact ⟨w6.heap.size + 1, w6.heap.size, u6, p6, A6, c6, rfl, rfl, (by omega), Blk.new (by simp), Blk.alloc (Blk.new rfl), (h6.alloc _).alloc _, RfB.alloc (RfB.alloc hrf6 _) _, (hE6.alloc _).alloc _⟩
            · have m12 : Blk w6 wr.heap.size zMay := Blk.ext (Blk.drew (Blk.new rfl)) hb6
              exact ⟨wr.heap.size, w6.heap.size, u6, p6, A6, c6, rfl, rfl, (by omega), Blk.alloc (Blk.put5 m12), Blk.new (by simp), StB.alloc (StB.set5 h6) _, RfB.alloc (RfB.set5 hrf6 m12 (by decide)) _, Ext.alloc (Ext.set5 (Nat.le_refl _) hE6) _⟩
            · have m12 : Blk w6 wr.heap.size zMay := Blk.ext (Blk.drew (Blk.alloc (Blk.new rfl))) hb6
              have m13 : Blk w6 (wr.heap.size + 1) zRef := Blk.ext (Blk.drew (Blk.new (by simp))) hb6
              exact ⟨wr.heap.size, wr.heap.size + 1, u6, p6, A6, c6, rfl, rfl, (by omega), Blk.far5s (by omega) (Blk.put5 m12), Blk.put5 (Blk.far5s (by omega) m13), StB.set5 (StB.set5 h6), RfB.set5 (RfB.set5 hrf6 m12 (by decide)) (Blk.far5s (by omega) m13) (by decide), Ext.set5 (by omega) (Ext.set5 (Nat.le_refl _) hE6)⟩
            · have m13 : Blk w6 wr.heap.size zRef := Blk.ext (Blk.drew (Blk.new rfl)) hb6
              exact ⟨w6.heap.size, wr.heap.size, u6, p6, A6, c6, rfl, rfl, (by omega), Blk.new (by simp), Blk.alloc (Blk.put5 m13), StB.alloc (StB.set5 h6) _, RfB.alloc (RfB.set5 hrf6 m13 (by decide)) _, Ext.alloc (Ext.set5 (Nat.le_refl _) hE6) _⟩
            · have m13 : Blk w6 wr.heap.size zRef := Blk.ext (Blk.drew (Blk.alloc (Blk.new rfl))) hb6
              have m12 : Blk w6 (wr.heap.size + 1) zMay := Blk.ext (Blk.drew (Blk.new (by simp))) hb6
              exact ⟨wr.heap.size + 1, wr.heap.size, u6, p6, A6, c6, rfl, rfl, (by omega), Blk.far5s (by omega) (Blk.put5 m12), Blk.put5 (Blk.far5s (by omega) m13), StB.set5 (StB.set5 h6), RfB.set5 (RfB.set5 hrf6 m12 (by decide)) (Blk.far5s (by omega) m13) (by decide), Ext.set5 (Nat.le_refl _) (Ext.set5 (by omega) hE6)⟩
          case rest =>
            obtain ⟨b12, b13, ux, px, A1, c1, rfl, rfl, ⟨hb12, hb13⟩, z12, z13, zst, zrf, zext⟩ := hcut
            have z9 := k9.ext zext
            have zc := kc.ext zext
            have zs := hst.ext zext
            have hxw := hext.trans zext
            have hr4 := C_ext hr hxw
            obtain ⟨ad, rfl, c0, c1', c2⟩ := at_step hr4 j hlt
            have hxm : l.getD j z45 ∈ l := by
              rw [List.getD_eq_getElem?_getD, List.getElem?_eq_getElem hlt]
              exact List.getElem_mem hlt
            have hbx := sl.step _ hxm
            have htk : l.take (j + 1) = l.take j ++ [l.getD j z45] := by
              rw [List.take_add_one, List.getElem?_eq_getElem hlt, List.getD_eq_getElem?_getD, List.getElem?_eq_getElem hlt]
              rfl
            have e1 : sSteps S W (some noF) (l.take (j + 1)) = sStep S W (sSteps S W (some noF) (l.take j)) (l.getD j z45).f0 (l.getD j z45).f1 := by
              rw [htk]
              simp [sSteps, List.foldl_append]
            have hrel := Rel.steps (S := S) (by omega) gw (l.take (j + 1)) (Rel.start W)
            have hup : Upto 1000000 (rSteps S W (false, []) (l.take (j + 1))).2 := Upto.steps (l.take (j + 1)) (fun _ h => by cases h) (fun x hx => by have := (sl.step x (List.mem_of_mem_take hx)).2.2.2; omega)
            have hlen : (rSteps S W (false, []) (l.take (j + 1))).2.length < 100000 := by
              have h1 := rSteps_len S W (l.take (j + 1)) (false, [])
              have h2 : (l.take (j + 1)).length ≤ l.length := by rw [List.length_take]; omega
              simp only [List.length_nil] at h1
              omega
            obtain ⟨hc1, hC1⟩ := (Kd.R_reads' zrf).2
            have HREL := Lib.hid hrel
            have HUP := Lib.hid hup
            have HLEN := Lib.hid hlen
            clear hxm htk hrel hup hlen hr4 hext k9 kc hst
            obtain ⟨⟨x0, x1, x2⟩, hx⟩ : ∃ x, x = l.getD j z45 := ⟨_, rfl⟩
            rw [← hx] at c0 c1' c2 hbx e1
            dsimp only at c0 c1' c2 hbx e1
            clear hx
            obtain ⟨b0, b1, b2, b3⟩ := hbx
            rw [e1] at zst
            have E1 := Lib.hid e1
            obtain ⟨RS1, hRS⟩ : ∃ r, r = rSteps S W (false, []) (l.take (j + 1)) := ⟨_, rfl⟩
            rw [← hRS] at z13 zrf hc1 hC1 HREL HUP HLEN
            clear e1 hRS
            obtain ⟨s0, s1, s2, s3, s4⟩ := z9.c5
            go_wp2
            go_region_with (go_at_call 18; refine Calls.mono (step_st g x0 x1 x2 (by omega) u p (64 * j) _ _ (zs.ext (Ext.drew (Ext.refl _))) (by omega)) ?_; rintro e w8 ⟨u8, p8, rfl, h8, hb8'⟩; have hb8 : Ext wc w8 := (Ext.drew (Ext.refl _)).trans hb8'; clear hb8'; obtain ⟨aa0, aa1, aa2, aa3, aa4⟩ := (z9.ext hb8).c5; obtain ⟨ab0, ab1, ab2, ab3, ab4⟩ := (z9.ext hb8).f5)
            all_goals
              have v9 := Blk.put5 (a' := .int .i64 S) (b' := .int .i64 W) (c' := .int .i64 L) (d' := .bool u8) (e' := .map p8) (z9.ext hb8)
              have vc := Blk.far5s (a := .int .i64 S) (b := .int .i64 W) (c := .int .i64 L) (d := .bool u8) (e := .map p8) (show w.heap.size ≠ w4.heap.size by omega) (zc.ext hb8)
              have v12 := Blk.far5s (a := .int .i64 S) (b := .int .i64 W) (c := .int .i64 L) (d := .bool u8) (e := .map p8) (show b12 ≠ w4.heap.size by omega) (z12.ext hb8)
              have v13 := Blk.far5s (a := .int .i64 S) (b := .int .i64 W) (c := .int .i64 L) (d := .bool u8) (e := .map p8) (show b13 ≠ w4.heap.size by omega) (z13.ext hb8)
              have vst := StB.set5 (g := w4.heap.size) (a := .int .i64 S) (b := .int .i64 W) (c := .int .i64 L) (d := .bool u8) (e := .map p8) h8
              have vsx := StB.set5 (g := w4.heap.size) (a := .int .i64 S) (b := .int .i64 W) (c := .int .i64 L) (d := .bool u8) (e := .map p8) (zst.ext hb8)
              have vrf := RfB.set5 (a' := .int .i64 S) (b' := .int .i64 W) (c' := .int .i64 L) (d' := .bool u8) (e' := .map p8) (RfB.ext zrf hb8) (z9.ext hb8) (by decide)
              have vext := Ext.set5 (a := .int .i64 S) (b := .int .i64 W) (c := .int .i64 L) (d := .bool u8) (e := .map p8) (show w.heap.size ≤ w4.heap.size by omega) (hxw.trans hb8)
              obtain ⟨wS, hwS⟩ : ∃ wS, wS = ((((w8.setCell ⟨w4.heap.size, 0, none⟩ (.int .i64 S)).setCell ⟨w4.heap.size, 1, none⟩ (.int .i64 W)).setCell ⟨w4.heap.size, 2, none⟩ (.int .i64 L)).setCell ⟨w4.heap.size, 3, none⟩ (.bool u8)).setCell ⟨w4.heap.size, 4, none⟩ (.map p8) := ⟨_, rfl⟩
              rw [← hwS] at v9 vc v12 v13 vst vsx vrf vext ⊢
              clear hwS aa0 aa1 aa2 aa3 aa4 ab0 ab1 ab2 ab3 ab4 s0 s1 s2 s3 s4 c0 c1' c2
              have vC := (Kd.R_reads' vrf).2.2
              obtain ⟨s0, s1, s2, s3, s4⟩ := v9.c5
              obtain ⟨t0, t1, t2, t3, t4⟩ := v12.c5
              obtain ⟨r0, r1, r2, r3, r4⟩ := v13.c5
              go_wp2_with (first
                | (go_at_call 19; refine Calls.mono (equal_st u8 ux p8 px _ _ _ _ _ (vst.ext hb10) (vsx.ext hb10)) ?_; intro e w11 hh; obtain ⟨rfl, hb11⟩ := hh.yes rfl)
                | (go_at_call 27; refine Calls.mono (same_yes u8 p8 (64 * j + 64) _ RS1 A1 c1 _ vst (by omega) (E1.out ▸ HREL.out) HUP.out vC hc1 HLEN.out) ?_; rintro e w10 ⟨rfl, hb10⟩; obtain ⟨aa0, aa1, aa2, aa3, aa4⟩ := (v9.ext hb10).c5; obtain ⟨ab0, ab1, ab2, ab3, ab4⟩ := (v12.ext hb10).c5))
              have hE := hb10.trans hb11
              refine ⟨⟨j + 1, u8, p8, by go_num, by omega, v9.ext hE, vc.ext hE, ?_, vext.trans hE⟩, ?_⟩
              · rw [E1.out]
                exact vst.ext hE
              · simp [Go.RowKit.intOf]
                omega
        · obtain rfl : j = l.length := by omega
          go_wp2
          go_ret
          exact ⟨rfl, hext⟩
end Go.Proofs.Ytjckghdgogkeaaa
