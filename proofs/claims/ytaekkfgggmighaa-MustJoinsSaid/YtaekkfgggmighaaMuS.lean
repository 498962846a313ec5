/- The contract of ontimelaw30.states. -/
import Derived.Test.YtaekkfgggmighaaMu7
import Derived.Test.YtaekkfgggmighaaMuP
import Derived.Deep.DrawnRows
namespace Go.Proofs.Ytaekkfgggmighaa
open Go.RowKit Go.Maps Go.Proofs.YtaekkfgggmighaaW.PrintWords Go.Proofs.Ytaekkfgggmighaa.Pgreat
set_option linter.unusedVariables false

/-- The state after some operations on the one without bounds. -/
def uDos (S W : Int) (l : List S37) : FM := l.foldl (fun f o => uDo S W f o.f0 o.f1) noF
theorem uDos_snoc (S W : Int) (l : List S37) (o : S37) : uDos S W (l ++ [o]) = uDo S W (uDos S W l) o.f0 o.f1 := by simp [uDos, List.foldl_append]
theorem take_next {l : List S37} {j : Nat} (h : j < l.length) : l.take (j + 1) = l.take j ++ [l.getD j z37] := by
  rw [List.take_add_one, List.getElem?_eq_getElem h, List.getD_eq_getElem?_getD, List.getElem?_eq_getElem h]
  rfl
theorem getD_mem37 {l : List S37} {j : Nat} (h : j < l.length) : l.getD j z37 ∈ l := by
  rw [List.getD_eq_getElem?_getD, List.getElem?_eq_getElem h]
  exact List.getElem_mem h
theorem fit_uDos {S W : Int} (hw : 1 ≤ W) (l : List S37) : Fit W (uDos S W l) := by
  have key : ∀ (l : List S37) (f : FM), Fit W f → Fit W (l.foldl (fun f o => uDo S W f o.f0 o.f1) f) := by
    intro l
    induction l with
    | nil => intro f h; exact h
    | cons o t ih => intro f h; exact ih _ (fit_uDo h hw)
  exact key l noF (fit_no W)

theorem Blk.named {w : World} {B : Nat} {o : Obj} (h : Blk w B o) : ∃ ws, ws = w ∧ Blk ws B o := ⟨w, rfl, h⟩
set_option maxHeartbeats 1000000 in
theorem states_inv {S W L : Int} (hv : vldB S W L = false) (A : Option Addr) (n c : Nat) (B : Option Addr) (m d : Nat) (w : World) :
    Calls Try.prog 12 #[.agg #[.int .i64 S, .int .i64 W, .int .i64 L], .slice A n c, .slice B m d] w fun e w' => e = .returned (.tuple #[.agg #[.int .i64 0, .int .i64 0, .int .i64 0, .map none], .agg #[.int .i64 0, .int .i64 0, .int .i64 0, .map none], .bool false]) ∧ Ext w w' := by
  have HV := Lib.hid hv; clear hv
  go_enter Try.func12, Try.ntmps12
  go_wp2_with (go_at_call 21; refine Calls.mono (must_new_no HV.out _) ?_; rintro e w1 ⟨rfl, hb1⟩; have k1 : Blk w1 (w.heap.size + 1) zMust := (by exact (by repeat (first | (with_reducible assumption) | ((with_reducible refine Blk.new ?_); (first | (focus rfl) | (focus (simp; done)) | (focus omega))) | (with_reducible apply Blk.put4) | (with_reducible apply Blk.put1) | ((with_reducible refine Blk.far4 ?_ ?_); (focus omega)) | ((with_reducible refine Blk.set1 ?_ ?_); (focus omega)) | (with_reducible refine Blk.alloc ?_) | (with_reducible refine Blk.drew ?_) | (refine Blk.ext ?_ (by with_reducible assumption))))); have k2 : Blk w1 (w.heap.size + 1 + 1) zMust := (by exact (by repeat (first | (with_reducible assumption) | ((with_reducible refine Blk.new ?_); (first | (focus rfl) | (focus (simp; done)) | (focus omega))) | (with_reducible apply Blk.put4) | (with_reducible apply Blk.put1) | ((with_reducible refine Blk.far4 ?_ ?_); (focus omega)) | ((with_reducible refine Blk.set1 ?_ ?_); (focus omega)) | (with_reducible refine Blk.alloc ?_) | (with_reducible refine Blk.drew ?_) | (refine Blk.ext ?_ (by with_reducible assumption))))); have hx1 : Ext w w1 := (by exact (by repeat (first | ((with_reducible refine Ext.set1 ?_ ?_); (first | (focus (simp; done)) | (focus (simp; omega)) | (focus omega))) | (with_reducible refine Ext.alloc ?_ _) | (with_reducible exact Ext.refl _) | (refine Ext.trans ?_ (by with_reducible assumption))))); have q1 := k1.lt; have q2 := k2.lt; obtain ⟨a0, a1, a2, a3⟩ := k1.c4; obtain ⟨b0, b1, b2, b3⟩ := k1.f4; obtain ⟨c0, c1, c2, c3⟩ := k2.c4; obtain ⟨d0, d1, d2, d3⟩ := k2.f4)
  have z1 := Blk.far4 (a := .int .i64 0) (b := .int .i64 0) (c := .int .i64 0) (d := .map none) (show w.heap.size + 1 ≠ w.heap.size + 1 + 1 by omega) (Blk.put4 (a' := .int .i64 0) (b' := .int .i64 0) (c' := .int .i64 0) (d' := .map none) (Blk.put4 (a' := .int .i64 0) (b' := .int .i64 0) (c' := .int .i64 0) (d' := .map none) k1))
  have z2 := Blk.put4 (a' := .int .i64 0) (b' := .int .i64 0) (c' := .int .i64 0) (d' := .map none) (Blk.far4 (a := .int .i64 0) (b := .int .i64 0) (c := .int .i64 0) (d := .map none) (show w.heap.size + 1 + 1 ≠ w.heap.size + 1 by omega) (Blk.far4 (a := .int .i64 0) (b := .int .i64 0) (c := .int .i64 0) (d := .map none) (show w.heap.size + 1 + 1 ≠ w.heap.size + 1 by omega) k2))
  have zx := Ext.set4 (a := .int .i64 0) (b := .int .i64 0) (c := .int .i64 0) (d := .map none) (show w.heap.size ≤ w.heap.size + 1 + 1 by omega) (Ext.set4 (a := .int .i64 0) (b := .int .i64 0) (c := .int .i64 0) (d := .map none) (show w.heap.size ≤ w.heap.size + 1 by omega) (Ext.set4 (a := .int .i64 0) (b := .int .i64 0) (c := .int .i64 0) (d := .map none) (show w.heap.size ≤ w.heap.size + 1 by omega) hx1))
  obtain ⟨ws, hws, z1⟩ := z1.named
  rw [← hws] at z2 zx ⊢
  clear hws
  obtain ⟨e0, e1, e2, e3⟩ := z1.c4
  obtain ⟨f0, f1, f2, f3⟩ := z2.c4
  refine bodyPost_ret (v := .tuple #[.agg #[.int .i64 0, .int .i64 0, .int .i64 0, .map none], .agg #[.int .i64 0, .int .i64 0, .int .i64 0, .map none], .bool false]) ?_ rfl ⟨rfl, zx⟩
  simp [results, Try.results12, go_sem, e0, e1, e2, e3, f0, f1, f2, f3]

set_option maxHeartbeats 1000000 in
theorem states_big {S W L : Int} (g : Geo S W L) (A : Option Addr) (c : Nat) (a : List S37) (B : Option Addr) (d : Nat) (b : List S37) (w : World) (hr : k37.C w A a.length a) (hc : a.length ≤ c) (hr2 : k37.C w B b.length b) (hc2 : b.length ≤ d) (hno : greatB a = true ∨ greatB b = true) :
    Calls Try.prog 12 #[.agg #[.int .i64 S, .int .i64 W, .int .i64 L], .slice A a.length c, .slice B b.length d] w fun e w' => e = .returned (.tuple #[.agg #[.int .i64 S, .int .i64 W, .int .i64 L, .map none], .agg #[.int .i64 S, .int .i64 W, .int .i64 L, .map none], .bool false]) ∧ Ext w w' := by
  cases hg : greatB a with
  | true =>
    have HG := Lib.hid hg; clear hg hno
    go_enter Try.func12, Try.ntmps12
    go_wp2_with (first
      | (go_at_call 13; refine Calls.mono (great_any A c a _ (C_ext hr (by exact (by repeat (first | ((with_reducible refine Ext.set1 ?_ ?_); (first | (focus (simp; done)) | (focus (simp; omega)) | (focus omega))) | (with_reducible refine Ext.alloc ?_ _) | (with_reducible exact Ext.refl _) | (refine Ext.trans ?_ (by with_reducible assumption)))))) hc) ?_; rw [HG.out]; rintro e w2 ⟨rfl, hb2⟩; have k1 : Blk w2 (w.heap.size + 1) (mustO S W L none) := (by exact (by repeat (first | (with_reducible assumption) | ((with_reducible refine Blk.new ?_); (first | (focus rfl) | (focus (simp; done)) | (focus omega))) | (with_reducible apply Blk.put4) | (with_reducible apply Blk.put1) | ((with_reducible refine Blk.far4 ?_ ?_); (focus omega)) | ((with_reducible refine Blk.set1 ?_ ?_); (focus omega)) | (with_reducible refine Blk.alloc ?_) | (with_reducible refine Blk.drew ?_) | (refine Blk.ext ?_ (by with_reducible assumption))))); have k2 : Blk w2 (w.heap.size + 1 + 1) zMust := (by exact (by repeat (first | (with_reducible assumption) | ((with_reducible refine Blk.new ?_); (first | (focus rfl) | (focus (simp; done)) | (focus omega))) | (with_reducible apply Blk.put4) | (with_reducible apply Blk.put1) | ((with_reducible refine Blk.far4 ?_ ?_); (focus omega)) | ((with_reducible refine Blk.set1 ?_ ?_); (focus omega)) | (with_reducible refine Blk.alloc ?_) | (with_reducible refine Blk.drew ?_) | (refine Blk.ext ?_ (by with_reducible assumption))))); have hx2 : Ext w w2 := (by exact (by repeat (first | ((with_reducible refine Ext.set1 ?_ ?_); (first | (focus (simp; done)) | (focus (simp; omega)) | (focus omega))) | (with_reducible refine Ext.alloc ?_ _) | (with_reducible exact Ext.refl _) | (refine Ext.trans ?_ (by with_reducible assumption))))); have q1 := k1.lt; have q2 := k2.lt; obtain ⟨a0, a1, a2, a3⟩ := k1.c4; obtain ⟨b0, b1, b2, b3⟩ := k1.f4; obtain ⟨c0, c1, c2, c3⟩ := k2.c4; obtain ⟨d0, d1, d2, d3⟩ := k2.f4)
      | (go_at_call 21; refine Calls.mono (must_new_yes g _) ?_; rintro e w1 ⟨rfl, hb1⟩; have m1 : Blk w1 (w.heap.size + 1) zMust := (by exact (by repeat (first | (with_reducible assumption) | ((with_reducible refine Blk.new ?_); (first | (focus rfl) | (focus (simp; done)) | (focus omega))) | (with_reducible apply Blk.put4) | (with_reducible apply Blk.put1) | ((with_reducible refine Blk.far4 ?_ ?_); (focus omega)) | ((with_reducible refine Blk.set1 ?_ ?_); (focus omega)) | (with_reducible refine Blk.alloc ?_) | (with_reducible refine Blk.drew ?_) | (refine Blk.ext ?_ (by with_reducible assumption))))); have m2 : Blk w1 (w.heap.size + 1 + 1) zMust := (by exact (by repeat (first | (with_reducible assumption) | ((with_reducible refine Blk.new ?_); (first | (focus rfl) | (focus (simp; done)) | (focus omega))) | (with_reducible apply Blk.put4) | (with_reducible apply Blk.put1) | ((with_reducible refine Blk.far4 ?_ ?_); (focus omega)) | ((with_reducible refine Blk.set1 ?_ ?_); (focus omega)) | (with_reducible refine Blk.alloc ?_) | (with_reducible refine Blk.drew ?_) | (refine Blk.ext ?_ (by with_reducible assumption))))); have hx1 : Ext w w1 := (by exact (by repeat (first | ((with_reducible refine Ext.set1 ?_ ?_); (first | (focus (simp; done)) | (focus (simp; omega)) | (focus omega))) | (with_reducible refine Ext.alloc ?_ _) | (with_reducible exact Ext.refl _) | (refine Ext.trans ?_ (by with_reducible assumption))))); have q1 := m1.lt; obtain ⟨a0, a1, a2, a3⟩ := m1.c4; obtain ⟨b0, b1, b2, b3⟩ := m1.f4))
    have z1 := Blk.far4 (a := .int .i64 S) (b := .int .i64 W) (c := .int .i64 L) (d := .map none) (show w.heap.size + 1 ≠ w.heap.size + 1 + 1 by omega) (Blk.put4 (a' := .int .i64 S) (b' := .int .i64 W) (c' := .int .i64 L) (d' := .map none) k1)
    have z2 := Blk.put4 (a' := .int .i64 S) (b' := .int .i64 W) (c' := .int .i64 L) (d' := .map none) (Blk.far4 (a := .int .i64 S) (b := .int .i64 W) (c := .int .i64 L) (d := .map none) (show w.heap.size + 1 + 1 ≠ w.heap.size + 1 by omega) k2)
    have zx := Ext.set4 (a := .int .i64 S) (b := .int .i64 W) (c := .int .i64 L) (d := .map none) (show w.heap.size ≤ w.heap.size + 1 + 1 by omega) (Ext.set4 (a := .int .i64 S) (b := .int .i64 W) (c := .int .i64 L) (d := .map none) (show w.heap.size ≤ w.heap.size + 1 by omega) hx2)
    obtain ⟨ws, hws, z1⟩ := z1.named
    rw [← hws] at z2 zx ⊢
    clear hws
    obtain ⟨e0, e1, e2, e3⟩ := z1.c4
    obtain ⟨f0, f1, f2, f3⟩ := z2.c4
    refine bodyPost_ret (v := .tuple #[.agg #[.int .i64 S, .int .i64 W, .int .i64 L, .map none], .agg #[.int .i64 S, .int .i64 W, .int .i64 L, .map none], .bool false]) ?_ rfl ⟨rfl, zx⟩
    simp [results, Try.results12, go_sem, e0, e1, e2, e3, f0, f1, f2, f3]
  | false =>
    have hg2 : greatB b = true := by
      rcases hno with h | h
      · rw [hg] at h; cases h
      · exact h
    have HG := Lib.hid hg; have HG2 := Lib.hid hg2; clear hg hno hg2
    go_enter Try.func12, Try.ntmps12
    go_wp2_with (first
      | (have gq := hb2; clear gq; go_at_call 13; refine Calls.mono (great_any B d b _ (C_ext hr2 (by exact (by repeat (first | ((with_reducible refine Ext.set1 ?_ ?_); (first | (focus (simp; done)) | (focus (simp; omega)) | (focus omega))) | (with_reducible refine Ext.alloc ?_ _) | (with_reducible exact Ext.refl _) | (refine Ext.trans ?_ (by with_reducible assumption)))))) hc2) ?_; rw [HG2.out]; rintro e w3 ⟨rfl, hb3⟩; have k1 : Blk w3 (w.heap.size + 1) (mustO S W L none) := (by exact (by repeat (first | (with_reducible assumption) | ((with_reducible refine Blk.new ?_); (first | (focus rfl) | (focus (simp; done)) | (focus omega))) | (with_reducible apply Blk.put4) | (with_reducible apply Blk.put1) | ((with_reducible refine Blk.far4 ?_ ?_); (focus omega)) | ((with_reducible refine Blk.set1 ?_ ?_); (focus omega)) | (with_reducible refine Blk.alloc ?_) | (with_reducible refine Blk.drew ?_) | (refine Blk.ext ?_ (by with_reducible assumption))))); have k2 : Blk w3 (w.heap.size + 1 + 1) zMust := (by exact (by repeat (first | (with_reducible assumption) | ((with_reducible refine Blk.new ?_); (first | (focus rfl) | (focus (simp; done)) | (focus omega))) | (with_reducible apply Blk.put4) | (with_reducible apply Blk.put1) | ((with_reducible refine Blk.far4 ?_ ?_); (focus omega)) | ((with_reducible refine Blk.set1 ?_ ?_); (focus omega)) | (with_reducible refine Blk.alloc ?_) | (with_reducible refine Blk.drew ?_) | (refine Blk.ext ?_ (by with_reducible assumption))))); have hx2 : Ext w w3 := (by exact (by repeat (first | ((with_reducible refine Ext.set1 ?_ ?_); (first | (focus (simp; done)) | (focus (simp; omega)) | (focus omega))) | (with_reducible refine Ext.alloc ?_ _) | (with_reducible exact Ext.refl _) | (refine Ext.trans ?_ (by with_reducible assumption))))); have q1 := k1.lt; have q2 := k2.lt; obtain ⟨a0, a1, a2, a3⟩ := k1.c4; obtain ⟨b0, b1, b2, b3⟩ := k1.f4; obtain ⟨c0, c1, c2, c3⟩ := k2.c4; obtain ⟨d0, d1, d2, d3⟩ := k2.f4)
      | (go_at_call 13; refine Calls.mono (great_any A c a _ (C_ext hr (by exact (by repeat (first | ((with_reducible refine Ext.set1 ?_ ?_); (first | (focus (simp; done)) | (focus (simp; omega)) | (focus omega))) | (with_reducible refine Ext.alloc ?_ _) | (with_reducible exact Ext.refl _) | (refine Ext.trans ?_ (by with_reducible assumption)))))) hc) ?_; rw [HG.out]; rintro e w2 ⟨rfl, hb2⟩)
      | (go_at_call 21; refine Calls.mono (must_new_yes g _) ?_; rintro e w1 ⟨rfl, hb1⟩; have m1 : Blk w1 (w.heap.size + 1) zMust := (by exact (by repeat (first | (with_reducible assumption) | ((with_reducible refine Blk.new ?_); (first | (focus rfl) | (focus (simp; done)) | (focus omega))) | (with_reducible apply Blk.put4) | (with_reducible apply Blk.put1) | ((with_reducible refine Blk.far4 ?_ ?_); (focus omega)) | ((with_reducible refine Blk.set1 ?_ ?_); (focus omega)) | (with_reducible refine Blk.alloc ?_) | (with_reducible refine Blk.drew ?_) | (refine Blk.ext ?_ (by with_reducible assumption))))); have m2 : Blk w1 (w.heap.size + 1 + 1) zMust := (by exact (by repeat (first | (with_reducible assumption) | ((with_reducible refine Blk.new ?_); (first | (focus rfl) | (focus (simp; done)) | (focus omega))) | (with_reducible apply Blk.put4) | (with_reducible apply Blk.put1) | ((with_reducible refine Blk.far4 ?_ ?_); (focus omega)) | ((with_reducible refine Blk.set1 ?_ ?_); (focus omega)) | (with_reducible refine Blk.alloc ?_) | (with_reducible refine Blk.drew ?_) | (refine Blk.ext ?_ (by with_reducible assumption))))); have hx1 : Ext w w1 := (by exact (by repeat (first | ((with_reducible refine Ext.set1 ?_ ?_); (first | (focus (simp; done)) | (focus (simp; omega)) | (focus omega))) | (with_reducible refine Ext.alloc ?_ _) | (with_reducible exact Ext.refl _) | (refine Ext.trans ?_ (by with_reducible assumption))))); have q1 := m1.lt; obtain ⟨a0, a1, a2, a3⟩ := m1.c4; obtain ⟨b0, b1, b2, b3⟩ := m1.f4))
    have z1 := Blk.far4 (a := .int .i64 S) (b := .int .i64 W) (c := .int .i64 L) (d := .map none) (show w.heap.size + 1 ≠ w.heap.size + 1 + 1 by omega) (Blk.put4 (a' := .int .i64 S) (b' := .int .i64 W) (c' := .int .i64 L) (d' := .map none) k1)
    have z2 := Blk.put4 (a' := .int .i64 S) (b' := .int .i64 W) (c' := .int .i64 L) (d' := .map none) (Blk.far4 (a := .int .i64 S) (b := .int .i64 W) (c := .int .i64 L) (d := .map none) (show w.heap.size + 1 + 1 ≠ w.heap.size + 1 by omega) k2)
    have zx := Ext.set4 (a := .int .i64 S) (b := .int .i64 W) (c := .int .i64 L) (d := .map none) (show w.heap.size ≤ w.heap.size + 1 + 1 by omega) (Ext.set4 (a := .int .i64 S) (b := .int .i64 W) (c := .int .i64 L) (d := .map none) (show w.heap.size ≤ w.heap.size + 1 by omega) hx2)
    obtain ⟨ws, hws, z1⟩ := z1.named
    rw [← hws] at z2 zx ⊢
    clear hws
    obtain ⟨e0, e1, e2, e3⟩ := z1.c4
    obtain ⟨f0, f1, f2, f3⟩ := z2.c4
    refine bodyPost_ret (v := .tuple #[.agg #[.int .i64 S, .int .i64 W, .int .i64 L, .map none], .agg #[.int .i64 S, .int .i64 W, .int .i64 L, .map none], .bool false]) ?_ rfl ⟨rfl, zx⟩
    simp [results, Try.results12, go_sem, e0, e1, e2, e3, f0, f1, f2, f3]

/-- states, where there are none. -/
theorem states_no {S W L : Int} (A : Option Addr) (c : Nat) (a : List S37) (B : Option Addr) (d : Nat) (b : List S37) (w : World) (hr : k37.C w A a.length a) (hc : a.length ≤ c) (hr2 : k37.C w B b.length b) (hc2 : b.length ≤ d) (hno : vldB S W L = false ∨ greatB a = true ∨ greatB b = true) :
    Calls Try.prog 12 #[.agg #[.int .i64 S, .int .i64 W, .int .i64 L], .slice A a.length c, .slice B b.length d] w fun e w' => ∃ S' W' L' : Int, e = .returned (.tuple #[.agg #[.int .i64 S', .int .i64 W', .int .i64 L', .map none], .agg #[.int .i64 S', .int .i64 W', .int .i64 L', .map none], .bool false]) ∧ Ext w w' := by
  cases hv : vldB S W L with
  | false => exact (states_inv hv A a.length c B b.length d w).mono fun e w' h => ⟨_, _, _, h⟩
  | true =>
    refine (states_big ((vld_iff _ _ _).1 hv) A c a B d b w hr hc hr2 hc2 ?_).mono fun e w' h => ⟨_, _, _, h⟩
    rcases hno with h | h
    · rw [hv] at h; cases h
    · exact h

set_option maxRecDepth 10000 in
set_option maxHeartbeats 2000000 in
theorem states_yes {S W L : Int} (g : Geo S W L) (A : Option Addr) (c : Nat) (a : List S37) (B : Option Addr) (d : Nat) (b : List S37) (w : World) (hr : k37.C w A a.length a) (hc : a.length ≤ c) (hr2 : k37.C w B b.length b) (hc2 : b.length ≤ d) (hg1 : greatB a = false) (hg2 : greatB b = false) :
    Calls Try.prog 12 #[.agg #[.int .i64 S, .int .i64 W, .int .i64 L], .slice A a.length c, .slice B b.length d] w fun e w' => ∃ p q, e = .returned (.tuple #[.agg #[.int .i64 S, .int .i64 W, .int .i64 L, .map p], .agg #[.int .i64 S, .int .i64 W, .int .i64 L, .map q], .bool true]) ∧ MB w' W a.length (uDos S W a) p ∧ MB w' W b.length (uDos S W b) q ∧ Ext w w' := by
  obtain ⟨hl1, ho1⟩ := great_no hg1
  obtain ⟨hl2, ho2⟩ := great_no hg2
  have HG1 := Lib.hid hg1; have HG2 := Lib.hid hg2; have HO1 := Lib.hid ho1; have HO2 := Lib.hid ho2
  clear hg1 hg2 ho1 ho2
  have hgr1 := fun w h => great_any A c a w h hc
  have hgr2 := fun w h => great_any B d b w h hc2
  obtain ⟨n, hn⟩ : ∃ n, a.length = n := ⟨_, rfl⟩
  rw [hn] at hr hc hl1 hgr1 ⊢
  have HN := Lib.hid hn
  obtain ⟨m, hm⟩ : ∃ m, b.length = m := ⟨_, rfl⟩
  rw [hm] at hr2 hc2 hl2 hgr2 ⊢
  have HM := Lib.hid hm
  clear hn hm
  go_enter Try.func12, Try.ntmps12
  go_wp2_with (first
    | (have gq := hb2; clear gq; go_at_call 13; refine Calls.mono (hgr2 _ (C_ext hr2 (by exact (by repeat (first | ((with_reducible refine Ext.set1 ?_ ?_); (first | (focus (simp; done)) | (focus (simp; omega)) | (focus omega))) | (with_reducible refine Ext.alloc ?_ _) | (with_reducible exact Ext.refl _) | (refine Ext.trans ?_ (by with_reducible assumption))))))) ?_; rw [HG2.out]; rintro e w3 ⟨rfl, hb3⟩; have k1 : Blk w3 (w.heap.size + 1) (mustO S W L none) := (by exact (by repeat (first | (with_reducible assumption) | ((with_reducible refine Blk.new ?_); (first | (focus rfl) | (focus (simp; done)) | (focus omega))) | (with_reducible apply Blk.put4) | (with_reducible apply Blk.put1) | ((with_reducible refine Blk.far4 ?_ ?_); (focus omega)) | ((with_reducible refine Blk.set1 ?_ ?_); (focus omega)) | (with_reducible refine Blk.alloc ?_) | (with_reducible refine Blk.drew ?_) | (refine Blk.ext ?_ (by with_reducible assumption))))); have k2 : Blk w3 (w.heap.size + 1 + 1) zMust := (by exact (by repeat (first | (with_reducible assumption) | ((with_reducible refine Blk.new ?_); (first | (focus rfl) | (focus (simp; done)) | (focus omega))) | (with_reducible apply Blk.put4) | (with_reducible apply Blk.put1) | ((with_reducible refine Blk.far4 ?_ ?_); (focus omega)) | ((with_reducible refine Blk.set1 ?_ ?_); (focus omega)) | (with_reducible refine Blk.alloc ?_) | (with_reducible refine Blk.drew ?_) | (refine Blk.ext ?_ (by with_reducible assumption))))); have hx2 : Ext w w3 := (by exact (by repeat (first | ((with_reducible refine Ext.set1 ?_ ?_); (first | (focus (simp; done)) | (focus (simp; omega)) | (focus omega))) | (with_reducible refine Ext.alloc ?_ _) | (with_reducible exact Ext.refl _) | (refine Ext.trans ?_ (by with_reducible assumption))))); have q1 := k1.lt; have q2 := k2.lt; obtain ⟨a0, a1, a2, a3⟩ := k1.c4; obtain ⟨c0, c1, c2, c3⟩ := k2.c4; obtain ⟨d0, d1, d2, d3⟩ := k2.f4)
    | (go_at_call 13; refine Calls.mono (hgr1 _ (C_ext hr (by exact (by repeat (first | ((with_reducible refine Ext.set1 ?_ ?_); (first | (focus (simp; done)) | (focus (simp; omega)) | (focus omega))) | (with_reducible refine Ext.alloc ?_ _) | (with_reducible exact Ext.refl _) | (refine Ext.trans ?_ (by with_reducible assumption))))))) ?_; rw [HG1.out]; rintro e w2 ⟨rfl, hb2⟩)
    | (go_at_call 21; refine Calls.mono (must_new_yes g _) ?_; rintro e w1 ⟨rfl, hb1⟩; have m1 : Blk w1 (w.heap.size + 1) zMust := (by exact (by repeat (first | (with_reducible assumption) | ((with_reducible refine Blk.new ?_); (first | (focus rfl) | (focus (simp; done)) | (focus omega))) | (with_reducible apply Blk.put4) | (with_reducible apply Blk.put1) | ((with_reducible refine Blk.far4 ?_ ?_); (focus omega)) | ((with_reducible refine Blk.set1 ?_ ?_); (focus omega)) | (with_reducible refine Blk.alloc ?_) | (with_reducible refine Blk.drew ?_) | (refine Blk.ext ?_ (by with_reducible assumption))))); have m2 : Blk w1 (w.heap.size + 1 + 1) zMust := (by exact (by repeat (first | (with_reducible assumption) | ((with_reducible refine Blk.new ?_); (first | (focus rfl) | (focus (simp; done)) | (focus omega))) | (with_reducible apply Blk.put4) | (with_reducible apply Blk.put1) | ((with_reducible refine Blk.far4 ?_ ?_); (focus omega)) | ((with_reducible refine Blk.set1 ?_ ?_); (focus omega)) | (with_reducible refine Blk.alloc ?_) | (with_reducible refine Blk.drew ?_) | (refine Blk.ext ?_ (by with_reducible assumption))))); have hx1 : Ext w w1 := (by exact (by repeat (first | ((with_reducible refine Ext.set1 ?_ ?_); (first | (focus (simp; done)) | (focus (simp; omega)) | (focus omega))) | (with_reducible refine Ext.alloc ?_ _) | (with_reducible exact Ext.refl _) | (refine Ext.trans ?_ (by with_reducible assumption))))); have q1 := m1.lt; obtain ⟨a0, a1, a2, a3⟩ := m1.c4; obtain ⟨b0, b1, b2, b3⟩ := m1.f4))
  have y1 := Blk.far4 (a := .int .i64 S) (b := .int .i64 W) (c := .int .i64 L) (d := .map none) (show w.heap.size + 1 ≠ w.heap.size + 1 + 1 by omega) k1
  have y2 := Blk.put4 (a' := .int .i64 S) (b' := .int .i64 W) (c' := .int .i64 L) (d' := .map none) k2
  have hx4 := Ext.set4 (a := .int .i64 S) (b := .int .i64 W) (c := .int .i64 L) (d := .map none) (show w.heap.size ≤ w.heap.size + 1 + 1 by omega) hx2
  obtain ⟨w4, hw4⟩ : ∃ w4, w4 = (((w3.setCell ⟨w.heap.size + 1 + 1, 0, none⟩ (.int .i64 S)).setCell ⟨w.heap.size + 1 + 1, 1, none⟩ (.int .i64 W)).setCell ⟨w.heap.size + 1 + 1, 2, none⟩ (.int .i64 L)).setCell ⟨w.heap.size + 1 + 1, 3, none⟩ (.map none) := ⟨_, rfl⟩
  rw [← hw4] at y1 y2 hx4 ⊢
  clear hw4 hx2 hx1 hb1 hb2 hb3 k1 k2 m1 m2 a0 a1 a2 a3 b0 b1 b2 b3 c0 c1 c2 c3 d0 d1 d2 d3 q1 q2
  go_loopw [34] (fun i wr => ∃ (j : Nat) (p : Option Nat), i = .int .i64 j ∧ j ≤ n ∧ (Blk wr (w.heap.size + 1) (mustO S W L p) ∧ Blk wr (w.heap.size + 1 + 1) (mustO S W L none) ∧ MB wr W j (uDos S W (a.take j)) p ∧ Ext w wr)) (fun i _ => n - (Go.RowKit.intOf i).toNat)
  case atStart => exact ⟨0, none, rfl, Nat.zero_le _, y1, y2, MB.nil _ _ _, hx4⟩
  case round =>
    clear y1 y2 hx4
    obtain ⟨j, p, rfl, hj, y1, y2, hst, hext⟩ := hrel
    have hl1' := y1.lt
    have hl2' := y2.lt
    by_cases hlt : j < n
    · obtain ⟨ad, rfl, c0, c1, c2⟩ := at_op (C_ext hr hext) j hlt
      have hb0 := HO1.out _ (getD_mem37 (l := a) (j := j) (by rw [HN.out]; exact hlt))
      have HNX : Hid (uDos S W (a.take (j + 1)) = uDo S W (uDos S W (a.take j)) (a.getD j z37).f0 (a.getD j z37).f1) := by
        show _ = _
        rw [take_next (by rw [HN.out]; exact hlt), uDos_snoc]
      obtain ⟨⟨x0, x1, x2⟩, hx⟩ : ∃ x, x = a.getD j z37 := ⟨_, rfl⟩
      rw [← hx] at c0 c1 c2 hb0 HNX
      dsimp only at c0 c1 c2 hb0 HNX
      clear hx
      obtain ⟨b0, b1⟩ := hb0
      obtain ⟨t0, t1, t2, t3⟩ := y1.c4
      go_wp2_with (go_at_call 20; refine Calls.mono (do_mb g x0 x1 x2 (by omega) p j _ _ (hst.ext (by repeat (first | ((with_reducible refine Ext.set1 ?_ ?_); (first | (focus (simp; done)) | (focus (simp; omega)) | (focus omega))) | (with_reducible refine Ext.alloc ?_ _) | (with_reducible exact Ext.refl _) | (refine Ext.trans ?_ (by with_reducible assumption))))) (by omega)) ?_; rintro e w20 ⟨p20, rfl, h20, hb20⟩; have m1 : Blk w20 (w.heap.size + 1) (mustO S W L p) := (by exact (by repeat (first | (with_reducible assumption) | ((with_reducible refine Blk.new ?_); (first | (focus rfl) | (focus (simp; done)) | (focus omega))) | (with_reducible apply Blk.put4) | (with_reducible apply Blk.put1) | ((with_reducible refine Blk.far4 ?_ ?_); (focus omega)) | ((with_reducible refine Blk.set1 ?_ ?_); (focus omega)) | (with_reducible refine Blk.alloc ?_) | (with_reducible refine Blk.drew ?_) | (refine Blk.ext ?_ (by with_reducible assumption))))); have m2 : Blk w20 (w.heap.size + 1 + 1) (mustO S W L none) := (by exact (by repeat (first | (with_reducible assumption) | ((with_reducible refine Blk.new ?_); (first | (focus rfl) | (focus (simp; done)) | (focus omega))) | (with_reducible apply Blk.put4) | (with_reducible apply Blk.put1) | ((with_reducible refine Blk.far4 ?_ ?_); (focus omega)) | ((with_reducible refine Blk.set1 ?_ ?_); (focus omega)) | (with_reducible refine Blk.alloc ?_) | (with_reducible refine Blk.drew ?_) | (refine Blk.ext ?_ (by with_reducible assumption))))); have hX20 : Ext w w20 := (by exact (by repeat (first | ((with_reducible refine Ext.set1 ?_ ?_); (first | (focus (simp; done)) | (focus (simp; omega)) | (focus omega))) | (with_reducible refine Ext.alloc ?_ _) | (with_reducible exact Ext.refl _) | (refine Ext.trans ?_ (by with_reducible assumption))))); obtain ⟨s0, s1, s2, s3⟩ := m1.c4; obtain ⟨r0, r1, r2, r3⟩ := m1.f4)
      refine ⟨⟨j + 1, p20, by go_num, by omega, Blk.put4 m1, Blk.far4 (by omega) m2, MB.set4 (by rw [HNX.out]; exact h20), Ext.set4 (by omega) hX20⟩, ?_⟩
      simp [Go.RowKit.intOf]
      omega
    · obtain rfl : j = n := by omega
      obtain ⟨wp, hwp⟩ : ∃ wp, wp = wr := ⟨wr, rfl⟩
      subst hwp
      have etk : a.take j = a := List.take_of_length_le (by have := HN.out; omega)
      rw [etk] at hst
      clear etk
      have HS0 : Hid (uDos S W [] = noF) := rfl
      go_wp2
      go_loopw [44] (fun i wr => ∃ (k : Nat) (q : Option Nat), i = .int .i64 k ∧ k ≤ m ∧ (Blk wr (w.heap.size + 1) (mustO S W L p) ∧ Blk wr (w.heap.size + 1 + 1) (mustO S W L q) ∧ MB wr W j (uDos S W a) p ∧ MB wr W k (uDos S W (b.take k)) q ∧ Ext w wr)) (fun i _ => m - (Go.RowKit.intOf i).toNat)
      case atStart => exact ⟨0, none, rfl, Nat.zero_le _, y1, y2, hst, MB.nil _ _ _, hext⟩
      case round =>
        clear y1 y2 hst hext hl1' hl2'
        obtain ⟨k, q, rfl, hk, y1, y2, hst, hst2, hext⟩ := hrel
        have hl1' := y1.lt
        have hl2' := y2.lt
        by_cases hlt2 : k < m
        · obtain ⟨ad, rfl, c0, c1, c2⟩ := at_op (C_ext hr2 hext) k hlt2
          have hb0 := HO2.out _ (getD_mem37 (l := b) (j := k) (by rw [HM.out]; exact hlt2))
          have HNX : Hid (uDos S W (b.take (k + 1)) = uDo S W (uDos S W (b.take k)) (b.getD k z37).f0 (b.getD k z37).f1) := by
            show _ = _
            rw [take_next (by rw [HM.out]; exact hlt2), uDos_snoc]
          obtain ⟨⟨x0, x1, x2⟩, hx⟩ : ∃ x, x = b.getD k z37 := ⟨_, rfl⟩
          rw [← hx] at c0 c1 c2 hb0 HNX
          dsimp only at c0 c1 c2 hb0 HNX
          clear hx
          obtain ⟨b0, b1⟩ := hb0
          obtain ⟨t0, t1, t2, t3⟩ := y2.c4
          go_wp2_with (go_at_call 20; refine Calls.mono (do_mb g x0 x1 x2 (by omega) q k _ _ (hst2.ext (by repeat (first | ((with_reducible refine Ext.set1 ?_ ?_); (first | (focus (simp; done)) | (focus (simp; omega)) | (focus omega))) | (with_reducible refine Ext.alloc ?_ _) | (with_reducible exact Ext.refl _) | (refine Ext.trans ?_ (by with_reducible assumption))))) (by omega)) ?_; rintro e w20 ⟨p20, rfl, h20, hb20⟩; have m1 : Blk w20 (w.heap.size + 1) (mustO S W L p) := (by exact (by repeat (first | (with_reducible assumption) | ((with_reducible refine Blk.new ?_); (first | (focus rfl) | (focus (simp; done)) | (focus omega))) | (with_reducible apply Blk.put4) | (with_reducible apply Blk.put1) | ((with_reducible refine Blk.far4 ?_ ?_); (focus omega)) | ((with_reducible refine Blk.set1 ?_ ?_); (focus omega)) | (with_reducible refine Blk.alloc ?_) | (with_reducible refine Blk.drew ?_) | (refine Blk.ext ?_ (by with_reducible assumption))))); have m2 : Blk w20 (w.heap.size + 1 + 1) (mustO S W L q) := (by exact (by repeat (first | (with_reducible assumption) | ((with_reducible refine Blk.new ?_); (first | (focus rfl) | (focus (simp; done)) | (focus omega))) | (with_reducible apply Blk.put4) | (with_reducible apply Blk.put1) | ((with_reducible refine Blk.far4 ?_ ?_); (focus omega)) | ((with_reducible refine Blk.set1 ?_ ?_); (focus omega)) | (with_reducible refine Blk.alloc ?_) | (with_reducible refine Blk.drew ?_) | (refine Blk.ext ?_ (by with_reducible assumption))))); have hY20 : Ext wr w20 := (by exact (by repeat (first | ((with_reducible refine Ext.set1 ?_ ?_); (first | (focus (simp; done)) | (focus (simp; omega)) | (focus omega))) | (with_reducible refine Ext.alloc ?_ _) | (with_reducible exact Ext.refl _) | (refine Ext.trans ?_ (by with_reducible assumption))))); have hX20 : Ext w w20 := hext.trans hY20; obtain ⟨s0, s1, s2, s3⟩ := m2.c4; obtain ⟨r0, r1, r2, r3⟩ := m2.f4)
          refine ⟨⟨k + 1, p20, by go_num, by omega, Blk.far4 (by omega) m1, Blk.put4 m2, MB.set4 (hst.ext hY20), MB.set4 (by rw [HNX.out]; exact h20), Ext.set4 (by omega) hX20⟩, ?_⟩
          simp [Go.RowKit.intOf]
          omega
        · obtain rfl : k = m := by omega
          have etk : b.take k = b := List.take_of_length_le (by have := HM.out; omega)
          rw [etk] at hst2
          clear etk
          obtain ⟨t0, t1, t2, t3⟩ := y1.c4
          obtain ⟨s0, s1, s2, s3⟩ := y1.f4
          obtain ⟨r0, r1, r2, r3⟩ := y2.c4
          obtain ⟨u0, u1, u2, u3⟩ := y2.f4
          go_wp2
          go_region
          go_wp2
          refine bodyPost_ret (v := .tuple #[.agg #[.int .i64 S, .int .i64 W, .int .i64 L, .map p], .agg #[.int .i64 S, .int .i64 W, .int .i64 L, .map q], .bool true]) ?_ rfl ⟨p, q, rfl, ?_, ?_, ?_⟩
          · simp [results, Try.results12, go_sem, t0, t1, t2, t3, r0, r1, r2, r3]
          · refine MB.ext (?_ : MB _ _ _ _ _) (Ext.drew (Ext.refl _))
            exact MB.set4 (MB.set4 hst)
          · refine MB.ext (?_ : MB _ _ _ _ _) (Ext.drew (Ext.refl _))
            exact MB.set4 (MB.set4 hst2)
          · refine Ext.drew (?_ : Ext _ _)
            exact Ext.set4 (by omega) (Ext.set4 (by omega) hext)
end Go.Proofs.Ytaekkfgggmighaa
