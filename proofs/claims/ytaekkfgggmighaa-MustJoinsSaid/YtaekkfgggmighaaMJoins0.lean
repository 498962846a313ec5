/- The walk of ontimelaw30.MustJoins. -/
import Derived.Test.YtaekkfgggmighaaMuK
import Derived.Test.YtaekkfgggmighaaMuJ
import Derived.Test.YtaekkfgggmighaaOpenM
import Derived.BigQuiet
import Derived.Deep.RegionHeld3
import Derived.Deep.DrawnRows
namespace Go.Proofs.Ytaekkfgggmighaa
open Go.RowKit Go.Maps Go.BigFrame Go.Proofs.YtaekkfgggmighaaW.PrintWords Go.Proofs.Ytaekkfgggmighaa.Pgreat Go.Proofs.Ytaekkfgggmighaa.PJoin
set_option linter.unusedVariables false

theorem at_bound {w : World} {A : Option Addr} {n : Nat} {xs : List S64} (h : k64.C w A n xs) (k : Nat) (hk : k < n) : ∃ ad, A = some ad ∧ w.cell? (ad.add (k * 2)) = some (.int .i64 (xs.getD k z64).f0) ∧ w.cell? ⟨(ad.add (k * 2)).block, (ad.add (k * 2)).off + 1, none⟩ = some (.int .i64 (xs.getD k z64).f1) := by
  have := at_T64 h (k : Int) (by omega) (by omega)
  simpa [rd_T64] using this
abbrev bndO (y c : Int) : Obj := .cells #[.int .i64 y, .int .i64 c] 64
theorem Blk.c2 {w : World} {B : Nat} {a b : Value} {t : TypeId} (h : Blk w B (.cells #[a, b] t)) : w.cell? ⟨B, 0, none⟩ = some a ∧ w.cell? ⟨B, 1, none⟩ = some b ∧ w.frozen? ⟨B, 0, none⟩ = false ∧ w.frozen? ⟨B, 1, none⟩ = false := ⟨h.cell 0, h.cell 1, h.free 0, h.free 1⟩
/-- states, whatever it finds. -/
theorem states_total {S W L : Int} (A : Option Addr) (c : Nat) (a : List S37) (B : Option Addr) (d : Nat) (b : List S37) (w : World) (hr : k37.C w A a.length a) (hc : a.length ≤ c) (hr2 : k37.C w B b.length b) (hc2 : b.length ≤ d) :
    Calls Try.prog 12 #[.agg #[.int .i64 S, .int .i64 W, .int .i64 L], .slice A a.length c, .slice B b.length d] w fun e w' => ∃ (S' W' L' : Int) (p q : Option Nat) (ok : Bool), e = .returned (.tuple #[.agg #[.int .i64 S', .int .i64 W', .int .i64 L', .map p], .agg #[.int .i64 S', .int .i64 W', .int .i64 L', .map q], .bool ok]) ∧ Ext w w' := by
  by_cases hno : vldB S W L = false ∨ greatB a = true ∨ greatB b = true
  · exact (states_no A c a B d b w hr hc hr2 hc2 hno).mono fun e w' ⟨S', W', L', he, hb⟩ => ⟨S', W', L', _, _, _, he, hb⟩
  · have hv : vldB S W L = true := by
      cases h : vldB S W L with
      | false => exact absurd (.inl h) hno
      | true => rfl
    have hg1 : greatB a = false := by
      cases h : greatB a with
      | false => rfl
      | true => exact absurd (.inr (.inl h)) hno
    have hg2 : greatB b = false := by
      cases h : greatB b with
      | false => rfl
      | true => exact absurd (.inr (.inr h)) hno
    exact (states_yes ((vld_iff _ _ _).1 hv) A c a B d b w hr hc hr2 hc2 hg1 hg2).mono fun e w' ⟨p, q, he, _, _, hb⟩ => ⟨S, W, L, p, q, true, he, hb⟩
/-- must.Equal at two states that are equal. -/
theorem eq_yes {S W L : Int} (p q : Option Nat) (n m : Nat) (f h : FM) (w : World) (hp : MB w W n f p) (hq : MB w W m h q) (e : ∀ x, f x = h x) :
    Calls Try.prog 31 #[.agg #[.int .i64 S, .int .i64 W, .int .i64 L, .map p], .agg #[.int .i64 S, .int .i64 W, .int .i64 L, .map q]] w fun e w' => e = .returned (.bool true) ∧ Ext w w' :=
  (must_equal p q n m f h w hp.1 hq.1).mono fun e' w' hh => hh.yes e

theorem eq_B {S W L : Int} (p q : Option Nat) (n m : Nat) (f h : FM) (w : World) (hp : MB w W n f p) (hq : MB w W m h q) (bo : Bool) (hB : bo = true ↔ ∀ x, f x = h x) :
    Calls Try.prog 31 #[.agg #[.int .i64 S, .int .i64 W, .int .i64 L, .map p], .agg #[.int .i64 S, .int .i64 W, .int .i64 L, .map q]] w fun e w' => e = .returned (.bool bo) ∧ Ext w w' :=
  (must_equal p q n m f h w hp.1 hq.1).mono fun e' w' ⟨r, ⟨he, hr⟩, hb⟩ => by
    obtain rfl : r = bo := by rw [Bool.eq_iff_iff, hr, hB]
    exact ⟨he, hb⟩
theorem eq_zero (w : World) :
    Calls Try.prog 31 #[.agg #[.int .i64 0, .int .i64 0, .int .i64 0, .map none], .agg #[.int .i64 0, .int .i64 0, .int .i64 0, .map none]] w fun e w' => e = .returned (.bool true) ∧ Ext w w' :=
  (must_equal none none 0 0 noF noF w (.inl ⟨rfl, fun _ => rfl⟩) (.inl ⟨rfl, fun _ => rfl⟩)).mono fun e w' h => h.yes fun _ => rfl
theorem boundsOf_get (f : FM) {K : List Int} {j : Nat} (h : j < K.length) : (boundsOf f K).getD j z64 = ⟨K.getD j 0, (f (K.getD j 0)).getD 0⟩ := by
  simp [boundsOf, List.getD, h]

set_option maxRecDepth 10000 in
set_option maxHeartbeats 1000000 in
theorem joins_no1 (S W L : Int) (A : Option Addr) (c : Nat) (a : List S37) (B : Option Addr) (d : Nat) (b : List S37) (C : Option Addr) (ce : Nat) (l : List S37) (w : World) (hra : k37.C w A a.length a) (hca : a.length ≤ c) (hrb : k37.C w B b.length b) (hcb : b.length ≤ d) (hrl : k37.C w C l.length l) (hcl : l.length ≤ ce) (hno : vldB S W L = false ∨ greatB a = true ∨ greatB b = true) :
    Calls Try.prog 7 #[.agg #[.int .i64 S, .int .i64 W, .int .i64 L], .slice A a.length c, .slice B b.length d, .slice C l.length ce] w fun e w' => e = .returned (.bool true) ∧ Ext w w' := by
  have HNO := Lib.hid hno
  clear hno
  go_enter Try.func7, Try.ntmps7
  go_wp2_with (first
    | (have gq := hb2; clear gq; go_at_call 12; refine Calls.mono (states_total C ce l none 0 [] _ (C_ext hrl (by exact (by repeat (first | ((with_reducible refine Ext.set1 ?_ ?_); (first | (focus (simp; done)) | (focus (simp; omega)) | (focus omega))) | (with_reducible refine Ext.alloc ?_ _) | (with_reducible exact Ext.refl _) | (refine Ext.trans ?_ (by with_reducible assumption)))))) hcl (Kd.C_nil _ _) (Nat.le_refl _)) ?_; rintro e w3 ⟨S3, W3, L3, p3, q3, ok3, rfl, hb3⟩)
    | (go_at_call 12; refine Calls.mono (states_no A c a B d b _ (C_ext hra (by exact (by repeat (first | ((with_reducible refine Ext.set1 ?_ ?_); (first | (focus (simp; done)) | (focus (simp; omega)) | (focus omega))) | (with_reducible refine Ext.alloc ?_ _) | (with_reducible exact Ext.refl _) | (refine Ext.trans ?_ (by with_reducible assumption)))))) hca (C_ext hrb (by exact (by repeat (first | ((with_reducible refine Ext.set1 ?_ ?_); (first | (focus (simp; done)) | (focus (simp; omega)) | (focus omega))) | (with_reducible refine Ext.alloc ?_ _) | (with_reducible exact Ext.refl _) | (refine Ext.trans ?_ (by with_reducible assumption)))))) hcb HNO.out) ?_; rintro e w2 ⟨S', W', L', rfl, hb2⟩; have hq2 : w.heap.size < w2.heap.size := (by have := hb2.size; have := hb1.size; simp at this; omega); obtain ⟨d0, d1, d2⟩ := Blk.c3 (w := w2) (B := w.heap.size) (by repeat (first | (with_reducible assumption) | ((with_reducible refine Blk.new ?_); (first | (focus rfl) | (focus (simp; done)) | (focus omega))) | ((with_reducible refine Blk.set1 ?_ ?_); (focus omega)) | (with_reducible refine Blk.alloc ?_) | (refine Blk.ext ?_ (by with_reducible assumption)))))
    | (go_at_call 11; refine Calls.mono (awake_yes _) ?_; rintro e w1 ⟨rfl, hb1⟩; obtain ⟨a0, a1, a2⟩ := Blk.c3 (w := w1) (B := w.heap.size) (by repeat (first | (with_reducible assumption) | ((with_reducible refine Blk.new ?_); (first | (focus rfl) | (focus (simp; done)) | (focus omega))) | ((with_reducible refine Blk.set1 ?_ ?_); (focus omega)) | (with_reducible refine Blk.alloc ?_) | (refine Blk.ext ?_ (by with_reducible assumption))))))
  go_ret
  exact ⟨rfl, (by repeat (first | ((with_reducible refine Ext.set1 ?_ ?_); (first | (focus (simp; done)) | (focus (simp; omega)) | (focus omega))) | (with_reducible refine Ext.alloc ?_ _) | (with_reducible exact Ext.refl _) | (refine Ext.trans ?_ (by with_reducible assumption))))⟩
set_option maxRecDepth 10000 in
set_option maxHeartbeats 1000000 in
theorem joins_no2 {S W L : Int} (g : Geo S W L) (A : Option Addr) (c : Nat) (a : List S37) (B : Option Addr) (d : Nat) (b : List S37) (C : Option Addr) (ce : Nat) (l : List S37) (w : World) (hra : k37.C w A a.length a) (hca : a.length ≤ c) (hrb : k37.C w B b.length b) (hcb : b.length ≤ d) (hrl : k37.C w C l.length l) (hcl : l.length ≤ ce) (hg1 : greatB a = false) (hg2 : greatB b = false) (hg3 : greatB l = true) :
    Calls Try.prog 7 #[.agg #[.int .i64 S, .int .i64 W, .int .i64 L], .slice A a.length c, .slice B b.length d, .slice C l.length ce] w fun e w' => e = .returned (.bool true) ∧ Ext w w' := by
  have HG1 := Lib.hid hg1; have HG2 := Lib.hid hg2
  have HNO : Hid (vldB S W L = false ∨ greatB l = true ∨ greatB [] = true) := .inr (.inl hg3)
  clear hg1 hg2 hg3
  go_enter Try.func7, Try.ntmps7
  go_wp2_with (first
    | (have gq := hb2; clear gq; go_at_call 12; refine Calls.mono (states_no C ce l none 0 [] _ (C_ext hrl (by exact (by repeat (first | ((with_reducible refine Ext.set1 ?_ ?_); (first | (focus (simp; done)) | (focus (simp; omega)) | (focus omega))) | (with_reducible refine Ext.alloc ?_ _) | (with_reducible exact Ext.refl _) | (refine Ext.trans ?_ (by with_reducible assumption)))))) hcl (Kd.C_nil _ _) (Nat.le_refl _) HNO.out) ?_; rintro e w3 ⟨S3, W3, L3, rfl, hb3⟩)
    | (go_at_call 12; refine Calls.mono (states_yes g A c a B d b _ (C_ext hra (by exact (by repeat (first | ((with_reducible refine Ext.set1 ?_ ?_); (first | (focus (simp; done)) | (focus (simp; omega)) | (focus omega))) | (with_reducible refine Ext.alloc ?_ _) | (with_reducible exact Ext.refl _) | (refine Ext.trans ?_ (by with_reducible assumption)))))) hca (C_ext hrb (by exact (by repeat (first | ((with_reducible refine Ext.set1 ?_ ?_); (first | (focus (simp; done)) | (focus (simp; omega)) | (focus omega))) | (with_reducible refine Ext.alloc ?_ _) | (with_reducible exact Ext.refl _) | (refine Ext.trans ?_ (by with_reducible assumption)))))) hcb HG1.out HG2.out) ?_; rintro e w2 ⟨p, q, rfl, hp, hq, hb2⟩; have hq2 : w.heap.size < w2.heap.size := (by have := hb2.size; have := hb1.size; simp at this; omega); obtain ⟨d0, d1, d2⟩ := Blk.c3 (w := w2) (B := w.heap.size) (by repeat (first | (with_reducible assumption) | ((with_reducible refine Blk.new ?_); (first | (focus rfl) | (focus (simp; done)) | (focus omega))) | ((with_reducible refine Blk.set1 ?_ ?_); (focus omega)) | (with_reducible refine Blk.alloc ?_) | (refine Blk.ext ?_ (by with_reducible assumption)))))
    | (go_at_call 11; refine Calls.mono (awake_yes _) ?_; rintro e w1 ⟨rfl, hb1⟩; obtain ⟨a0, a1, a2⟩ := Blk.c3 (w := w1) (B := w.heap.size) (by repeat (first | (with_reducible assumption) | ((with_reducible refine Blk.new ?_); (first | (focus rfl) | (focus (simp; done)) | (focus omega))) | ((with_reducible refine Blk.set1 ?_ ?_); (focus omega)) | (with_reducible refine Blk.alloc ?_) | (refine Blk.ext ?_ (by with_reducible assumption))))))
  go_ret
  exact ⟨rfl, (by repeat (first | ((with_reducible refine Ext.set1 ?_ ?_); (first | (focus (simp; done)) | (focus (simp; omega)) | (focus omega))) | (with_reducible refine Ext.alloc ?_ _) | (with_reducible exact Ext.refl _) | (refine Ext.trans ?_ (by with_reducible assumption))))⟩

set_option maxRecDepth 10000 in
set_option maxHeartbeats 16000000 in
theorem joins_walk (S W L : Int) (A : Option Addr) (c : Nat) (a : List S37) (B : Option Addr) (d : Nat) (b : List S37) (C : Option Addr) (ce : Nat) (l : List S37) (w : World) (hra : k37.C w A a.length a) (hca : a.length ≤ c) (hpa : ∀ x ∈ a, 0 ≤ x.f2 ∧ x.f2 ≤ 255) (hrb : k37.C w B b.length b) (hcb : b.length ≤ d) (hpb : ∀ x ∈ b, 0 ≤ x.f2 ∧ x.f2 ≤ 255) (hrl : k37.C w C l.length l) (hcl : l.length ≤ ce) (hpl : ∀ x ∈ l, 0 ≤ x.f2 ∧ x.f2 ≤ 255) :
    Calls Try.prog 7 #[.agg #[.int .i64 S, .int .i64 W, .int .i64 L], .slice A a.length c, .slice B b.length d, .slice C l.length ce] w fun e w' => e = .returned (.bool true) ∧ Ext w w' := by
  clear hpa hpb hpl
  by_cases hno : vldB S W L = false ∨ greatB a = true ∨ greatB b = true
  · exact joins_no1 S W L A c a B d b C ce l w hra hca hrb hcb hrl hcl hno
  have hv : vldB S W L = true := by
    cases h : vldB S W L with
    | false => exact absurd (.inl h) hno
    | true => rfl
  have hg1 : greatB a = false := by
    cases h : greatB a with
    | false => rfl
    | true => exact absurd (.inr (.inl h)) hno
  have hg2 : greatB b = false := by
    cases h : greatB b with
    | false => rfl
    | true => exact absurd (.inr (.inr h)) hno
  clear hno
  have g := (vld_iff _ _ _).1 hv
  clear hv
  cases hg3 : greatB l with
  | true => exact joins_no2 g A c a B d b C ce l w hra hca hrb hcb hrl hcl hg1 hg2 hg3
  | false =>
    have hsts := fun w h1 h2 => states_yes g A c a B d b w h1 hca h2 hcb hg1 hg2
    have hsts2 := fun w h1 => states_yes g C ce l none 0 [] w h1 hcl (Kd.C_nil _ _) (Nat.le_refl _) hg3 rfl
    obtain ⟨ha100, _⟩ := great_no hg1
    obtain ⟨hb100, _⟩ := great_no hg2
    obtain ⟨hl100, _⟩ := great_no hg3
    clear hg1 hg2 hg3
    have gw := g.w1
    have gs := g.s1
    obtain ⟨n1, hn1⟩ : ∃ n, a.length = n := ⟨_, rfl⟩
    rw [hn1] at hra hca ha100 hsts ⊢
    obtain ⟨n2, hn2⟩ : ∃ n, b.length = n := ⟨_, rfl⟩
    rw [hn2] at hrb hcb hb100 hsts ⊢
    obtain ⟨n3, hn3⟩ : ∃ n, l.length = n := ⟨_, rfl⟩
    rw [hn3] at hrl hcl hl100 hsts2 ⊢
    obtain ⟨fa, hfa⟩ : ∃ f, uDos S W a = f := ⟨_, rfl⟩
    obtain ⟨fb, hfb⟩ : ∃ f, uDos S W b = f := ⟨_, rfl⟩
    obtain ⟨fd, hfd⟩ : ∃ f, uDos S W l = f := ⟨_, rfl⟩
    rw [hfa, hfb] at hsts
    rw [hfd] at hsts2
    clear hfa hfb hfd hn1 hn2 hn3
    go_enter Try.func7, Try.ntmps7
    go_wp2_with (first
      | (have gq := hb4; clear gq; go_at_call 28; refine Calls.mono (must_lines S W L p _ fa _ (hp4.alloc _).1 (by omega)) ?_; rintro e w5 ⟨v5, K1, ⟨rfl, hdom, hkl⟩, hh, hb5⟩; obtain ⟨A5, c5, rfl, hc51, hmx5, hK1⟩ := hh.C; have HDOM1 := Lib.hid hdom; clear hdom hh)
      | (go_at_call 17; refine Calls.mono (must_join S W L p _ fa q _ fb _ hp3 hq3 (by omega)) ?_; rintro e w4 ⟨pj, rfl, h4, hb4⟩; have k94 := k93.ext hb4; have hp4 := hp3.ext hb4; have hq34 : w3.heap.size + 1 < w4.heap.size := (by have := hb4.size; simp at this; omega); have hq24 : w2.heap.size < w4.heap.size := (by omega); obtain ⟨t0, t1, t2, t3⟩ := k94.c4)
      | (have gq := hb2; clear gq; go_at_call 12; refine Calls.mono (hsts2 _ (C_ext hrl (by exact (by repeat (first | ((with_reducible refine Ext.set1 ?_ ?_); (first | (focus (simp; done)) | (focus (simp; omega)) | (focus omega))) | (with_reducible refine Ext.alloc ?_ _) | (with_reducible exact Ext.refl _) | (refine Ext.trans ?_ (by with_reducible assumption))))))) ?_; rintro e w3 ⟨pu, pv, rfl, hu, hv, hb3⟩; have hy3 : Ext w2 w3 := (((Ext.refl w2).alloc _).alloc _).trans hb3; have k93 : Blk ((w3.alloc (mustO S W L pu)).alloc (mustO S W L pv)) w2.heap.size (mustO S W L p) := Blk.alloc (Blk.alloc ((Blk.alloc (Blk.new rfl)).ext hb3)); have k103 : Blk ((w3.alloc (mustO S W L pu)).alloc (mustO S W L pv)) (w2.heap.size + 1) (mustO S W L q) := Blk.alloc (Blk.alloc ((Blk.new (by simp)).ext hb3)); have hp3 : MB ((w3.alloc (mustO S W L pu)).alloc (mustO S W L pv)) W n1 fa p := ((hp.ext hy3).alloc _).alloc _; have hq3 : MB ((w3.alloc (mustO S W L pu)).alloc (mustO S W L pv)) W n2 fb q := ((hq.ext hy3).alloc _).alloc _; have hq23 : w2.heap.size + 1 < w3.heap.size := (by have := hb3.size; simp at this; omega); have hq23a : w2.heap.size < w3.heap.size := (by omega); obtain ⟨t90, t91, t92, t93⟩ := Blk.c4 (w := w3) (B := w2.heap.size) ((Blk.alloc (Blk.new rfl)).ext hb3); obtain ⟨t100, t101, t102, t103⟩ := Blk.c4 (w := w3) (B := w2.heap.size + 1) ((Blk.new (by simp)).ext hb3))
      | (go_at_call 12; refine Calls.mono (hsts _ (C_ext hra (by exact (by repeat (first | ((with_reducible refine Ext.set1 ?_ ?_); (first | (focus (simp; done)) | (focus (simp; omega)) | (focus omega))) | (with_reducible refine Ext.alloc ?_ _) | (with_reducible exact Ext.refl _) | (refine Ext.trans ?_ (by with_reducible assumption)))))) (C_ext hrb (by exact (by repeat (first | ((with_reducible refine Ext.set1 ?_ ?_); (first | (focus (simp; done)) | (focus (simp; omega)) | (focus omega))) | (with_reducible refine Ext.alloc ?_ _) | (with_reducible exact Ext.refl _) | (refine Ext.trans ?_ (by with_reducible assumption))))))) ?_; rintro e w2 ⟨p, q, rfl, hp, hq, hb2⟩; have hq2 : w.heap.size < w2.heap.size := (by have := hb2.size; have := hb1.size; simp at this; omega); obtain ⟨d0, d1, d2⟩ := Blk.c3 (w := w2) (B := w.heap.size) (by repeat (first | (with_reducible assumption) | ((with_reducible refine Blk.new ?_); (first | (focus rfl) | (focus (simp; done)) | (focus omega))) | ((with_reducible refine Blk.set1 ?_ ?_); (focus omega)) | (with_reducible refine Blk.alloc ?_) | (refine Blk.ext ?_ (by with_reducible assumption)))))
      | (go_at_call 11; refine Calls.mono (awake_yes _) ?_; rintro e w1 ⟨rfl, hb1⟩; obtain ⟨a0, a1, a2⟩ := Blk.c3 (w := w1) (B := w.heap.size) (by repeat (first | (with_reducible assumption) | ((with_reducible refine Blk.new ?_); (first | (focus rfl) | (focus (simp; done)) | (focus omega))) | ((with_reducible refine Blk.set1 ?_ ?_); (focus omega)) | (with_reducible refine Blk.alloc ?_) | (refine Blk.ext ?_ (by with_reducible assumption))))))
    have hx5 : Ext w w5 := (by repeat (first | ((with_reducible refine Ext.set1 ?_ ?_); (first | (focus (simp; done)) | (focus (simp; omega)) | (focus omega))) | (with_reducible refine Ext.alloc ?_ _) | (with_reducible exact Ext.refl _) | (refine Ext.trans ?_ (by with_reducible assumption))))
    have hz5 : Ext w4 w5 := ((Ext.refl w4).alloc _).trans hb5
    have k9 : Blk w5 w2.heap.size (mustO S W L p) := k94.ext hz5
    have k10 : Blk w5 (w2.heap.size + 1) (mustO S W L q) := (k103.ext hb4).ext hz5
    have k12 : Blk w5 w3.heap.size (mustO S W L pu) := ((Blk.alloc (Blk.new rfl)).ext hb4).ext hz5
    have k15 : Blk w5 w4.heap.size (mustO S W L pj) := (Blk.new rfl).ext hb5
    have hp5 : MB w5 W n1 fa p := hp4.ext hz5
    have hq5 : MB w5 W n2 fb q := (hq3.ext hb4).ext hz5
    have hj5 : MB w5 W n1 (uJoin fa fb) pj := h4.ext hz5
    have hu5 : MB w5 W n3 fd pu := (((hu.alloc _).alloc _).ext hb4).ext hz5
    clear hb1 hb2 hb3 hb4 hb5 hz5 hy3 k93 k103 k94 hp hq hu hv hp3 hq3 hp4 h4 a0 a1 a2 d0 d1 d2 t0 t1 t2 t3 t90 t91 t92 t93 t100 t101 t102 t103 hsts hsts2
    obtain ⟨kl1, hkl'⟩ : ∃ kl, K1.length = kl := ⟨_, rfl⟩
    rw [hkl'] at hc51 hK1 hkl ⊢
    have HKL1 := Lib.hid hkl'
    clear hkl'
    go_loopw [16, 59] (fun v i wz => ∃ (j : Nat) (A1 : Option Addr) (c1 : Nat), i = .int .i64 j ∧ j ≤ kl1 ∧ v = .slice A1 j c1 ∧ BndB wz w5.heap.size (.slice A1 j c1) (boundsOf fa (K1.take j)) ∧ Ext w5 wz) (fun _ i _ => kl1 - (Go.RowKit.intOf i).toNat)
    case atStart => exact ⟨0, none, 0, rfl, Nat.zero_le _, rfl, BndB.nil _ _, Ext.refl _⟩
    case round =>
      obtain ⟨j, A1, c1, rfl, hj, rfl, hbd, hek⟩ := hrel
      by_cases hkk : j < kl1
      · have y7 := k9.ext hek
        have yp := hp5.ext hek
        obtain ⟨ad, rfl, hcell⟩ := at_num (C_ext hK1 hek) j hkk
        have hym : K1.getD j 0 ∈ K1 := by rw [List.getD_eq_getElem?_getD, List.getElem?_eq_getElem (by rw [HKL1.out]; exact hkk)]; exact List.getElem_mem _
        have hnext := boundsOf_next fa (K := K1) (j := j) (by rw [HKL1.out]; exact hkk)
        have hlen : (boundsOf fa (K1.take j)).length = j := by rw [boundsOf_len, List.length_take, HKL1.out]; omega
        obtain ⟨a, hfy⟩ := Option.isSome_iff_exists.1 ((HDOM1.out.2 _).1 hym)
        obtain ⟨y, hy⟩ : ∃ y, K1.getD j 0 = y := ⟨_, rfl⟩
        rw [hy] at hcell hfy hnext
        rw [hfy] at hnext
        have hnext' : boundsOf fa (K1.take (j + 1)) = boundsOf fa (K1.take j) ++ [⟨y, a⟩] := hnext
        have HNX := Lib.hid hnext'
        have HLN := Lib.hid hlen
        have HFY := Lib.hid hfy
        have hyI := (hp5.1.dom hfy).1
        clear hy hym hnext hnext' hlen hfy
        obtain ⟨t0, t1, t2, t3⟩ := y7.c4
        go_wp2_with (first
          | (at_builtin; refine wp_append_b (w0 := w5) rfl _ _ rfl (.slice A1 j c1) (boundsOf fa (K1.take j)) y a w16.heap.size j HLN.out rfl rfl (Blk.new rfl) ((hbd.ext hb16).ext ((Ext.refl _).alloc _)) ((hek.trans hb16).alloc _) (by omega) ?_; intro A7 c7 w7 hM7 hb7)
          | (go_at_call 25; refine Calls.mono (age_mb y p n1 fa _ yp hyI a true (by rw [HFY.out]; rfl) (by rw [HFY.out]; rfl)) ?_; rintro e w16 ⟨rfl, hb16⟩))
        refine ⟨⟨j + 1, A7, c7, by go_num, by omega, by go_num, ?_, hb7⟩, ?_⟩
        · rw [HNX.out]
          exact hM7
        · simp [Go.RowKit.intOf]
          omega
      · obtain rfl : kl1 = j := by omega
        have etk : K1.take kl1 = K1 := List.take_of_length_le (by have := HKL1.out; omega)
        rw [etk] at hbd
        clear etk
        have hlb : (boundsOf fa K1).length = kl1 := by rw [boundsOf_len, HKL1.out]
        have hcx : kl1 ≤ c1 ∧ k64.C wr A1 kl1 (boundsOf fa K1) := by
          have := (Kd.R_reads' hbd).2
          rwa [hlb] at this
        obtain ⟨wp1, hwp⟩ : ∃ wp, wp = wr := ⟨wr, rfl⟩
        subst hwp
        have x9 := k9.ext hek
        have x10 := k10.ext hek
        have x12 := k12.ext hek
        have x15 := k15.ext hek
        have xp := hp5.ext hek
        have xq := hq5.ext hek
        have xj := hj5.ext hek
        have xu := hu5.ext hek
        have xx := hx5.trans hek
        clear k9 k10 k12 k15 hp5 hq5 hj5 hu5 hx5 hK1 hbd hek hc51
        obtain ⟨t0, t1, t2, t3⟩ := x10.c4
        go_wp2_with (go_at_call 28; refine Calls.mono (must_lines S W L q _ fb _ xq.1 (by omega)) ?_; rintro e w6 ⟨v6, K2, ⟨rfl, hdom2, hkl2⟩, hh2, hb6⟩; obtain ⟨A6, c6, rfl, hc62, hmx6, hK2⟩ := hh2.C; have HDOM2 := Lib.hid hdom2; clear hdom2 hh2)
        have k9 := x9.ext hb6
        have k10 := x10.ext hb6
        have k12 := x12.ext hb6
        have k15 := x15.ext hb6
        have hp6 := xp.ext hb6
        have hq6 := xq.ext hb6
        have hj6 := xj.ext hb6
        have hu6 := xu.ext hb6
        have hx6 := xx.trans hb6
        obtain ⟨hcl1, hL1'⟩ := hcx
        have hL1 := C_ext hL1' hb6
        clear x9 x10 x12 x15 xp xq xj xu xx hb6 hL1' t0 t1 t2 t3 hlb
        obtain ⟨AL, hAL⟩ : ∃ AL, A1 = AL := ⟨_, rfl⟩
        obtain ⟨cL, hcL⟩ : ∃ cL, c1 = cL := ⟨_, rfl⟩
        rw [hAL] at hL1 ⊢
        rw [hcL] at hcl1 ⊢
        clear hAL hcL
        obtain ⟨kl2, hkl2'⟩ : ∃ kl, K2.length = kl := ⟨_, rfl⟩
        rw [hkl2'] at hc62 hK2 hkl2 ⊢
        have HKL2 := Lib.hid hkl2'
        clear hkl2'
        go_loopw [17, 79] (fun v i wz => ∃ (j : Nat) (A1 : Option Addr) (c1 : Nat), i = .int .i64 j ∧ j ≤ kl2 ∧ v = .slice A1 j c1 ∧ BndB wz w6.heap.size (.slice A1 j c1) (boundsOf fb (K2.take j)) ∧ Ext w6 wz) (fun _ i _ => kl2 - (Go.RowKit.intOf i).toNat)
        case atStart => exact ⟨0, none, 0, rfl, Nat.zero_le _, rfl, BndB.nil _ _, Ext.refl _⟩
        case round =>
          obtain ⟨j, A1, c1, rfl, hj, rfl, hbd, hek⟩ := hrel
          by_cases hkk : j < kl2
          · have y7 := k10.ext hek
            have yp := hq6.ext hek
            obtain ⟨ad, rfl, hcell⟩ := at_num (C_ext hK2 hek) j hkk
            have hym : K2.getD j 0 ∈ K2 := by rw [List.getD_eq_getElem?_getD, List.getElem?_eq_getElem (by rw [HKL2.out]; exact hkk)]; exact List.getElem_mem _
            have hnext := boundsOf_next fb (K := K2) (j := j) (by rw [HKL2.out]; exact hkk)
            have hlen : (boundsOf fb (K2.take j)).length = j := by rw [boundsOf_len, List.length_take, HKL2.out]; omega
            obtain ⟨a, hfy⟩ := Option.isSome_iff_exists.1 ((HDOM2.out.2 _).1 hym)
            obtain ⟨y, hy⟩ : ∃ y, K2.getD j 0 = y := ⟨_, rfl⟩
            rw [hy] at hcell hfy hnext
            rw [hfy] at hnext
            have hnext' : boundsOf fb (K2.take (j + 1)) = boundsOf fb (K2.take j) ++ [⟨y, a⟩] := hnext
            have HNX := Lib.hid hnext'
            have HLN := Lib.hid hlen
            have HFY := Lib.hid hfy
            have hyI := (hq6.1.dom hfy).1
            clear hy hym hnext hnext' hlen hfy
            obtain ⟨t0, t1, t2, t3⟩ := y7.c4
            go_wp2_with (first
              | (at_builtin; refine wp_append_b (w0 := w6) rfl _ _ rfl (.slice A1 j c1) (boundsOf fb (K2.take j)) y a w16.heap.size j HLN.out rfl rfl (Blk.new rfl) ((hbd.ext hb16).ext ((Ext.refl _).alloc _)) ((hek.trans hb16).alloc _) (by omega) ?_; intro A7 c7 w7 hM7 hb7)
              | (go_at_call 25; refine Calls.mono (age_mb y q n2 fb _ yp hyI a true (by rw [HFY.out]; rfl) (by rw [HFY.out]; rfl)) ?_; rintro e w16 ⟨rfl, hb16⟩))
            refine ⟨⟨j + 1, A7, c7, by go_num, by omega, by go_num, ?_, hb7⟩, ?_⟩
            · rw [HNX.out]
              exact hM7
            · simp [Go.RowKit.intOf]
              omega
          · obtain rfl : kl2 = j := by omega
            have etk : K2.take kl2 = K2 := List.take_of_length_le (by have := HKL2.out; omega)
            rw [etk] at hbd
            clear etk
            have hlb : (boundsOf fb K2).length = kl2 := by rw [boundsOf_len, HKL2.out]
            have hcx : kl2 ≤ c1 ∧ k64.C wr A1 kl2 (boundsOf fb K2) := by
              have := (Kd.R_reads' hbd).2
              rwa [hlb] at this
            obtain ⟨wp2, hwp2⟩ : ∃ wp, wp = wr := ⟨wr, rfl⟩
            subst hwp2
            have x9 := k9.ext hek
            have x10 := k10.ext hek
            have x12 := k12.ext hek
            have x15 := k15.ext hek
            have xp := hp6.ext hek
            have xq := hq6.ext hek
            have xj := hj6.ext hek
            have xu := hu6.ext hek
            have xx := hx6.trans hek
            have xL := C_ext hL1 hek
            obtain ⟨hcl2, xM⟩ := hcx
            have HR1 : Hid (BRep (boundsOf fa K1) fa) := boundsOf_rep HDOM1.out
            have HR2 : Hid (BRep (boundsOf fb K2) fb) := boundsOf_rep HDOM2.out
            clear k9 k10 k12 k15 hp6 hq6 hj6 hu6 hx6 hK2 hbd hek hc62 hlb hL1
            obtain ⟨t90, t91, t92, t93⟩ := x9.c4
            obtain ⟨t100, t101, t102, t103⟩ := x10.c4
            obtain ⟨t120, t121, t122, t123⟩ := x12.c4
            obtain ⟨t150, t151, t152, t153⟩ := x15.c4
            go_wp2
            go_region_held3 (fun w' => w'.cell? ⟨w2.heap.size, 0, none⟩ = some (.int .i64 S) ∧ w'.cell? ⟨w2.heap.size, 1, none⟩ = some (.int .i64 W) ∧ w'.cell? ⟨w2.heap.size, 2, none⟩ = some (.int .i64 L) ∧ w'.cell? ⟨w2.heap.size, 3, none⟩ = some (.map p) ∧ w'.cell? ⟨w2.heap.size + 1, 0, none⟩ = some (.int .i64 S) ∧ w'.cell? ⟨w2.heap.size + 1, 1, none⟩ = some (.int .i64 W) ∧ w'.cell? ⟨w2.heap.size + 1, 2, none⟩ = some (.int .i64 L) ∧ w'.cell? ⟨w2.heap.size + 1, 3, none⟩ = some (.map q) ∧ w'.cell? ⟨w3.heap.size, 0, none⟩ = some (.int .i64 S) ∧ w'.cell? ⟨w3.heap.size, 1, none⟩ = some (.int .i64 W) ∧ w'.cell? ⟨w3.heap.size, 2, none⟩ = some (.int .i64 L) ∧ w'.cell? ⟨w3.heap.size, 3, none⟩ = some (.map pu) ∧ w'.cell? ⟨w4.heap.size, 0, none⟩ = some (.int .i64 S) ∧ w'.cell? ⟨w4.heap.size, 1, none⟩ = some (.int .i64 W) ∧ w'.cell? ⟨w4.heap.size, 2, none⟩ = some (.int .i64 L) ∧ w'.cell? ⟨w4.heap.size, 3, none⟩ = some (.map pj)) (go_keep)
              (first
                | (have gq := hE79; clear gq; go_at_call 31; refine Calls.mono (eq_yes p77 p79 _ _ _ _ _ (j77.ext (hb78.trans hb79)) j79 (fun x => uJoin_assoc fa fb fd x)) ?_; rintro e w80 ⟨rfl, hb80⟩; have hE80 : Ext wp2 w80 := hE79.trans hb80; obtain ⟨u90, u91, u92, u93⟩ := (x9.ext hE80).c4; obtain ⟨u100, u101, u102, u103⟩ := (x10.ext hE80).c4; obtain ⟨u120, u121, u122, u123⟩ := (x12.ext hE80).c4; obtain ⟨u150, u151, u152, u153⟩ := (x15.ext hE80).c4)
                | (have gq := hE78; clear gq; go_at_call 17; refine Calls.mono (must_join S W L p n1 fa p78 n2 (uJoin fb fd) _ (xp.ext hE78) j78 (by omega)) ?_; rintro e w79 ⟨p79, rfl, j79, hb79⟩; have hE79 : Ext wp2 w79 := hE78.trans hb79; obtain ⟨u90, u91, u92, u93⟩ := (x9.ext hE79).c4; obtain ⟨u100, u101, u102, u103⟩ := (x10.ext hE79).c4; obtain ⟨u120, u121, u122, u123⟩ := (x12.ext hE79).c4; obtain ⟨u150, u151, u152, u153⟩ := (x15.ext hE79).c4)
                | (have gq := hE77; clear gq; go_at_call 17; refine Calls.mono (must_join S W L q n2 fb pu n3 fd _ (xq.ext hE77) (xu.ext hE77) (by omega)) ?_; rintro e w78 ⟨p78, rfl, j78, hb78⟩; have hE78 : Ext wp2 w78 := hE77.trans hb78; obtain ⟨u90, u91, u92, u93⟩ := (x9.ext hE78).c4; obtain ⟨u100, u101, u102, u103⟩ := (x10.ext hE78).c4; obtain ⟨u120, u121, u122, u123⟩ := (x12.ext hE78).c4; obtain ⟨u150, u151, u152, u153⟩ := (x15.ext hE78).c4)
                | (have gq := hE76; clear gq; go_at_call 17; refine Calls.mono (must_join S W L pj n1 (uJoin fa fb) pu n3 fd _ (xj.ext hE76) (xu.ext hE76) (by omega)) ?_; rintro e w77 ⟨p77, rfl, j77, hb77⟩; have hE77 : Ext wp2 w77 := hE76.trans hb77; obtain ⟨u90, u91, u92, u93⟩ := (x9.ext hE77).c4; obtain ⟨u100, u101, u102, u103⟩ := (x10.ext hE77).c4; obtain ⟨u120, u121, u122, u123⟩ := (x12.ext hE77).c4; obtain ⟨u150, u151, u152, u153⟩ := (x15.ext hE77).c4)
                | (have gq := hE75; clear gq; go_at_call 31; refine Calls.mono (eq_yes p75 p _ _ _ _ _ j75 (xp.ext hE75) (fun x => uJoin_self fa x)) ?_; rintro e w76 ⟨rfl, hb76⟩; have hE76 : Ext wp2 w76 := hE75.trans hb76; obtain ⟨u90, u91, u92, u93⟩ := (x9.ext hE76).c4; obtain ⟨u100, u101, u102, u103⟩ := (x10.ext hE76).c4; obtain ⟨u120, u121, u122, u123⟩ := (x12.ext hE76).c4; obtain ⟨u150, u151, u152, u153⟩ := (x15.ext hE76).c4)
                | (have gq := hE74; clear gq; go_at_call 17; refine Calls.mono (must_join S W L p n1 fa p n1 fa _ (xp.ext hE74) (xp.ext hE74) (by omega)) ?_; rintro e w75 ⟨p75, rfl, j75, hb75⟩; have hE75 : Ext wp2 w75 := hE74.trans hb75; obtain ⟨u90, u91, u92, u93⟩ := (x9.ext hE75).c4; obtain ⟨u100, u101, u102, u103⟩ := (x10.ext hE75).c4; obtain ⟨u120, u121, u122, u123⟩ := (x12.ext hE75).c4; obtain ⟨u150, u151, u152, u153⟩ := (x15.ext hE75).c4)
                | (have gq := hE73; clear gq; go_at_call 31; refine Calls.mono (eq_yes pj p73 _ _ _ _ _ (xj.ext hE73) j73 (fun x => uJoin_comm fa fb x)) ?_; rintro e w74 ⟨rfl, hb74⟩; have hE74 : Ext wp2 w74 := hE73.trans hb74; obtain ⟨u90, u91, u92, u93⟩ := (x9.ext hE74).c4; obtain ⟨u100, u101, u102, u103⟩ := (x10.ext hE74).c4; obtain ⟨u120, u121, u122, u123⟩ := (x12.ext hE74).c4; obtain ⟨u150, u151, u152, u153⟩ := (x15.ext hE74).c4)
                | (have gq := hE72; clear gq; go_at_call 17; refine Calls.mono (must_join S W L q n2 fb p n1 fa _ (xq.ext hE72) (xp.ext hE72) (by omega)) ?_; rintro e w73 ⟨p73, rfl, j73, hb73⟩; have hE73 : Ext wp2 w73 := hE72.trans hb73; obtain ⟨u90, u91, u92, u93⟩ := (x9.ext hE73).c4; obtain ⟨u100, u101, u102, u103⟩ := (x10.ext hE73).c4; obtain ⟨u120, u121, u122, u123⟩ := (x12.ext hE73).c4; obtain ⟨u150, u151, u152, u153⟩ := (x15.ext hE73).c4)
                | (have gq := hE71; clear gq; go_at_call 23; refine Calls.mono (same_at pj n1 (uJoin fa fb) A71 c71 n71 r71 _ (xj.ext hE71) (by omega) HRJ.out hC71 hc71 (by omega)) ?_; rintro e w72 ⟨rfl, hb72⟩; have hE72 : Ext wp2 w72 := hE71.trans hb72; obtain ⟨u90, u91, u92, u93⟩ := (x9.ext hE72).c4; obtain ⟨u100, u101, u102, u103⟩ := (x10.ext hE72).c4; obtain ⟨u120, u121, u122, u123⟩ := (x12.ext hE72).c4; obtain ⟨u150, u151, u152, u153⟩ := (x15.ext hE72).c4)
                | (go_at_call 34; refine Calls.mono (ref_join AL cL kl1 (boundsOf fa K1) A1 c1 kl2 (boundsOf fb K2) fa fb W _ HR1.out HR2.out xq.2 (C_ext xL (Ext.drew (Ext.refl _))) hcl1 (C_ext xM (Ext.drew (Ext.refl _))) hcl2 (by omega) (by omega)) ?_; rintro e w71 ⟨A71, n71, c71, r71, rfl, ⟨hc71, hn71, hC71⟩, hrj, hb71⟩; have HRJ := Lib.hid hrj; clear hrj; have hE71 : Ext wp2 w71 := (Ext.drew (Ext.refl _)).trans hb71; obtain ⟨u90, u91, u92, u93⟩ := (x9.ext hE71).c4; obtain ⟨u100, u101, u102, u103⟩ := (x10.ext hE71).c4; obtain ⟨u120, u121, u122, u123⟩ := (x12.ext hE71).c4; obtain ⟨u150, u151, u152, u153⟩ := (x15.ext hE71).c4))
            all_goals
              have y9 := x9.ext hE80
              have y10 := x10.ext hE80
              have yp := xp.ext hE80
              have yq := xq.ext hE80
              have yL := C_ext xL hE80
              have yM := C_ext xM hE80
              have yx := xx.trans hE80
              clear x9 x10 x12 x15 xp xq xj xu xx xL xM
              go_wp2
              go_loopw [26, 137] (fun v i wz => ∃ (j : Nat) (bo : Bool), v = .bool bo ∧ i = .int .i64 j ∧ j ≤ kl1 ∧ Ext w80 wz ∧ Hid (bo = true ↔ (kl1 = kl2 ∧ ∀ i, i < j → fb (K1.getD i 0) = fa (K1.getD i 0)))) (fun _ i _ => kl1 - (Go.RowKit.intOf i).toNat)
              case atStart => exact ⟨0, _, rfl, rfl, Nat.zero_le _, Ext.refl _, by show _ ↔ _; simp; omega⟩
              case round =>
                obtain ⟨j, bo, rfl, rfl, hj, hek, HB⟩ := hrel
                by_cases hkk : j < kl1
                · obtain ⟨ad, rfl, d0, d1⟩ := at_bound (C_ext yL hek) j hkk
                  have hym : K1.getD j 0 ∈ K1 := by rw [List.getD_eq_getElem?_getD, List.getElem?_eq_getElem (by rw [HKL1.out]; exact hkk)]; exact List.getElem_mem _
                  rw [boundsOf_get fa (K := K1) (j := j) (by rw [HKL1.out]; exact hkk)] at d0 d1
                  obtain ⟨a, hfy⟩ := Option.isSome_iff_exists.1 ((HDOM1.out.2 _).1 hym)
                  have HNB : Hid (∀ b2 : Bool, (b2 = true ↔ (bo = true ∧ fb (K1.getD j 0) = some a)) → (b2 = true ↔ (kl1 = kl2 ∧ ∀ i, i < j + 1 → fb (K1.getD i 0) = fa (K1.getD i 0)))) := fun b2 h2 => by
                    rw [h2, HB.out, ← hfy]
                    constructor
                    · rintro ⟨⟨h3, h4⟩, h5⟩
                      refine ⟨h3, fun i hi => ?_⟩
                      by_cases c : i = j
                      · rw [c]; exact h5
                      · exact h4 i (by omega)
                    · rintro ⟨h3, h4⟩
                      exact ⟨⟨h3, fun i hi => h4 i (by omega)⟩, h4 j (by omega)⟩
                  obtain ⟨y, hy⟩ : ∃ y, K1.getD j 0 = y := ⟨_, rfl⟩
                  rw [hy] at d0 d1 hfy HNB
                  dsimp only at d0 d1
                  rw [hfy] at d1
                  have d1' : wr.cell? ⟨(ad.add (j * 2)).block, (ad.add (j * 2)).off + 1, none⟩ = some (.int .i64 a) := d1
                  have ha0 := (yp.2 y a hfy).2.1
                  clear hy hym d1 hfy HB
                  cases bo with
                  | false =>
                    have HN2 := Lib.hid (HNB.out false (by simp))
                    clear HNB
                    go_wp2
                    refine wp_region_m (by kernel_rfl) ?_
                    repeat (
                      first
                        | go_big_quiet_skip
                        | (go_big_quiet_want
                           go_big_quiet_op
                           go_big_quiet_on)
                        | (refine wpQuiet_step (fun K hK => ?_)
                           go_simp
                           first
                             | (refine hK _ ?_; clear hK K)
                             | (refine ⟨_, fun w' hw' => rfl, hK _ ?_⟩; clear hK K)))
                    refine wpQuiet_nil ?_
                    intro w92 hb92
                    go_wp2
                    refine ⟨⟨j + 1, false, by go_num, by go_num, by omega, hek.trans (((Ext.refl wr).alloc _).trans hb92), HN2⟩, ?_⟩
                    simp [Go.RowKit.intOf]
                    omega
                  | true =>
                    have kb : Blk (wr.alloc (bndO y a)) wr.heap.size (bndO y a) := Blk.new rfl
                    have yM2 := C_ext yM (hek.trans ((Ext.refl wr).alloc (bndO y a)))
                    by_cases hfb : fb y = some a
                    · have HN2 := Lib.hid (HNB.out true (by simp [hfb]))
                      have HFB := Lib.hid hfb
                      clear HNB hfb
                      go_wp2
                      refine wp_region_m (by kernel_rfl) ?_
                      repeat (
                        first
                          | go_big_quiet_skip
                          | (go_big_quiet_want
                             go_big_quiet_op
                             first
                               | go_big_quiet_on
                               | (apply Exists.intro
                                  refine ⟨fun w' hw' => ?_, ?_⟩
                                  · (first
                                    | (go_at_call 26; (refine Calls.mono (find_at A1 c1 kl2 (boundsOf fb K2) fb HR2.out y a (by rw [HFB.out]; rfl) w' (C_ext yM2 hw') hcl2 (by omega)) ?_); rintro e w'' ⟨rfl, hx⟩; exact ⟨rfl, hw'.trans hx⟩)
                                    | (obtain ⟨q0, q1, q2, q3⟩ := (kb.ext hw').c2; go_simp; rfl))
                                  go_big_quiet_on)))
                      refine wpQuiet_nil ?_
                      intro w92 hb92
                      go_wp2
                      refine ⟨⟨j + 1, true, by go_num, by go_num, by omega, hek.trans (((Ext.refl wr).alloc _).trans hb92), by show _ ↔ _; simpa using HN2.out⟩, ?_⟩
                      simp [Go.RowKit.intOf]
                      omega
                    · have HN2 := Lib.hid (HNB.out false (by simp [hfb]))
                      obtain ⟨rr, hrr⟩ : ∃ rr, (fb y).getD (-1) = rr := ⟨_, rfl⟩
                      have hne : (rr == a) = false := by
                        rw [← hrr]
                        cases e : fb y with
                        | none => simp; omega
                        | some d =>
                          simp only [Option.getD_some]
                          simp
                          intro e2
                          exact hfb (by rw [e, e2])
                      have HFB := Lib.hid hrr
                      clear HNB hfb hrr
                      go_wp2
                      refine wp_region_m (by kernel_rfl) ?_
                      repeat (
                        first
                          | go_big_quiet_skip
                          | (go_big_quiet_want
                             go_big_quiet_op
                             first
                               | go_big_quiet_on
                               | (apply Exists.intro
                                  refine ⟨fun w' hw' => ?_, ?_⟩
                                  · (first
                                    | (go_at_call 26; (refine Calls.mono (find_at A1 c1 kl2 (boundsOf fb K2) fb HR2.out y rr HFB.out w' (C_ext yM2 hw') hcl2 (by omega)) ?_); rintro e w'' ⟨rfl, hx⟩; exact ⟨rfl, hw'.trans hx⟩)
                                    | (obtain ⟨q0, q1, q2, q3⟩ := (kb.ext hw').c2; go_simp; rfl))
                                  go_big_quiet_on)))
                      refine wpQuiet_nil ?_
                      intro w92 hb92
                      go_wp2
                      refine ⟨⟨j + 1, false, by go_num, by go_num, by omega, hek.trans (((Ext.refl wr).alloc _).trans hb92), HN2⟩, ?_⟩
                      simp [Go.RowKit.intOf]
                      omega
                · obtain rfl : kl1 = j := by omega
                  have HBB : Hid (bo = true ↔ ∀ x, fa x = fb x) := by
                    show _ ↔ _
                    rw [HB.out, ← equal_iff HDOM1.out HDOM2.out, HKL1.out, HKL2.out]
                  have z9 := y9.ext hek
                  have z10 := y10.ext hek
                  have zp := yp.ext hek
                  have zq := yq.ext hek
                  have zx := yx.trans hek
                  have hl9 := z9.lt
                  have hl10 := z10.lt
                  clear HB y9 y10 yp yq yx hek
                  obtain ⟨t90, t91, t92, t93⟩ := z9.c4
                  obtain ⟨t100, t101, t102, t103⟩ := z10.c4
                  go_wp2_with (first
                    | (have gq := hb95; clear gq; go_at_call 31; refine Calls.mono (must_equal_no g p none _) ?_; rintro e w96 ⟨rfl, hb96⟩)
                    | (have gq := hb94; clear gq; go_at_call 31; refine Calls.mono (eq_zero _) ?_; rintro e w95 ⟨rfl, hb95'⟩; have hb95 := hb94.trans hb95'; obtain ⟨u0, u1, u2, u3⟩ := (kz.ext hb95).c4; obtain ⟨v0, v1, v2, v3⟩ := (z9.ext (hb93.trans (((Ext.refl w93).alloc _).trans hb95))).c4)
                    | (have gq := hb93; clear gq; go_at_call 31; refine Calls.mono (eq_B p q _ _ fa fb _ ((zp.ext hb93).alloc _) ((zq.ext hb93).alloc _) bo HBB.out) ?_; rintro e w94 ⟨rfl, hb94⟩; have kz : Blk (w93.alloc zMust) w93.heap.size zMust := Blk.new rfl; obtain ⟨u0, u1, u2, u3⟩ := (kz.ext hb94).c4; obtain ⟨v0, v1, v2, v3⟩ := (z9.ext (hb93.trans (((Ext.refl w93).alloc _).trans hb94))).c4)
                    | (go_at_call 17; refine Calls.mono (must_join_zero g p none _) ?_; rintro e w93 ⟨rfl, hb93⟩; have hq93 := hb93.size; have hl93 : w2.heap.size < w93.heap.size := (by omega); have hm93 : w2.heap.size + 1 < w93.heap.size := (by omega); obtain ⟨v0, v1, v2, v3⟩ := (z9.ext hb93).c4; obtain ⟨s0, s1, s2, s3⟩ := (z10.ext hb93).c4))
                  go_ret
                  exact ⟨by simp, zx.trans (hb93.trans (((Ext.refl w93).alloc _).trans (hb95.trans hb96)))⟩
end Go.Proofs.Ytaekkfgggmighaa
