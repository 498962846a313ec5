/- The contract of ontimelaw31.after. -/
import Derived.Test.YtjckghdgogkeaaaZSo4
import Derived.Test.YtjckghdgogkeaaaZSo1
import Derived.Test.YtjckghdgogkeaaaZSo2
import Derived.Deep.RegionHeld3
import Derived.Deep.DeepCutAuto
import Derived.Deep.CutRange
import Derived.Deep.DrawnRows
import Derived.WalkKit
import Derived.ProofKit
import Derived.OpenShut
import Derived.ChangeOld
import Derived.Below
import Derived.Carry
import Derived.SizedLaws
import Derived.Deep.Slices
import Derived.Deep.Fields
import Derived.ChangeSame
import Derived.Deep.Matrix
import Derived.Lib.SmallJoins
namespace Go.Proofs.Ytjckghdgogkeaaa
open Go.RowKit Go.Maps Go.Proofs.YtjckghdgogkeaaaW.PrintWords Go.Proofs.Ytjckghdgogkeaaa.PMayDescribes
set_option linter.unusedVariables false

theorem at_step {w : World} {A : Option Addr} {n : Nat} {xs : List S45} (h : k45.C w A n xs) (k : Nat) (hk : k < n) : ∃ ad, A = some ad ∧ w.cell? (ad.add (k * 3)) = some (.int .i64 (xs.getD k z45).f0) ∧ w.cell? ⟨(ad.add (k * 3)).block, (ad.add (k * 3)).off + 1, none⟩ = some (.int .i64 (xs.getD k z45).f1) ∧ w.cell? ⟨(ad.add (k * 3)).block, (ad.add (k * 3)).off + 2, none⟩ = some (.int .u8 (xs.getD k z45).f2) := by
  have := at_T45 h (k : Int) (by omega) (by omega)
  simpa [rd_T45] using this

abbrev zMay : Obj := .cells #[.int .i64 0, .int .i64 0, .int .i64 0, .bool false, .map none] 31
abbrev mayO (S W L : Int) (u : Bool) (p : Option Nat) : Obj := .cells #[.int .i64 S, .int .i64 W, .int .i64 L, .bool u, .map p] 31
abbrev zRef : Obj := .cells #[.int .i64 0, .int .i64 0, .int .i64 0, .bool false, .slice none 0 0] 34
abbrev refO (S W L : Int) (u : Bool) (v : Value) : Obj := .cells #[.int .i64 S, .int .i64 W, .int .i64 L, .bool u, v] 34

section
variable {w : World} {B : Nat} {a b c d e a' b' c' d' e' : Value} {t : TypeId}
/-- A store of a whole struct of five cells. -/
theorem Blk.put5 (h : Blk w B (.cells #[a, b, c, d, e] t)) : Blk (((((w.setCell ⟨B, 0, none⟩ a').setCell ⟨B, 1, none⟩ b').setCell ⟨B, 2, none⟩ c').setCell ⟨B, 3, none⟩ d').setCell ⟨B, 4, none⟩ e') B (.cells #[a', b', c', d', e'] t) := by
  have := ((((h.put (k := 0) (u := a')).put (k := 1) (u := b')).put (k := 2) (u := c')).put (k := 3) (u := d')).put (k := 4) (u := e')
  exact this
theorem RfB.set5 {base : Nat} {v : Value} {l : List S81} (h : RfB w base v l) (hb : Blk w B (.cells #[a, b, c, d, e] t)) (ht : t ≠ 81) : RfB (((((w.setCell ⟨B, 0, none⟩ a').setCell ⟨B, 1, none⟩ b').setCell ⟨B, 2, none⟩ c').setCell ⟨B, 3, none⟩ d').setCell ⟨B, 4, none⟩ e') base v l :=
  ((((h.set hb ht).set (hb.put) ht).set (hb.put.put) ht).set (hb.put.put.put) ht).set (hb.put.put.put.put) ht
end

set_option maxHeartbeats 1000000 in
theorem after_st {S W L : Int} (g : Geo S W L) (A : Option Addr) (c : Nat) (l : List S45) (w : World) (hr : k45.C w A l.length l) (hl : l.length ≤ 100) (hb : ∀ x ∈ l, -4000 ≤ x.f0 ∧ x.f0 ≤ 4000 ∧ -4000 ≤ x.f1 ∧ x.f1 ≤ 4000) :
    Calls Try.prog 13 #[.agg #[.int .i64 S, .int .i64 W, .int .i64 L], .slice A l.length c] w fun e w' => ∃ u p v, e = .returned (.tuple #[.agg #[.int .i64 S, .int .i64 W, .int .i64 L, .bool u, .map p], .agg #[.int .i64 S, .int .i64 W, .int .i64 L, .bool (rSteps S W (false, []) l).1, v]]) ∧ StB w' W (64 * l.length) (sSteps S W (some noF) l) u p ∧ RfB w' w.heap.size v (rSteps S W (false, []) l).2 ∧ Ext w w' := by
  obtain ⟨n, hn⟩ : ∃ n, n = l.length := ⟨_, rfl⟩
  rw [← hn] at hr hl ⊢
  have HN := Lib.hid hn; clear hn
  have HB := Lib.hid hb; clear hb
  go_enter Try.func13, Try.ntmps13
  go_wp2_with (go_at_call 21; refine Calls.mono (may_new_yes g _) ?_; rintro e w1 ⟨rfl, hb1⟩; have hz1 := hb1.size; simp at hz1; have q1 : w.heap.size < w1.heap.size := (by omega); obtain ⟨a0, a1, a2⟩ := Blk.c3 (w := w1) (B := w.heap.size) (by repeat (first | (with_reducible assumption) | ((with_reducible refine Blk.new ?_); (first | (focus rfl) | (focus (simp; done)) | (focus omega))) | ((with_reducible refine Blk.set1 ?_ ?_); (focus omega)) | (with_reducible refine Blk.alloc ?_) | (refine Blk.ext ?_ (by with_reducible assumption)))))
  go_loopw [20] (fun i wr => ∃ (k : Nat) (u : Bool) (p : Option Nat) (v : Value), i = .int .i64 k ∧ k ≤ n ∧ (Blk wr (w.heap.size + 1) zMay ∧ Blk wr (w.heap.size + 1 + 1) zRef ∧ Blk wr w1.heap.size (mayO S W L u p) ∧ Blk wr (w1.heap.size + 1) (refO S W L (rSteps S W (false, []) (l.take k)).1 v) ∧
      StB wr W (64 * k) (sSteps S W (some noF) (l.take k)) u p ∧ RfB wr w.heap.size v (rSteps S W (false, []) (l.take k)).2 ∧ Ext w wr)) (fun i _ => n - (Go.RowKit.intOf i).toNat)
  case atStart =>
    have e0 : rSteps S W (false, []) (l.take 0) = (false, []) := rfl
    refine ⟨0, false, none, .slice none 0 0, rfl, Nat.zero_le _, (by repeat (first | (with_reducible assumption) | ((with_reducible refine Blk.new ?_); (first | (focus rfl) | (focus (simp; done)) | (focus omega))) | ((with_reducible refine Blk.set1 ?_ ?_); (focus omega)) | (with_reducible refine Blk.alloc ?_) | (refine Blk.ext ?_ (by with_reducible assumption)))), (by repeat (first | (with_reducible assumption) | ((with_reducible refine Blk.new ?_); (first | (focus rfl) | (focus (simp; done)) | (focus omega))) | ((with_reducible refine Blk.set1 ?_ ?_); (focus omega)) | (with_reducible refine Blk.alloc ?_) | (refine Blk.ext ?_ (by with_reducible assumption)))), (by repeat (first | (with_reducible assumption) | ((with_reducible refine Blk.new ?_); (first | (focus rfl) | (focus (simp; done)) | (focus omega))) | ((with_reducible refine Blk.set1 ?_ ?_); (focus omega)) | (with_reducible refine Blk.alloc ?_) | (refine Blk.ext ?_ (by with_reducible assumption)))), ?_, StB.nil _ _ _, ?_, (by repeat (first | ((with_reducible refine Ext.set1 ?_ ?_); (first | (focus (simp; done)) | (focus (simp; omega)) | (focus omega))) | (with_reducible refine Ext.alloc ?_ _) | (with_reducible exact Ext.refl _) | (refine Ext.trans ?_ (by with_reducible assumption))))⟩
    · rw [e0]
      exact (by repeat (first | (with_reducible assumption) | ((with_reducible refine Blk.new ?_); (first | (focus rfl) | (focus (simp; done)) | (focus omega))) | ((with_reducible refine Blk.set1 ?_ ?_); (focus omega)) | (with_reducible refine Blk.alloc ?_) | (refine Blk.ext ?_ (by with_reducible assumption))))
    · rw [e0]
      exact Kd.R_nil _ _ _ _ _
  case round =>
    obtain ⟨k, u, p, v, rfl, hk, k1, k2, k3, k4, hst, hrf, hext⟩ := hrel
    clear a0 a1 a2
    have hl1 := k1.lt
    have hl3 := k3.lt
    have hl4 := k4.lt
    by_cases hlt : k < n
    · have hr1 := C_ext hr hext
      obtain ⟨ad, rfl, c0, c1, c2⟩ := at_step hr1 k hlt
      have hlk : k < l.length := by rw [← HN.out]; exact hlt
      have hxm : l.getD k z45 ∈ l := by
        rw [List.getD_eq_getElem?_getD, List.getElem?_eq_getElem hlk]
        exact List.getElem_mem hlk
      have hbx := HB.out _ hxm
      have htk : l.take (k + 1) = l.take k ++ [l.getD k z45] := by
        rw [List.take_add_one, List.getElem?_eq_getElem hlk, List.getD_eq_getElem?_getD, List.getElem?_eq_getElem hlk]
        rfl
      have es : sSteps S W (some noF) (l.take (k + 1)) = sStep S W (sSteps S W (some noF) (l.take k)) (l.getD k z45).f0 (l.getD k z45).f1 := by
        rw [htk]
        simp [sSteps, List.foldl_append]
      have er : rSteps S W (false, []) (l.take (k + 1)) = rStep S W (rSteps S W (false, []) (l.take k)) (l.getD k z45).f0 (l.getD k z45).f1 := by
        rw [htk]
        simp [rSteps, List.foldl_append]
      have hfit : FitL W (rSteps S W (false, []) (l.take k)).2 := (Rel.steps (by have := g.s1; omega) g.w1 (l.take k) (Rel.start W)).fit
      have hlen : (rSteps S W (false, []) (l.take k)).2.length < 50000 := by
        have h1 := rSteps_len S W (l.take k) (false, [])
        have h2 : (l.take k).length ≤ 100 := by rw [List.length_take]; omega
        simp only [List.length_nil] at h1
        omega
      clear hxm htk
      obtain ⟨⟨x0, x1, x2⟩, hx⟩ : ∃ x, x = l.getD k z45 := ⟨_, rfl⟩
      rw [← hx] at c0 c1 c2 hbx es er
      dsimp only at c0 c1 c2 hbx es er
      clear hx
      obtain ⟨s, hs⟩ : ∃ s, s = rSteps S W (false, []) (l.take k) := ⟨_, rfl⟩
      rw [← hs] at k4 hrf er hfit hlen
      clear hs
      obtain ⟨st, hs⟩ : ∃ st, st = sSteps S W (some noF) (l.take k) := ⟨_, rfl⟩
      rw [← hs] at hst es
      clear hs
      have ER := Lib.hid er
      have ES := Lib.hid es
      clear er es
      obtain ⟨d0, d1, d2, d3, d4⟩ := k3.c5
      obtain ⟨b0, b1, b2, b3⟩ := hbx
      by_cases hx : x0 = x1
      · subst hx
        go_wp2_with (first
          | (have gq := hb2; clear gq; go_at_call 33; have hrfE := RfB.set5 (a' := .int .i64 S) (b' := .int .i64 W) (c' := .int .i64 L) (d' := .bool u2) (e' := .map p2) (hrf2) m3 (by decide); refine Calls.mono (rstep_acc g x0 s v w _ (by repeat (first | ((with_reducible refine Ext.set1 ?_ ?_); (first | (focus (simp; done)) | (focus (simp; omega)) | (focus omega))) | (with_reducible refine Ext.alloc ?_ _) | (with_reducible exact Ext.refl _) | (refine Ext.trans ?_ (by with_reducible assumption)))) hrfE hfit hlen) ?_; rintro e w3 ⟨v3, rfl, hrf3, hext3, hk3⟩; obtain ⟨A3, cc3, rfl⟩ := Kd.R_slice hrf3; have y1 : Blk w3 (w.heap.size + 1) zMay := kept_blk hrfE hk3 (by repeat (first | (with_reducible assumption) | ((with_reducible refine Blk.new ?_); (first | (focus rfl) | (focus (simp; done)) | (focus omega))) | ((with_reducible refine Blk.set1 ?_ ?_); (focus omega)) | (with_reducible refine Blk.alloc ?_) | (refine Blk.ext ?_ (by with_reducible assumption)))) (by decide); have y2 : Blk w3 (w.heap.size + 1 + 1) zRef := kept_blk hrfE hk3 (by repeat (first | (with_reducible assumption) | ((with_reducible refine Blk.new ?_); (first | (focus rfl) | (focus (simp; done)) | (focus omega))) | ((with_reducible refine Blk.set1 ?_ ?_); (focus omega)) | (with_reducible refine Blk.alloc ?_) | (refine Blk.ext ?_ (by with_reducible assumption)))) (by decide); have y3 : Blk w3 w1.heap.size (mayO S W L u2 p2) := kept_blk hrfE hk3 (Blk.put5 m3) (by decide); have y4 : Blk w3 (w1.heap.size + 1) (refO S W L s.1 v) := kept_blk hrfE hk3 (by repeat (first | (with_reducible assumption) | ((with_reducible refine Blk.new ?_); (first | (focus rfl) | (focus (simp; done)) | (focus omega))) | ((with_reducible refine Blk.set1 ?_ ?_); (focus omega)) | (with_reducible refine Blk.alloc ?_) | (refine Blk.ext ?_ (by with_reducible assumption)))) (by decide); have yst := kept_st hrfE hk3 (W := W) (n := 64 * k + 64) (st := sStep S W st x0 x0) (u := u2) (p := p2) (by repeat (first | (with_reducible assumption) | (with_reducible refine StB.set ?_) | (with_reducible refine StB.alloc ?_ _) | (refine StB.ext ?_ (by with_reducible assumption)))); obtain ⟨r0, r1, r2, r3, r4⟩ := y4.c5; obtain ⟨s0, s1, s2, s3, s4⟩ := y4.f5)
          | (go_at_call 18; refine Calls.mono (step_st g x0 x0 x2 (by omega) u p (64 * k) st _ (by repeat (first | (with_reducible assumption) | (with_reducible refine StB.set ?_) | (with_reducible refine StB.alloc ?_ _) | (refine StB.ext ?_ (by with_reducible assumption)))) (by omega)) ?_; rintro e w2 ⟨u2, p2, rfl, hst2, hb2⟩; have hz2 := hb2.size; simp at hz2; have q2 : wr.heap.size < w2.heap.size := (by omega); have q3 : w1.heap.size < w2.heap.size := (by omega); have q4 : w1.heap.size + 1 < w2.heap.size := (by omega); obtain ⟨i0, i1, i2⟩ := Blk.c3 (w := w2) (B := wr.heap.size) (by repeat (first | (with_reducible assumption) | ((with_reducible refine Blk.new ?_); (first | (focus rfl) | (focus (simp; done)) | (focus omega))) | ((with_reducible refine Blk.set1 ?_ ?_); (focus omega)) | (with_reducible refine Blk.alloc ?_) | (refine Blk.ext ?_ (by with_reducible assumption)))); obtain ⟨j0, j1, j2, j3, j4⟩ := Blk.c5 (w := w2) (B := w1.heap.size + 1) (by repeat (first | (with_reducible assumption) | ((with_reducible refine Blk.new ?_); (first | (focus rfl) | (focus (simp; done)) | (focus omega))) | ((with_reducible refine Blk.set1 ?_ ?_); (focus omega)) | (with_reducible refine Blk.alloc ?_) | (refine Blk.ext ?_ (by with_reducible assumption)))); have m3 : Blk w2 w1.heap.size (mayO S W L u p) := (by repeat (first | (with_reducible assumption) | ((with_reducible refine Blk.new ?_); (first | (focus rfl) | (focus (simp; done)) | (focus omega))) | ((with_reducible refine Blk.set1 ?_ ?_); (focus omega)) | (with_reducible refine Blk.alloc ?_) | (refine Blk.ext ?_ (by with_reducible assumption)))); obtain ⟨n0, n1, n2, n3, n4⟩ := m3.f5; obtain ⟨o0, o1, o2, o3, o4⟩ := m3.c5; have hrf2 := (hrf.alloc _).ext hb2))
        go_roundw
        case rel =>
          refine ⟨k + 1, u2, p2, .slice A3 (rAcc S W s x0).2.length cc3, by go_num, by omega, (by repeat (first | (with_reducible assumption) | ((with_reducible refine Blk.new ?_); (first | (focus rfl) | (focus (simp; done)) | (focus omega))) | ((with_reducible refine Blk.set1 ?_ ?_); (focus omega)) | (with_reducible refine Blk.alloc ?_) | (refine Blk.ext ?_ (by with_reducible assumption)))), (by repeat (first | (with_reducible assumption) | ((with_reducible refine Blk.new ?_); (first | (focus rfl) | (focus (simp; done)) | (focus omega))) | ((with_reducible refine Blk.set1 ?_ ?_); (focus omega)) | (with_reducible refine Blk.alloc ?_) | (refine Blk.ext ?_ (by with_reducible assumption)))), (by repeat (first | (with_reducible assumption) | ((with_reducible refine Blk.new ?_); (first | (focus rfl) | (focus (simp; done)) | (focus omega))) | ((with_reducible refine Blk.set1 ?_ ?_); (focus omega)) | (with_reducible refine Blk.alloc ?_) | (refine Blk.ext ?_ (by with_reducible assumption)))), ?_, ?_, ?_, (by repeat (first | ((with_reducible refine Ext.set1 ?_ ?_); (first | (focus (simp; done)) | (focus (simp; omega)) | (focus omega))) | (with_reducible refine Ext.alloc ?_ _) | (with_reducible exact Ext.refl _) | (refine Ext.trans ?_ (by with_reducible assumption))))⟩
          · rw [ER.out]
            unfold rStep
            rw [if_pos rfl]
            exact Blk.put5 y4
          · rw [ES.out]
            have yst' := yst.mono (n' := 64 * (k + 1)) (by omega)
            clear yst
            exact (by repeat (first | (with_reducible assumption) | (with_reducible refine StB.set ?_) | (with_reducible refine StB.alloc ?_ _) | (refine StB.ext ?_ (by with_reducible assumption))))
          · rw [ER.out]
            unfold rStep
            rw [if_pos rfl]
            exact RfB.set5 hrf3 y4 (by decide)
        case measure => simp [Go.RowKit.intOf]; omega
      · have hx2 : (x0 == x1) = false := by simpa using hx
        have HX := Lib.hid hx; clear hx
        go_wp2_with (first
          | (have gq := hb2; clear gq; go_at_call 34; have hrfE := RfB.set5 (a' := .int .i64 S) (b' := .int .i64 W) (c' := .int .i64 L) (d' := .bool u2) (e' := .map p2) (hrf2) m3 (by decide); refine Calls.mono (rstep_range g x0 x1 ⟨b0, b1⟩ ⟨b2, b3⟩ s v w _ (by repeat (first | ((with_reducible refine Ext.set1 ?_ ?_); (first | (focus (simp; done)) | (focus (simp; omega)) | (focus omega))) | (with_reducible refine Ext.alloc ?_ _) | (with_reducible exact Ext.refl _) | (refine Ext.trans ?_ (by with_reducible assumption)))) hrfE hfit hlen) ?_; rintro e w3 ⟨v3, rfl, hrf3, hext3, hk3⟩; obtain ⟨A3, cc3, rfl⟩ := Kd.R_slice hrf3; have y1 : Blk w3 (w.heap.size + 1) zMay := kept_blk hrfE hk3 (by repeat (first | (with_reducible assumption) | ((with_reducible refine Blk.new ?_); (first | (focus rfl) | (focus (simp; done)) | (focus omega))) | ((with_reducible refine Blk.set1 ?_ ?_); (focus omega)) | (with_reducible refine Blk.alloc ?_) | (refine Blk.ext ?_ (by with_reducible assumption)))) (by decide); have y2 : Blk w3 (w.heap.size + 1 + 1) zRef := kept_blk hrfE hk3 (by repeat (first | (with_reducible assumption) | ((with_reducible refine Blk.new ?_); (first | (focus rfl) | (focus (simp; done)) | (focus omega))) | ((with_reducible refine Blk.set1 ?_ ?_); (focus omega)) | (with_reducible refine Blk.alloc ?_) | (refine Blk.ext ?_ (by with_reducible assumption)))) (by decide); have y3 : Blk w3 w1.heap.size (mayO S W L u2 p2) := kept_blk hrfE hk3 (Blk.put5 m3) (by decide); have y4 : Blk w3 (w1.heap.size + 1) (refO S W L s.1 v) := kept_blk hrfE hk3 (by repeat (first | (with_reducible assumption) | ((with_reducible refine Blk.new ?_); (first | (focus rfl) | (focus (simp; done)) | (focus omega))) | ((with_reducible refine Blk.set1 ?_ ?_); (focus omega)) | (with_reducible refine Blk.alloc ?_) | (refine Blk.ext ?_ (by with_reducible assumption)))) (by decide); have yst := kept_st hrfE hk3 (W := W) (n := 64 * k + 64) (st := sStep S W st x0 x1) (u := u2) (p := p2) (by repeat (first | (with_reducible assumption) | (with_reducible refine StB.set ?_) | (with_reducible refine StB.alloc ?_ _) | (refine StB.ext ?_ (by with_reducible assumption)))); obtain ⟨r0, r1, r2, r3, r4⟩ := y4.c5; obtain ⟨s0, s1, s2, s3, s4⟩ := y4.f5)
          | (go_at_call 18; refine Calls.mono (step_st g x0 x1 x2 (by omega) u p (64 * k) st _ (by repeat (first | (with_reducible assumption) | (with_reducible refine StB.set ?_) | (with_reducible refine StB.alloc ?_ _) | (refine StB.ext ?_ (by with_reducible assumption)))) (by omega)) ?_; rintro e w2 ⟨u2, p2, rfl, hst2, hb2⟩; have hz2 := hb2.size; simp at hz2; have q2 : wr.heap.size < w2.heap.size := (by omega); have q3 : w1.heap.size < w2.heap.size := (by omega); have q4 : w1.heap.size + 1 < w2.heap.size := (by omega); obtain ⟨i0, i1, i2⟩ := Blk.c3 (w := w2) (B := wr.heap.size) (by repeat (first | (with_reducible assumption) | ((with_reducible refine Blk.new ?_); (first | (focus rfl) | (focus (simp; done)) | (focus omega))) | ((with_reducible refine Blk.set1 ?_ ?_); (focus omega)) | (with_reducible refine Blk.alloc ?_) | (refine Blk.ext ?_ (by with_reducible assumption)))); obtain ⟨j0, j1, j2, j3, j4⟩ := Blk.c5 (w := w2) (B := w1.heap.size + 1) (by repeat (first | (with_reducible assumption) | ((with_reducible refine Blk.new ?_); (first | (focus rfl) | (focus (simp; done)) | (focus omega))) | ((with_reducible refine Blk.set1 ?_ ?_); (focus omega)) | (with_reducible refine Blk.alloc ?_) | (refine Blk.ext ?_ (by with_reducible assumption)))); have m3 : Blk w2 w1.heap.size (mayO S W L u p) := (by repeat (first | (with_reducible assumption) | ((with_reducible refine Blk.new ?_); (first | (focus rfl) | (focus (simp; done)) | (focus omega))) | ((with_reducible refine Blk.set1 ?_ ?_); (focus omega)) | (with_reducible refine Blk.alloc ?_) | (refine Blk.ext ?_ (by with_reducible assumption)))); obtain ⟨n0, n1, n2, n3, n4⟩ := m3.f5; obtain ⟨o0, o1, o2, o3, o4⟩ := m3.c5; have hrf2 := (hrf.alloc _).ext hb2))
        go_roundw
        case rel =>
          refine ⟨k + 1, u2, p2, .slice A3 (rRange S W s x0 x1).2.length cc3, by go_num, by omega, (by repeat (first | (with_reducible assumption) | ((with_reducible refine Blk.new ?_); (first | (focus rfl) | (focus (simp; done)) | (focus omega))) | ((with_reducible refine Blk.set1 ?_ ?_); (focus omega)) | (with_reducible refine Blk.alloc ?_) | (refine Blk.ext ?_ (by with_reducible assumption)))), (by repeat (first | (with_reducible assumption) | ((with_reducible refine Blk.new ?_); (first | (focus rfl) | (focus (simp; done)) | (focus omega))) | ((with_reducible refine Blk.set1 ?_ ?_); (focus omega)) | (with_reducible refine Blk.alloc ?_) | (refine Blk.ext ?_ (by with_reducible assumption)))), (by repeat (first | (with_reducible assumption) | ((with_reducible refine Blk.new ?_); (first | (focus rfl) | (focus (simp; done)) | (focus omega))) | ((with_reducible refine Blk.set1 ?_ ?_); (focus omega)) | (with_reducible refine Blk.alloc ?_) | (refine Blk.ext ?_ (by with_reducible assumption)))), ?_, ?_, ?_, (by repeat (first | ((with_reducible refine Ext.set1 ?_ ?_); (first | (focus (simp; done)) | (focus (simp; omega)) | (focus omega))) | (with_reducible refine Ext.alloc ?_ _) | (with_reducible exact Ext.refl _) | (refine Ext.trans ?_ (by with_reducible assumption))))⟩
          · rw [ER.out]
            unfold rStep
            rw [if_neg HX.out]
            exact Blk.put5 y4
          · rw [ES.out]
            have yst' := yst.mono (n' := 64 * (k + 1)) (by omega)
            clear yst
            exact (by repeat (first | (with_reducible assumption) | (with_reducible refine StB.set ?_) | (with_reducible refine StB.alloc ?_ _) | (refine StB.ext ?_ (by with_reducible assumption))))
          · rw [ER.out]
            unfold rStep
            rw [if_neg HX.out]
            exact RfB.set5 hrf3 y4 (by decide)
        case measure => simp [Go.RowKit.intOf]; omega
    · obtain rfl : k = n := by omega
      have etk : l.take k = l := by
        apply List.take_of_length_le
        have := HN.out
        omega
      rw [etk] at k4 hst hrf
      clear etk
      obtain ⟨A3, cc3, rfl⟩ := Kd.R_slice hrf
      obtain ⟨d0, d1, d2, d3, d4⟩ := k3.c5
      obtain ⟨e0, e1, e2, e3, e4⟩ := k4.c5
      obtain ⟨r0, r1, r2, r3, r4⟩ := k1.c5
      obtain ⟨s0, s1, s2, s3, s4⟩ := k1.f5
      obtain ⟨i0, i1, i2, i3, i4⟩ := k2.c5
      obtain ⟨j0, j1, j2, j3, j4⟩ := k2.f5
      go_wp2
      go_region
      go_wp2
      refine bodyPost_ret (v := .tuple #[.agg #[.int .i64 S, .int .i64 W, .int .i64 L, .bool u, .map p], .agg #[.int .i64 S, .int .i64 W, .int .i64 L, .bool (rSteps S W (false, []) l).1, .slice A3 (rSteps S W (false, []) l).2.length cc3]]) ?_ rfl ⟨u, p, .slice A3 (rSteps S W (false, []) l).2.length cc3, rfl, ?_, ?_, ?_⟩
      · simp [results, Try.results13, go_sem, r0, r1, r2, r3, r4, i0, i1, i2, i3, i4]
      · refine StB.ext (?_ : StB _ _ _ _ _ _) (Ext.drew (Ext.refl _))
        exact (by repeat (first | (with_reducible assumption) | (with_reducible refine StB.set ?_) | (with_reducible refine StB.alloc ?_ _) | (refine StB.ext ?_ (by with_reducible assumption))))
      · refine RfB.ext (?_ : RfB _ _ _ _) (Ext.drew (Ext.refl _))
        have kk : ∀ u1 u2 u3 u4 u5 : Value, Blk (((((wr.setCell ⟨w.heap.size + 1, 0, none⟩ u1).setCell ⟨w.heap.size + 1, 1, none⟩ u2).setCell ⟨w.heap.size + 1, 2, none⟩ u3).setCell ⟨w.heap.size + 1, 3, none⟩ u4).setCell ⟨w.heap.size + 1, 4, none⟩ u5) (w.heap.size + 1 + 1) zRef := fun _ _ _ _ _ => (by repeat (first | (with_reducible assumption) | ((with_reducible refine Blk.new ?_); (first | (focus rfl) | (focus (simp; done)) | (focus omega))) | ((with_reducible refine Blk.set1 ?_ ?_); (focus omega)) | (with_reducible refine Blk.alloc ?_) | (refine Blk.ext ?_ (by with_reducible assumption))))
        exact RfB.set5 (RfB.set5 hrf k1 (by decide)) (kk _ _ _ _ _) (by decide)
      · refine Ext.drew (?_ : Ext _ _)
        exact (by repeat (first | ((with_reducible refine Ext.set1 ?_ ?_); (first | (focus (simp; done)) | (focus (simp; omega)) | (focus omega))) | (with_reducible refine Ext.alloc ?_ _) | (with_reducible exact Ext.refl _) | (refine Ext.trans ?_ (by with_reducible assumption))))
end Go.Proofs.Ytjckghdgogkeaaa

namespace Go.Proofs.Ytjckghdgogkeaaa
open Go.RowKit Go.Maps Go.Proofs.Ytjckghdgogkeaaa.PMayDescribes
set_option linter.unusedVariables false

def FitS (W : Int) (st : St) : Prop := ∀ f, st = some f → Fit W f
/-- What st has, su has, with no greater bound. -/
def Le (st su : St) : Prop := ∀ g, su = some g → ∃ f, st = some f ∧ ∀ y c, f y = some c → ∃ c', g y = some c' ∧ c' ≤ c
theorem Le.join {st su : St} : Le st (sJoin st su) := by
  intro g hg
  cases st with
  | none => cases hg
  | some f =>
    cases su with
    | none => cases hg
    | some g' =>
      cases hg
      refine ⟨f, rfl, fun y c hc => ?_⟩
      unfold joined
      rw [hc]
      cases hg : g' y with
      | none => exact ⟨c, rfl, Int.le_refl _⟩
      | some b =>
        simp only [least]
        split
        · exact ⟨b, rfl, by omega⟩
        · exact ⟨c, rfl, Int.le_refl _⟩
theorem Le.eq {st su : St} (h : Le st su) : sJoin st su = su := by
  cases su with
  | none => cases st <;> rfl
  | some g =>
    obtain ⟨f, rfl, hf⟩ := h g rfl
    show some (joined f g) = some g
    congr 1
    funext y
    unfold joined
    cases hy : f y with
    | none => rfl
    | some c =>
      obtain ⟨c', hg, hle⟩ := hf y c hy
      rw [hg]
      simp only [least]
      split
      · rfl
      · congr 1
        omega
theorem le_acc {S W : Int} {f g : FM} (hf : Fit W f) (hg : Fit W g) (h : ∀ y c, f y = some c → ∃ c', g y = some c' ∧ c' ≤ c) (x : Int) : ∀ y c, mayAcc S W f x y = some c → ∃ c', mayAcc S W g x y = some c' ∧ c' ≤ c := by
  intro y c hc
  have hhg : (g x).getD W ≤ (f x).getD W := by
    cases hx : f x with
    | none =>
      cases hgx : g x with
      | none => exact Int.le_refl _
      | some b =>
        have := hg x b hgx
        simp only [Option.getD_some, Option.getD_none]
        omega
    | some a =>
      obtain ⟨b, hb, hle⟩ := h x a hx
      rw [hb]
      exact hle
  unfold mayAcc put at hc ⊢
  by_cases hyx : y = x
  · rw [if_pos hyx] at hc ⊢
    exact ⟨0, rfl, by cases hc; exact Int.le_refl _⟩
  · rw [if_neg hyx] at hc ⊢
    unfold aged at hc ⊢
    cases hfy : f y with
    | none => rw [hfy] at hc; cases hc
    | some a =>
      obtain ⟨b, hgy, hba⟩ := h y a hfy
      have hb := hg y b hgy
      have ha := hf y a hfy
      rw [hfy] at hc
      rw [hgy]
      simp only at hc ⊢
      by_cases hs : y % S ≠ x % S
      · rw [if_pos (.inr (.inl hs))] at hc ⊢
        cases hc
        exact ⟨b, rfl, hba⟩
      · by_cases k1 : (f x).getD W < a
        · rw [if_pos (.inr (.inr k1))] at hc
          cases hc
          by_cases k2 : (g x).getD W < b
          · rw [if_pos (.inr (.inr k2))]
            exact ⟨b, rfl, hba⟩
          · rw [if_neg (by rintro (k | k | k) <;> contradiction), if_neg (by omega)]
            exact ⟨b + 1, rfl, by omega⟩
        · rw [if_neg (by rintro (k | k | k) <;> contradiction)] at hc
          by_cases k3 : W ≤ a + 1
          · rw [if_pos k3] at hc; cases hc
          · rw [if_neg k3] at hc
            cases hc
            by_cases k2 : (g x).getD W < b
            · rw [if_pos (.inr (.inr k2))]
              exact ⟨b, rfl, by omega⟩
            · rw [if_neg (by rintro (k | k | k) <;> contradiction), if_neg (by omega)]
              exact ⟨b + 1, rfl, by omega⟩
theorem le_puts {f g : FM} (h : ∀ y c, f y = some c → ∃ c', g y = some c' ∧ c' ≤ c) (lo hi : Int) : ∀ y c, puts f lo hi y = some c → ∃ c', puts g lo hi y = some c' ∧ c' ≤ c := by
  intro y c hc
  unfold puts at hc ⊢
  split
  · rename_i k
    rw [if_pos k] at hc
    exact ⟨0, rfl, by cases hc; exact Int.le_refl _⟩
  · rename_i k
    rw [if_neg k] at hc
    exact h y c hc
theorem fitS_step {S W : Int} {st : St} (h : FitS W st) (hW : 1 ≤ W) (lo hi : Int) : FitS W (sStep S W st lo hi) := by
  intro f hf
  cases st with
  | none => unfold sStep at hf; split at hf <;> cases hf
  | some g =>
    have hg := h g rfl
    unfold sStep at hf
    split at hf
    · simp only [sAcc] at hf
      split at hf
      · cases hf; exact hg
      · cases hf; exact fit_acc hg hW (by omega)
    · simp only [sRange] at hf
      split at hf
      · cases hf; exact hg
      · split at hf
        · cases hf; exact fit_acc hg hW (by omega)
        · split at hf
          · cases hf
          · cases hf; exact fit_puts hg hW (by omega)
theorem Le.step {S W : Int} {st su : St} (h : Le st su) (hf : FitS W st) (hg : FitS W su) (lo hi : Int) : Le (sStep S W st lo hi) (sStep S W su lo hi) := by
  intro g' hg'
  cases su with
  | none => unfold sStep at hg'; split at hg' <;> cases hg'
  | some g =>
    obtain ⟨f, rfl, hfg⟩ := h g rfl
    have hf := hf f rfl
    have hg := hg g rfl
    unfold sStep at hg' ⊢
    by_cases h0 : lo = hi
    · rw [if_pos h0] at hg' ⊢
      simp only [sAcc] at hg' ⊢
      by_cases h1 : lo < 0
      · rw [if_pos h1] at hg' ⊢
        cases hg'
        exact ⟨f, rfl, hfg⟩
      · rw [if_neg h1] at hg' ⊢
        cases hg'
        exact ⟨_, rfl, le_acc hf hg hfg lo⟩
    · rw [if_neg h0] at hg' ⊢
      simp only [sRange] at hg' ⊢
      by_cases h1 : hi < max lo 0
      · rw [if_pos h1] at hg' ⊢
        cases hg'
        exact ⟨f, rfl, hfg⟩
      · rw [if_neg h1] at hg' ⊢
        by_cases h2 : max lo 0 = hi
        · rw [if_pos h2] at hg' ⊢
          cases hg'
          exact ⟨_, rfl, le_acc hf hg hfg hi⟩
        · rw [if_neg h2] at hg' ⊢
          by_cases h3 : 64 ≤ hi - max lo 0
          · rw [if_pos h3] at hg'
            cases hg'
          · rw [if_neg h3] at hg' ⊢
            cases hg'
            exact ⟨_, rfl, le_puts hfg _ _⟩
theorem fitS_steps {S W : Int} (hW : 1 ≤ W) : ∀ (l : List S45) {st : St}, FitS W st → FitS W (sSteps S W st l)
  | [], _, h => h
  | x :: t, _, h => fitS_steps hW t (fitS_step h hW x.f0 x.f1)
theorem fitS_start (W : Int) : FitS W (some noF) := fun f h => by cases h; exact fit_no W
theorem fitS_join {W : Int} {st su : St} (h : FitS W st) (k : FitS W su) : FitS W (sJoin st su) := by
  intro f hf
  cases st with
  | none => cases hf
  | some a =>
    cases su with
    | none => cases hf
    | some b =>
      cases hf
      exact fit_joined (h a rfl) (k b rfl)
theorem fitS_of {w : World} {W : Int} {n : Nat} {st : St} {u : Bool} {p : Option Nat} (h : StB w W n st u p) : FitS W st := by
  intro f hf
  rcases h with ⟨_, _, rfl⟩ | ⟨_, g, rfl, _, h⟩
  · cases hf
  · cases hf; exact h
end Go.Proofs.Ytjckghdgogkeaaa

namespace Go.Proofs.Ytjckghdgogkeaaa
open Go.RowKit Go.Maps
set_option linter.unusedVariables false

theorem Descr.row {S : Int} {f : FM} {rows : List (List Int)} (h : Descr S (some f) rows) {k : Nat} : OkRow f (rows.getD k []) := by
  by_cases hk : k < rows.length
  · exact h.2 f rfl k hk
  · intro j hj
    rw [List.getD, List.getElem?_eq_none (by omega)] at hj
    exact absurd hj (Nat.not_lt_zero _)

theorem sound_acc {S W : Int} {f : FM} {rows : List (List Int)} (hs : 1 ≤ S) (hw : 1 ≤ W) (hr : Rows S W rows) (hf : Fit W f) (h : Descr S (some f) rows) {x : Int} (hx : 0 ≤ x) : Descr S (some (mayAcc S W f x)) (cAcc S W rows x) := by
  have hi := Int.emod_nonneg x (show S ≠ 0 by omega)
  have hi2 := Int.emod_lt_of_pos x (show 0 < S by omega)
  have hlt : (x % S).toNat < rows.length := by have := hr.len; omega
  refine ⟨by unfold cAcc; rw [List.length_set]; exact h.1, fun g hg k hk => ?_⟩
  cases hg
  intro j hj
  by_cases e : k = (x % S).toNat
  · subst e
    have eg : (cAcc S W rows x).getD (x % S).toNat [] = cRow W x (rows.getD (x % S).toNat []) := getD_set_same hlt _
    have hok := h.row (k := (x % S).toNat)
    have hnd := hr.nodup (x % S).toNat
    have hmine := hr.mine (x % S).toNat
    rw [eg] at hj
    unfold OkAt
    rw [eg]
    obtain ⟨r, hrr⟩ : ∃ r, r = rows.getD (x % S).toNat [] := ⟨_, rfl⟩
    rw [← hrr] at hj hok hnd hmine ⊢
    cases j with
    | zero => exact ⟨0, by rw [cRow_cons hw]; simp [List.getD, mayAcc, put], Int.le_refl _⟩
    | succ j =>
      obtain ⟨p, hp, hpl, hval, hne, hjw⟩ := cRow_at hw hnd hj
      obtain ⟨b, hb, hbp⟩ := hok p hpl
      have hmem : r.getD p 0 ∈ r := by rw [List.getD, List.getElem?_eq_getElem hpl]; exact List.getElem_mem hpl
      have hset : r.getD p 0 % S = x % S := by rw [(hmine _ hmem).2]; exact Int.toNat_of_nonneg hi
      have hfit := hf _ _ hb
      have hh : (f x).getD W < b ∨ b ≤ (j : Int) := by
        rcases hp with rfl | ⟨rfl, q, hq, hql, hqx⟩
        · exact .inr hbp
        · obtain ⟨h', hh', hle⟩ := hok q hql
          rw [hqx] at hh'
          rw [hh', Option.getD_some]
          omega
      have hbj : b ≤ (j : Int) + 1 := by rcases hp with rfl | ⟨rfl, _⟩ <;> omega
      rw [hval]
      unfold mayAcc put
      rw [if_neg hne]
      by_cases c : (f x).getD W < b
      · exact ⟨b, aged_keep hb (.inr (.inr c)), by omega⟩
      · exact ⟨b + 1, aged_up hb hne hset (by omega) (by omega), by omega⟩
  · have eg : (cAcc S W rows x).getD k [] = rows.getD k [] := getD_set_other e _
    rw [eg] at hj
    unfold OkAt
    rw [eg]
    obtain ⟨b, hb, hbp⟩ := h.row (k := k) j hj
    have hmem : (rows.getD k []).getD j 0 ∈ rows.getD k [] := by rw [List.getD_eq_getElem?_getD (l := rows.getD k []), List.getElem?_eq_getElem hj]; exact List.getElem_mem hj
    have hset := (hr.mine k _ hmem).2
    refine ⟨b, ?_, hbp⟩
    unfold mayAcc put
    rw [if_neg (by intro e2; rw [e2] at hset; omega)]
    exact aged_keep hb (.inr (.inl (by omega)))

theorem sound_range {S W : Int} {f : FM} {rows : List (List Int)} (hs : 1 ≤ S) (hw : 1 ≤ W) (hr : Rows S W rows) (h : Descr S (some f) rows) {x lo hi : Int} (hl : 0 ≤ lo) (h1 : lo ≤ x) (h2 : x ≤ hi) : Descr S (some (puts f lo hi)) (cAcc S W rows x) := by
  have hi' := Int.emod_nonneg x (show S ≠ 0 by omega)
  have hi2 := Int.emod_lt_of_pos x (show 0 < S by omega)
  have hlt : (x % S).toNat < rows.length := by have := hr.len; omega
  refine ⟨by unfold cAcc; rw [List.length_set]; exact h.1, fun g hg k hk => ?_⟩
  cases hg
  intro j hj
  by_cases e : k = (x % S).toNat
  · subst e
    have eg : (cAcc S W rows x).getD (x % S).toNat [] = cRow W x (rows.getD (x % S).toNat []) := getD_set_same hlt _
    have hok := h.row (k := (x % S).toNat)
    have hnd := hr.nodup (x % S).toNat
    rw [eg] at hj
    unfold OkAt
    rw [eg]
    obtain ⟨r, hrr⟩ : ∃ r, r = rows.getD (x % S).toNat [] := ⟨_, rfl⟩
    rw [← hrr] at hj hok hnd ⊢
    cases j with
    | zero =>
      refine ⟨0, ?_, Int.le_refl _⟩
      rw [cRow_cons hw]
      simp [List.getD, puts]
      omega
    | succ j =>
      obtain ⟨p, hp, hpl, hval, hne, hjw⟩ := cRow_at hw hnd hj
      obtain ⟨b, hb, hbp⟩ := hok p hpl
      have hbj : b ≤ (j : Int) + 1 := by rcases hp with rfl | ⟨rfl, _⟩ <;> omega
      rw [hval]
      unfold puts
      split
      · exact ⟨0, rfl, by omega⟩
      · exact ⟨b, hb, by omega⟩
  · have eg : (cAcc S W rows x).getD k [] = rows.getD k [] := getD_set_other e _
    rw [eg] at hj
    unfold OkAt
    rw [eg]
    obtain ⟨b, hb, hbp⟩ := h.row (k := k) j hj
    unfold puts
    split
    · exact ⟨0, rfl, by omega⟩
    · exact ⟨b, hb, hbp⟩

theorem descr_none {S W : Int} {st : St} {rows : List (List Int)} (h : Descr S st rows) (x : Int) : Descr S none (cAcc S W rows x) := ⟨by unfold cAcc; rw [List.length_set]; exact h.1, fun _ h => by cases h⟩
theorem descr_start {S : Int} (hs : 1 ≤ S) : Descr S (some noF) (List.replicate S.toNat []) := by
  refine ⟨by simp; omega, fun f _ k hk j hj => ?_⟩
  have e : (List.replicate S.toNat ([] : List Int)).getD k [] = [] := by simp only [List.getD, List.getElem?_replicate]; split <;> rfl
  rw [e] at hj
  exact absurd hj (Nat.not_lt_zero _)

/-- The line that a step really accesses. -/
def lineOf (lo hi pk : Int) : Option Int := if hi < max lo 0 then none else some (max lo 0 + pk % (hi - max lo 0 + 1))
theorem lineOf_none {lo hi pk : Int} (h : hi < max lo 0) : lineOf lo hi pk = none := if_pos h
theorem lineOf_some {lo hi pk : Int} (h : max lo 0 ≤ hi) : lineOf lo hi pk = some (max lo 0 + pk % (hi - max lo 0 + 1)) ∧ max lo 0 ≤ max lo 0 + pk % (hi - max lo 0 + 1) ∧ max lo 0 + pk % (hi - max lo 0 + 1) ≤ hi := by
  have h1 := Int.emod_nonneg pk (show hi - max lo 0 + 1 ≠ 0 by omega)
  have h2 := Int.emod_lt_of_pos pk (show 0 < hi - max lo 0 + 1 by omega)
  exact ⟨if_neg (by omega), by omega, by omega⟩
/-- The rows after a step. -/
def cStep (S W : Int) (rows : List (List Int)) (lo hi pk : Int) : List (List Int) := match lineOf lo hi pk with
  | none => rows
  | some n => cAcc S W rows n
theorem sound_step {S W : Int} (hs : 1 ≤ S) (hw : 1 ≤ W) {st : St} {rows : List (List Int)} (hf : FitS W st) (hr : Rows S W rows) (h : Descr S st rows) (lo hi pk : Int) : Descr S (sStep S W st lo hi) (cStep S W rows lo hi pk) := by
  unfold sStep cStep
  by_cases c : hi < max lo 0
  · rw [lineOf_none c]
    by_cases e : lo = hi
    · rw [if_pos e]
      cases st with
      | none => exact h
      | some f => unfold sAcc; simp only; rw [if_pos (by omega)]; exact h
    · rw [if_neg e]
      cases st with
      | none => exact h
      | some f => unfold sRange; simp only; rw [if_pos c]; exact h
  · obtain ⟨e1, e2, e3⟩ := lineOf_some (lo := lo) (hi := hi) (pk := pk) (by omega)
    rw [e1]
    simp only
    obtain ⟨n, hn⟩ : ∃ n, n = max lo 0 + pk % (hi - max lo 0 + 1) := ⟨_, rfl⟩
    rw [← hn] at e2 e3 ⊢
    cases st with
    | none =>
      have : (if lo = hi then sAcc S W none lo else sRange S W none lo hi) = none := by split <;> rfl
      rw [this]
      exact descr_none h n
    | some f =>
      by_cases e : lo = hi
      · rw [if_pos e]
        unfold sAcc
        simp only
        rw [if_neg (by omega)]
        obtain rfl : n = lo := by omega
        exact sound_acc hs hw hr (hf f rfl) h (by omega)
      · rw [if_neg e]
        unfold sRange
        simp only
        rw [if_neg c]
        by_cases e4 : max lo 0 = hi
        · rw [if_pos e4]
          obtain rfl : n = hi := by omega
          exact sound_acc hs hw hr (hf f rfl) h (by omega)
        · rw [if_neg e4]
          by_cases e5 : 64 ≤ hi - max lo 0
          · rw [if_pos e5]
            exact descr_none h n
          · rw [if_neg e5]
            exact sound_range hs hw hr h (by omega) e2 e3
theorem rows_step {S W : Int} (hs : 1 ≤ S) (hw : 1 ≤ W) {rows : List (List Int)} (hr : Rows S W rows) (ht : Top 4000 rows) {lo hi pk : Int} (hh : hi ≤ 4000) : Rows S W (cStep S W rows lo hi pk) ∧ Top 4000 (cStep S W rows lo hi pk) := by
  unfold cStep
  by_cases c : hi < max lo 0
  · rw [lineOf_none c]; exact ⟨hr, ht⟩
  · obtain ⟨e1, e2, e3⟩ := lineOf_some (lo := lo) (hi := hi) (pk := pk) (by omega)
    rw [e1]
    exact ⟨hr.acc hs hw (by omega), ht.acc hw (by omega)⟩
/-- What is in the cache is in the state. -/
theorem in_state {S : Int} {f : FM} {rows : List (List Int)} (h : Descr S (some f) rows) {i : Nat} {x : Int} (hx : x ∈ rows.getD i []) : ∃ b, f x = some b := by
  obtain ⟨j, hj, e⟩ := List.getElem_of_mem hx
  obtain ⟨b, hb, _⟩ := h.row (k := i) j hj
  rw [List.getD_eq_getElem?_getD (l := rows.getD i []), List.getElem?_eq_getElem hj] at hb
  simp only [Option.getD_some] at hb
  rw [e] at hb
  exact ⟨b, hb⟩
end Go.Proofs.Ytjckghdgogkeaaa

namespace Go.Proofs.Ytjckghdgogkeaaa
open Go.RowKit Go.Maps Go.Proofs.YtjckghdgogkeaaaW.PrintWords Go.Proofs.Ytjckghdgogkeaaa.PMayDescribes
set_option linter.unusedVariables false

set_option maxHeartbeats 1000000 in
theorem line_none (lo hi pk : Int) (h : hi < max lo 0) (w : World) :
    Calls Try.prog 22 #[.agg #[.int .i64 lo, .int .i64 hi, .int .u8 pk]] w fun e w' => e = .returned (.tuple #[.int .i64 0, .bool false]) ∧ Ext w w' := by
  by_cases c : 0 ≤ lo
  · have h' : hi < lo := by omega
    have e : max lo 0 = lo := by omega
    go_enter Try.func22, Try.ntmps22
    go_wp2
    refine bodyPost_ret (v := .tuple #[.int .i64 0, .bool false]) ?_ rfl ⟨rfl, (by repeat (first | ((with_reducible refine Ext.set1 ?_ ?_); (first | (focus (simp; done)) | (focus (simp; omega)) | (focus omega))) | (with_reducible refine Ext.alloc ?_ _) | (with_reducible exact Ext.refl _) | (refine Ext.trans ?_ (by with_reducible assumption))))⟩
    simp [results, Try.results22, go_sem]
  · have h' : hi < 0 := by omega
    have e : max lo 0 = 0 := by omega
    go_enter Try.func22, Try.ntmps22
    go_wp2
    refine bodyPost_ret (v := .tuple #[.int .i64 0, .bool false]) ?_ rfl ⟨rfl, (by repeat (first | ((with_reducible refine Ext.set1 ?_ ?_); (first | (focus (simp; done)) | (focus (simp; omega)) | (focus omega))) | (with_reducible refine Ext.alloc ?_ _) | (with_reducible exact Ext.refl _) | (refine Ext.trans ?_ (by with_reducible assumption))))⟩
    simp [results, Try.results22, go_sem]
set_option maxHeartbeats 1000000 in
theorem line_some (lo hi pk : Int) (h : max lo 0 ≤ hi) (h2 : hi ≤ 4000) (h3 : -4000 ≤ lo) (h4 : 0 ≤ pk) (h5 : pk ≤ 255) (w : World) :
    Calls Try.prog 22 #[.agg #[.int .i64 lo, .int .i64 hi, .int .u8 pk]] w fun e w' => e = .returned (.tuple #[.int .i64 (max lo 0 + pk % (hi - max lo 0 + 1)), .bool true]) ∧ Ext w w' := by
  have hm1 := Int.emod_nonneg pk (show hi - max lo 0 + 1 ≠ 0 by omega)
  have hm2 := Int.emod_lt_of_pos pk (show 0 < hi - max lo 0 + 1 by omega)
  by_cases c : 0 ≤ lo
  · have h' : ¬ hi < lo := by omega
    have e : max lo 0 = lo := by omega
    rw [e] at hm1 hm2 ⊢
    go_enter Try.func22, Try.ntmps22
    go_wp2
    refine bodyPost_ret (v := .tuple #[.int .i64 (lo + pk % (hi - lo + 1)), .bool true]) ?_ rfl ⟨rfl, (by repeat (first | ((with_reducible refine Ext.set1 ?_ ?_); (first | (focus (simp; done)) | (focus (simp; omega)) | (focus omega))) | (with_reducible refine Ext.alloc ?_ _) | (with_reducible exact Ext.refl _) | (refine Ext.trans ?_ (by with_reducible assumption))))⟩
    simp [results, Try.results22, go_sem]
  · have h' : ¬ hi < 0 := by omega
    have e : max lo 0 = 0 := by omega
    rw [e] at hm1 hm2 ⊢
    rw [Int.sub_zero] at hm1 hm2 ⊢
    rw [Int.zero_add]
    go_enter Try.func22, Try.ntmps22
    go_wp2
    refine bodyPost_ret (v := .tuple #[.int .i64 (pk % (hi + 1)), .bool true]) ?_ rfl ⟨rfl, (by repeat (first | ((with_reducible refine Ext.set1 ?_ ?_); (first | (focus (simp; done)) | (focus (simp; omega)) | (focus omega))) | (with_reducible refine Ext.alloc ?_ _) | (with_reducible exact Ext.refl _) | (refine Ext.trans ?_ (by with_reducible assumption))))⟩
    simp [results, Try.results22, go_sem]

theorem mul_fits {n L : Int} (hn : 0 ≤ n) (hn2 : n ≤ 70000) (hL : 1 ≤ L) (hL2 : L ≤ 16) : 0 ≤ n * L ∧ n * L ≤ 2000000 ∧ n * L / L = n := by
  have h1 : n * L ≤ 70000 * 16 := Int.mul_le_mul hn2 hL2 (by omega) (by omega)
  exact ⟨Int.mul_nonneg hn (by omega), by omega, Int.mul_ediv_cancel n (by omega)⟩
set_option maxHeartbeats 1000000 in
theorem touch_at {w : World} {base q : Nat} {S W L : Int} {F : Nat → Prop} {rows : List (List Int)} (g : Geo S W L) (h : CaB w base q S W L F rows) (hr : Rows S W rows) (n : Int) (hn : 0 ≤ n) (hn2 : n ≤ 70000) (hbw : base ≤ w.heap.size) :
    Calls Try.prog 25 #[.pointer (some ⟨q, 0, none⟩), .agg #[.int .i64 S, .int .i64 W, .int .i64 L], .int .i64 n] w fun e w' => e = .returned (.tuple #[]) ∧ ∃ F', CaB w' base q S W L F' (cAcc S W rows n) ∧ (∀ k, F' k → F k ∨ w.heap.size ≤ k) ∧ Fr F w w' := by
  obtain ⟨b1, b2, b3⟩ := mul_fits hn hn2 g.l1 g.l16
  obtain ⟨x, hx⟩ : ∃ x, n * L = x := ⟨_, rfl⟩
  rw [hx] at b1 b2 b3
  go_enter Try.func25, Try.ntmps25
  go_wp2_with (go_at_call 40; refine Calls.mono (cache_access (base := base) g (h.ext ((Ext.refl _).alloc _)) hr x b1 b2 (by simp; omega)) ?_; rintro e w2 ⟨rfl, F', hc, hF, hf⟩)
  rw [b3] at hc
  refine bodyPost_end (v := .tuple #[]) (by simp [results, go_sem]) rfl ⟨rfl, F', hc, fun k hk => ?_, (Fr.ofExt F ((Ext.refl _).alloc _)).trans hf⟩
  rcases hF k hk with h1 | h1
  · exact .inl h1
  · right; simp at h1; omega

/-- The steps lie in w as v, in a block of their own from base on. -/
def StpB (w : World) (base : Nat) (v : Value) (l : List S45) : Prop := k45.R 45 w base (fun k => some k = v.ownBlock) v l
theorem StpB.own {w : World} {base : Nat} {v : Value} {l : List S45} (h : StpB w base v l) {g : Nat} (hg : some g = v.ownBlock) : g < w.heap.size ∧ ∃ cells, w.heap[g]? = some (.cells cells 45 (0, 0)) := by
  obtain ⟨_, _, h2, q, hq, cells, hb⟩ := (Kd.R_bound h).1 g hg.symm
  have : q = 45 := by
    rcases List.mem_cons.1 hq with h | h
    · exact h
    · cases h
  subst this
  exact ⟨h2, cells, hb⟩
theorem StpB.ext {w w' : World} {base : Nat} {v : Value} {l : List S45} (h : StpB w base v l) (e : Ext w w') : StpB w' base v l := Kd.R_below h e
theorem StpB.alloc {w : World} {base : Nat} {v : Value} {l : List S45} (h : StpB w base v l) (o : Obj) : StpB (w.alloc o) base v l := h.ext ((Ext.refl w).alloc o)
theorem StpB.set {w : World} {base : Nat} {v : Value} {l : List S45} {g k : Nat} {cs : Array Value} {t : TypeId} {u : Value} (hb : Blk w g (.cells cs t)) (ht : t ≠ 45) (h : StpB w base v l) : StpB (w.setCell ⟨g, k, none⟩ u) base v l := by
  refine Kd.R_far h (p := ⟨g, k, none⟩) (fun j hj => ?_) u
  rintro rfl
  obtain ⟨_, cells, he⟩ := h.own hj
  unfold Blk at hb
  rw [hb] at he
  cases he
  exact ht rfl
theorem StpB.set5 {w : World} {base B : Nat} {v a b c d e a' b' c' d' e' : Value} {t : TypeId} {l : List S45} (h : StpB w base v l) (hb : Blk w B (.cells #[a, b, c, d, e] t)) (ht : t ≠ 45) : StpB (((((w.setCell ⟨B, 0, none⟩ a').setCell ⟨B, 1, none⟩ b').setCell ⟨B, 2, none⟩ c').setCell ⟨B, 3, none⟩ d').setCell ⟨B, 4, none⟩ e') base v l :=
  ((((h.set hb ht).set hb.put ht).set hb.put.put ht).set hb.put.put.put ht).set hb.put.put.put.put ht
theorem StpB.of {w : World} {base : Nat} {ok : Nat → Prop} {v : Value} {l : List S45} (h : k45.R 45 w base ok v l) : StpB w base v l :=
  ⟨fun k hk => hk.symm, h.2.imp_ (fun p c hp => by obtain rfl := k45_openM hp; exact k45_mkM _ _ _ _)⟩
theorem StpB.keep {w w' : World} {base b q : Nat} {S W L : Int} {F : Nat → Prop} {rows : List (List Int)} {v : Value} {l : List S45} (h : StpB w base v l) (c : CaB w b q S W L F rows) (f : Fr F w w') : StpB w' base v l := by
  refine Kd.R_move h fun k hk => ?_
  obtain ⟨hlt, cells, he⟩ := h.own hk
  exact f.block k hlt (c.out (o := .cells cells 45) he (cells_ne (by decide) (by decide)))
theorem StB.keep {w w' : World} {b q : Nat} {S W L : Int} {F : Nat → Prop} {rows : List (List Int)} {W' : Int} {n : Nat} {st : St} {u : Bool} {p : Option Nat} (hs : StB w W' n st u p) (c : CaB w b q S W L F rows) (f : Fr F w w') : StB w' W' n st u p := by
  rcases hs with hs | ⟨h1, g, h2, h3, h4⟩
  · exact .inl hs
  · refine .inr ⟨h1, g, h2, h3.same fun b e => ?_, h4⟩
    rcases h3 with ⟨rfl, _⟩ | ⟨b', rfl, h3⟩
    · cases e
    · cases e
      obtain ⟨D, ⟨es, clock, hb, _⟩, _⟩ := h3
      exact c.keepMap f hb
/-- The store of a whole may state leaves the cache as it is. -/
theorem CaB.set {w : World} {base q g k : Nat} {S W L : Int} {F : Nat → Prop} {rows : List (List Int)} {cs : Array Value} {t : TypeId} {u : Value} (h : CaB w base q S W L F rows) (hb : Blk w g (.cells cs t)) (h1 : t ≠ 3) (h2 : t ≠ 28) (h3 : t ≠ 77) : CaB (w.setCell ⟨g, k, none⟩ u) base q S W L F rows := by
  refine h.fr (G := fun j => j = g) ((Fr.refl _ _).setCell rfl) (fun j hj e => ?_) (fun e => ?_)
  · subst e
    exact h.out hb (cells_ne h1 h2) hj
  · subst e
    obtain ⟨gb, vs, h⟩ := h
    have := Blk.agree h.kq hb
    injection this with _ e _
    exact h3 e.symm
theorem CaB.set5 {w : World} {base q B : Nat} {S W L : Int} {F : Nat → Prop} {rows : List (List Int)} {a b c d e a' b' c' d' e' : Value} {t : TypeId} (h : CaB w base q S W L F rows) (hb : Blk w B (.cells #[a, b, c, d, e] t)) (h1 : t ≠ 3) (h2 : t ≠ 28) (h3 : t ≠ 77) : CaB (((((w.setCell ⟨B, 0, none⟩ a').setCell ⟨B, 1, none⟩ b').setCell ⟨B, 2, none⟩ c').setCell ⟨B, 3, none⟩ d').setCell ⟨B, 4, none⟩ e') base q S W L F rows :=
  ((((h.set hb h1 h2 h3).set hb.put h1 h2 h3).set hb.put.put h1 h2 h3).set hb.put.put.put h1 h2 h3).set hb.put.put.put.put h1 h2 h3

/-- Whether a state has a line. -/
def hasB (st : St) (x : Int) : Bool := match st with
  | none => true
  | some f => (f x).isSome
theorem age_has (S W L x : Int) (hx0 : 0 ≤ x) (hx : x ≤ 1000000) (u : Bool) (p : Option Nat) (n : Nat) (st : St) (w : World) (h : StB w W n st u p) :
    Calls Try.prog 23 #[.agg #[.int .i64 S, .int .i64 W, .int .i64 L, .bool u, .map p], .int .i64 x] w fun e w' => ∃ c, e = .returned (.tuple #[.int .i64 c, .bool (hasB st x)]) ∧ Ext w w' := by
  rcases h with ⟨rfl, rfl, rfl⟩ | ⟨rfl, f, rfl, him, _⟩
  · refine (may_age_unknown S W L x none w).mono ?_
    rintro e w' ⟨rfl, hb⟩
    exact ⟨0, by rw [decide_eq_true hx0]; rfl, hb⟩
  · refine (may_age S W L x p n f w him (.of (by omega) (by omega)) _ _ rfl rfl).mono ?_
    rintro e w' ⟨rfl, hb⟩
    exact ⟨_, rfl, hb⟩
theorem has_in {S : Int} {st : St} {rows : List (List Int)} (h : Descr S st rows) {i : Nat} {x : Int} (hx : x ∈ rows.getD i []) : hasB st x = true := by
  cases st with
  | none => rfl
  | some f =>
    obtain ⟨b, hb⟩ := in_state h hx
    show (f x).isSome = true
    rw [hb]; rfl
theorem probe_out {S : Int} {st : St} {rows : List (List Int)} (h : Descr S st rows) {x : Int} (hx : hasB st x = false) : ¬ 0 ≤ cAge S rows x := fun hc => by
  unfold cAge at hc
  rcases idx_cases (rows.getD (x % S).toNat []) x with ⟨k, _, _, hmem, _⟩ | ⟨e, _, _⟩
  · rw [has_in h hmem] at hx; cases hx
  · rw [e] at hc; omega

theorem steps_lit {w : World} {base B : Nat} (hB : B = w.heap.size) (hb : base ≤ w.heap.size) : k45.R 45 (w.alloc (.cells #[] 45)) base (fun _ => True) (.slice (some ⟨B, 0, none⟩) 0 0) [] := by
  subst hB
  refine ⟨fun _ _ => trivial, [], ⟨rfl, .inr ⟨w.heap.size, 0, #[], rfl, hb, heap_alloc_new w _, Nat.le_refl _, Nat.zero_le _, rfl, rfl⟩⟩, rfl, fun j p hj => by simp at hj⟩
theorem wp_append_steps {ops : Array Oper} {rest : List Oper} {o : Oper} {a : Act} {Q : Exit → Act → World → Prop} {w0 W : World} (hgd : o.guard = none) (s x : Operand)
    (ho : o.op = .call { callee := .builtin .append, args := #[s, x], argTypes := #[24, 24] })
    (v : Value) (xs ys zs : List S45) (hz : xs ++ ys = zs) (n : Nat) (hn : zs.length = n) (A : Option Addr) (m c : Nat) (hs : a.eval s = v) (hx : a.eval x = .slice A m c) (HO : k45.R 45 W w0.heap.size (fun _ => True) v xs) (HC : k45.C W A m ys) (HB : Ext w0 W) (hlx : xs.length ≤ 1000) (hm : m ≤ 1000)
    (h : ∀ A1 c1 w1, k45.R 45 w1 w0.heap.size (fun _ => True) (.slice A1 n c1) zs → n ≤ c1 → Ext w0 w1 → wpList Try.prog ops Q rest (a.put o.dst (.slice A1 n c1)) w1) : wpList Try.prog ops Q (o :: rest) a W := by
  refine Kd.R_append_rows k45 (Rr := k45.K W) (w0 := w0) (W := W) w0.heap.size hgd s x 24 45 (.agg #[.int .i64 0, .int .i64 0, .int .u8 0]) 24 ho Try.underlying24 (by kernel_rfl) rfl (by decide) (by decide) v xs ys A m c (fun _ => True) (fun _ => False) hs hx HO HC (fun x cs hp => by obtain rfl := k45_open hp; exact k45_mkM _ _ _ _) (fun k hk => hk.elim) (fun _ _ => trivial) HB HB.size (by omega) ?_
  intro v1 w1 h1 h2 _ _
  rw [hz] at h1
  obtain ⟨A1, c1, rfl, hc1, _⟩ := Kd.R_reads h1
  rw [hn] at h1 hc1 ⊢
  exact h A1 c1 w1 h1 hc1 h2
end Go.Proofs.Ytjckghdgogkeaaa

namespace Go.Proofs.Ytjckghdgogkeaaa
open Go.RowKit Go.Maps Go.Proofs.YtjckghdgogkeaaaW.PrintWords Go.Proofs.Ytjckghdgogkeaaa.PMayDescribes
set_option linter.unusedVariables false
attribute [local go_sem ↓] Go.wp_at_zero Go.wp_at_succ

abbrev stepO (a b c : Int) : Obj := .cells #[.int .i64 a, .int .i64 b, .int .u8 c] 45

theorem Blk.far5s {w : World} {B g : Nat} {o : Obj} {a b c d e : Value} (hne : B ≠ g) (h : Blk w B o) : Blk (((((w.setCell ⟨g, 0, none⟩ a).setCell ⟨g, 1, none⟩ b).setCell ⟨g, 2, none⟩ c).setCell ⟨g, 3, none⟩ d).setCell ⟨g, 4, none⟩ e) B o :=
  Blk.set1 hne (Blk.set1 hne (Blk.set1 hne (Blk.set1 hne (Blk.set1 hne h))))
theorem Ext.set5 {w0 w : World} {g : Nat} {a b c d e : Value} (hg : w0.heap.size ≤ g) (h : Ext w0 w) : Ext w0 (((((w.setCell ⟨g, 0, none⟩ a).setCell ⟨g, 1, none⟩ b).setCell ⟨g, 2, none⟩ c).setCell ⟨g, 3, none⟩ d).setCell ⟨g, 4, none⟩ e) :=
  Ext.set1 hg (Ext.set1 hg (Ext.set1 hg (Ext.set1 hg (Ext.set1 hg h))))
set_option maxHeartbeats 1000000 in
theorem sound_small (S W L : Int) (A : Option Addr) (c : Nat) (l : List S45) (B : Option Addr) (d : Nat) (m : List S45) (w : World) (hr : k45.C w A l.length l) (hc : l.length ≤ c) (hr2 : k45.C w B m.length m) (hc2 : m.length ≤ d)
    (hno : ¬ (smallB S W L l = true ∧ smallB S W L m = true)) :
    Calls Try.prog 5 #[.agg #[.int .i64 S, .int .i64 W, .int .i64 L], .slice A l.length c, .slice B m.length d] w fun e w' => e = .returned (.bool true) ∧ Ext w w' := by
  cases h1 : smallB S W L l with
  | false =>
    have H1 := Lib.hid h1; clear h1 hno
    go_enter Try.func5, Try.ntmps5
    go_wp2_with (first
      | (go_at_call 12; refine Calls.mono (small_any S W L A c l _ (C_ext hr (by exact (by repeat (first | ((with_reducible refine Ext.set1 ?_ ?_); (first | (focus (simp; done)) | (focus (simp; omega)) | (focus omega))) | (with_reducible refine Ext.alloc ?_ _) | (with_reducible exact Ext.refl _) | (refine Ext.trans ?_ (by with_reducible assumption)))))) hc) ?_; rintro e w2 ⟨rfl, hb2⟩; rw [H1.out])
      | (have gq := hb2; clear gq; go_at_call 11; refine Calls.mono (awake_yes _) ?_; rintro e w9 ⟨rfl, hb9⟩)
      | (go_at_call 11; refine Calls.mono (awake_yes _) ?_; rintro e w1 ⟨rfl, hb1⟩; obtain ⟨a0, a1, a2⟩ := Blk.c3 (w := w1) (B := w.heap.size) (by repeat (first | (with_reducible assumption) | ((with_reducible refine Blk.new ?_); (first | (focus rfl) | (focus (simp; done)) | (focus omega))) | ((with_reducible refine Blk.set1 ?_ ?_); (focus omega)) | (with_reducible refine Blk.alloc ?_) | (refine Blk.ext ?_ (by with_reducible assumption))))))
    go_ret
    exact ⟨rfl, (by repeat (first | ((with_reducible refine Ext.set1 ?_ ?_); (first | (focus (simp; done)) | (focus (simp; omega)) | (focus omega))) | (with_reducible refine Ext.alloc ?_ _) | (with_reducible exact Ext.refl _) | (refine Ext.trans ?_ (by with_reducible assumption))))⟩
  | true =>
    have h2 : smallB S W L m = false := by
      cases h : smallB S W L m with
      | false => rfl
      | true => exact absurd ⟨h1, h⟩ hno
    have H1 := Lib.hid h1; have H2 := Lib.hid h2; clear h1 h2 hno
    go_enter Try.func5, Try.ntmps5
    go_wp2_with (first
      | (have gq := hb2; clear gq; go_at_call 12; refine Calls.mono (small_any S W L B d m _ (C_ext hr2 (by exact (by repeat (first | ((with_reducible refine Ext.set1 ?_ ?_); (first | (focus (simp; done)) | (focus (simp; omega)) | (focus omega))) | (with_reducible refine Ext.alloc ?_ _) | (with_reducible exact Ext.refl _) | (refine Ext.trans ?_ (by with_reducible assumption)))))) hc2) ?_; rintro e w3 ⟨rfl, hb3⟩; rw [H2.out])
      | (go_at_call 12; refine Calls.mono (small_any S W L A c l _ (C_ext hr (by exact (by repeat (first | ((with_reducible refine Ext.set1 ?_ ?_); (first | (focus (simp; done)) | (focus (simp; omega)) | (focus omega))) | (with_reducible refine Ext.alloc ?_ _) | (with_reducible exact Ext.refl _) | (refine Ext.trans ?_ (by with_reducible assumption)))))) hc) ?_; rintro e w2 ⟨rfl, hb2⟩; rw [H1.out]; obtain ⟨d0, d1, d2⟩ := Blk.c3 (w := w2) (B := w.heap.size) (by repeat (first | (with_reducible assumption) | ((with_reducible refine Blk.new ?_); (first | (focus rfl) | (focus (simp; done)) | (focus omega))) | ((with_reducible refine Blk.set1 ?_ ?_); (focus omega)) | (with_reducible refine Blk.alloc ?_) | (refine Blk.ext ?_ (by with_reducible assumption)))))
      | (have gq := hb2; clear gq; go_at_call 11; refine Calls.mono (awake_yes _) ?_; rintro e w9 ⟨rfl, hb9⟩)
      | (go_at_call 11; refine Calls.mono (awake_yes _) ?_; rintro e w1 ⟨rfl, hb1⟩; obtain ⟨a0, a1, a2⟩ := Blk.c3 (w := w1) (B := w.heap.size) (by repeat (first | (with_reducible assumption) | ((with_reducible refine Blk.new ?_); (first | (focus rfl) | (focus (simp; done)) | (focus omega))) | ((with_reducible refine Blk.set1 ?_ ?_); (focus omega)) | (with_reducible refine Blk.alloc ?_) | (refine Blk.ext ?_ (by with_reducible assumption))))))
    go_ret
    exact ⟨rfl, (by repeat (first | ((with_reducible refine Ext.set1 ?_ ?_); (first | (focus (simp; done)) | (focus (simp; omega)) | (focus omega))) | (with_reducible refine Ext.alloc ?_ _) | (with_reducible exact Ext.refl _) | (refine Ext.trans ?_ (by with_reducible assumption))))⟩

set_option maxHeartbeats 2000000 in
theorem sound_walk (S W L : Int) (A : Option Addr) (c : Nat) (l : List S45) (B : Option Addr) (d : Nat) (m : List S45) (w : World) (hr : k45.C w A l.length l) (hc : l.length ≤ c) (hp : ∀ x ∈ l, 0 ≤ x.f2 ∧ x.f2 ≤ 255) (hr2 : k45.C w B m.length m) (hc2 : m.length ≤ d) (hp2 : ∀ x ∈ m, 0 ≤ x.f2 ∧ x.f2 ≤ 255) :
    Calls Try.prog 5 #[.agg #[.int .i64 S, .int .i64 W, .int .i64 L], .slice A l.length c, .slice B m.length d] w fun e w' => e = .returned (.bool true) ∧ Ext w w' := by
  by_cases hall : smallB S W L l = true ∧ smallB S W L m = true
  case neg => exact sound_small S W L A c l B d m w hr hc hr2 hc2 hall
  case pos =>
    obtain ⟨h1, h2⟩ := hall
    have sl := small_is h1
    have sm := small_is h2
    have H1 := Lib.hid h1; have H2 := Lib.hid h2; clear h1 h2
    have g := sl.geo
    have gw := g.w1
    have gs := g.s1
    have hml : m.length ≤ 40 := sm.len
    have hll : l.length ≤ 40 := sl.len
    obtain ⟨al, hal⟩ : ∃ al, l ++ m = al := ⟨_, rfl⟩
    obtain ⟨n, hn⟩ : ∃ n, al.length = n := ⟨_, rfl⟩
    have hn80 : n ≤ 80 := by rw [← hn, ← hal, List.length_append]; omega
    have HB : Hid (∀ x ∈ al, (-4000 ≤ x.f0 ∧ x.f0 ≤ 4000 ∧ -4000 ≤ x.f1 ∧ x.f1 ≤ 4000) ∧ 0 ≤ x.f2 ∧ x.f2 ≤ 255) := by
      intro x hx
      rw [← hal] at hx
      rcases List.mem_append.1 hx with h | h
      · exact ⟨sl.step x h, hp x h⟩
      · exact ⟨sm.step x h, hp2 x h⟩
    clear hp hp2
    have HAL := Lib.hid hal
    have HN := Lib.hid hn
    clear hal hn
    go_enter Try.func5, Try.ntmps5
    go_wp2_with (first
      | (have gq := hb6; clear gq; at_builtin; refine wp_append_steps rfl _ _ rfl (.slice A6 l.length c6) l m al HAL.out n HN.out B m.length d rfl rfl h6 (C_ext hr2 (hx5.trans hb6)) hb6 (by omega) (by omega) ?_; intro A7 c7 w7 h7 hc7 hb7)
      | (at_builtin; go_loud (have hx5 : Ext w (w5.alloc (mayO S W L false none)) := (by repeat (first | ((with_reducible refine Ext.set1 ?_ ?_); (first | (focus (simp; done)) | (focus (simp; omega)) | (focus omega))) | (with_reducible refine Ext.alloc ?_ _) | (with_reducible exact Ext.refl _) | (refine Ext.trans ?_ (by with_reducible assumption)))); refine wp_append_steps (w0 := w5.alloc (mayO S W L false none)) rfl _ _ rfl (.slice (some ⟨w5.heap.size + 1, 0, none⟩) 0 0) [] l l rfl l.length rfl A l.length c rfl rfl (steps_lit (w := w5.alloc (mayO S W L false none)) (by simp) (Nat.le_refl _)) (C_ext hr (hx5.alloc _)) ((Ext.refl _).alloc _) (Nat.zero_le _) (by omega) ?_; intro A6 c6 w6 h6 hc6 hb6))
      | (go_at_call 21; refine Calls.mono (may_new_yes g _) ?_; rintro e w5 ⟨rfl, hb5⟩)
      | (go_at_call 20; refine Calls.mono (cache_new g _) ?_; rintro e w4 ⟨q, F0, rfl, hca, hb4⟩; obtain ⟨j0, j1, j2⟩ := Blk.c3 (w := w4) (B := w.heap.size) (by repeat (first | (with_reducible assumption) | ((with_reducible refine Blk.new ?_); (first | (focus rfl) | (focus (simp; done)) | (focus omega))) | ((with_reducible refine Blk.set1 ?_ ?_); (focus omega)) | (with_reducible refine Blk.alloc ?_) | (refine Blk.ext ?_ (by with_reducible assumption)))); have q4 : w.heap.size < w4.heap.size := (by have := hb4.size; have := hb3.size; have := hb2.size; have := hb1.size; simp at this; omega))
      | (have gq := hb2; clear gq; go_at_call 12; refine Calls.mono (small_any S W L B d m _ (C_ext hr2 (by exact (by repeat (first | ((with_reducible refine Ext.set1 ?_ ?_); (first | (focus (simp; done)) | (focus (simp; omega)) | (focus omega))) | (with_reducible refine Ext.alloc ?_ _) | (with_reducible exact Ext.refl _) | (refine Ext.trans ?_ (by with_reducible assumption)))))) hc2) ?_; rintro e w3 ⟨rfl, hb3⟩; rw [H2.out]; obtain ⟨i0, i1, i2⟩ := Blk.c3 (w := w3) (B := w.heap.size) (by repeat (first | (with_reducible assumption) | ((with_reducible refine Blk.new ?_); (first | (focus rfl) | (focus (simp; done)) | (focus omega))) | ((with_reducible refine Blk.set1 ?_ ?_); (focus omega)) | (with_reducible refine Blk.alloc ?_) | (refine Blk.ext ?_ (by with_reducible assumption)))))
      | (go_at_call 12; refine Calls.mono (small_any S W L A c l _ (C_ext hr (by exact (by repeat (first | ((with_reducible refine Ext.set1 ?_ ?_); (first | (focus (simp; done)) | (focus (simp; omega)) | (focus omega))) | (with_reducible refine Ext.alloc ?_ _) | (with_reducible exact Ext.refl _) | (refine Ext.trans ?_ (by with_reducible assumption)))))) hc) ?_; rintro e w2 ⟨rfl, hb2⟩; rw [H1.out]; obtain ⟨d0, d1, d2⟩ := Blk.c3 (w := w2) (B := w.heap.size) (by repeat (first | (with_reducible assumption) | ((with_reducible refine Blk.new ?_); (first | (focus rfl) | (focus (simp; done)) | (focus omega))) | ((with_reducible refine Blk.set1 ?_ ?_); (focus omega)) | (with_reducible refine Blk.alloc ?_) | (refine Blk.ext ?_ (by with_reducible assumption)))))
      | (go_at_call 11; refine Calls.mono (awake_yes _) ?_; rintro e w1 ⟨rfl, hb1⟩; obtain ⟨a0, a1, a2⟩ := Blk.c3 (w := w1) (B := w.heap.size) (by repeat (first | (with_reducible assumption) | ((with_reducible refine Blk.new ?_); (first | (focus rfl) | (focus (simp; done)) | (focus omega))) | ((with_reducible refine Blk.set1 ?_ ?_); (focus omega)) | (with_reducible refine Blk.alloc ?_) | (refine Blk.ext ?_ (by with_reducible assumption))))))
    have k9 : Blk w7 w5.heap.size (mayO S W L false none) := Blk.ext (by repeat (first | (with_reducible assumption) | ((with_reducible refine Blk.new ?_); (first | (focus rfl) | (focus (simp; done)) | (focus omega))) | ((with_reducible refine Blk.set1 ?_ ?_); (focus omega)) | (with_reducible refine Blk.alloc ?_) | (refine Blk.ext ?_ (by with_reducible assumption)))) hb7
    have kc : Blk w7 w.heap.size (.cells #[.int .i64 S, .int .i64 W, .int .i64 L] 23) := Blk.ext (by repeat (first | (with_reducible assumption) | ((with_reducible refine Blk.new ?_); (first | (focus rfl) | (focus (simp; done)) | (focus omega))) | ((with_reducible refine Blk.set1 ?_ ?_); (focus omega)) | (with_reducible refine Blk.alloc ?_) | (refine Blk.ext ?_ (by with_reducible assumption)))) hb7
    have hx7 : Ext w w7 := hx5.trans hb7
    have zca : CaB w7 w.heap.size q S W L F0 (List.replicate S.toNat []) := (hca.ext ((hb5.alloc _).trans hb7)).lower (by have := hb3.size; have := hb2.size; have := hb1.size; simp at this; omega)
    have zstp : StpB w7 w.heap.size (.slice A7 n c7) al := StpB.of (Kd.R_lower h7 hx5.size)
    have HD0 : Hid (Rows S W (List.replicate S.toNat []) ∧ Top 4000 (List.replicate S.toNat []) ∧ Descr S (some noF) (List.replicate S.toNat [])) := ⟨rows_empty gs gw, top_empty _ _, descr_start gs⟩
    have hq5 : w.heap.size < w5.heap.size := by have := hb5.size; omega
    clear hca hb1 hb2 hb3 hb4 hb5 hb6 hb7 h6 h7 hc6 hx5 a0 a1 a2 d0 d1 d2 i0 i1 i2 j0 j1 j2 hr hr2
    go_loopw [54] (fun i wr => ∃ (j : Nat) (ux : Bool) (px : Option Nat) (st : St) (F : Nat → Prop) (rows : List (List Int)), i = .int .i64 j ∧ j ≤ n ∧ (Blk wr w5.heap.size (mayO S W L ux px) ∧ Blk wr w.heap.size (.cells #[.int .i64 S, .int .i64 W, .int .i64 L] 23) ∧ StB wr W (64 * j) st ux px ∧
        CaB wr w.heap.size q S W L F rows ∧ StpB wr w.heap.size (.slice A7 n c7) al ∧ Ext w wr) ∧ Hid (Rows S W rows ∧ Top 4000 rows ∧ Descr S st rows)) (fun i _ => n - (Go.RowKit.intOf i).toNat)
    case atStart => exact ⟨0, false, none, some noF, F0, _, rfl, Nat.zero_le _, ⟨k9, kc, StB.nil _ _ _, zca, zstp, hx7⟩, HD0⟩
    case round =>
      clear k9 kc zca zstp HD0 hx7
      obtain ⟨j, ux, px, st, F, rows, rfl, hj, ⟨k9, kc, hst, hca, hstp, hext⟩, HD⟩ := hrel
      have hl9 := k9.lt
      have hlc := kc.lt
      by_cases hlt : j < n
      · obtain ⟨ad, rfl, c0, c1, c2⟩ := at_step (Kd.R_reads' hstp).2.2 j (by rw [HN.out]; exact hlt)
        have hxm : al.getD j z45 ∈ al := by
          rw [List.getD_eq_getElem?_getD, List.getElem?_eq_getElem (by rw [HN.out]; exact hlt)]
          exact List.getElem_mem _
        have hbx := HB.out _ hxm
        clear hxm
        obtain ⟨⟨x0, x1, x2⟩, hx⟩ : ∃ x, x = al.getD j z45 := ⟨_, rfl⟩
        rw [← hx] at c0 c1 c2 hbx
        dsimp only at c0 c1 c2 hbx
        clear hx
        obtain ⟨⟨b0, b1, b2, b3⟩, b4, b5⟩ := hbx
        have hbase : w.heap.size ≤ wr.heap.size := hext.size
        have HN2 : Hid (Rows S W (cStep S W rows x0 x1 x2) ∧ Top 4000 (cStep S W rows x0 x1 x2) ∧ Descr S (sStep S W st x0 x1) (cStep S W rows x0 x1 x2)) :=
          ⟨(rows_step gs gw HD.out.1 HD.out.2.1 b3).1, (rows_step gs gw HD.out.1 HD.out.2.1 b3).2, sound_step gs gw (fitS_of hst) HD.out.1 HD.out.2.2 x0 x1 x2⟩
        have y9 : Blk (wr.alloc (stepO x0 x1 x2)) w5.heap.size (mayO S W L ux px) := (by repeat (first | (with_reducible assumption) | ((with_reducible refine Blk.new ?_); (first | (focus rfl) | (focus (simp; done)) | (focus omega))) | ((with_reducible refine Blk.set1 ?_ ?_); (focus omega)) | (with_reducible refine Blk.alloc ?_) | (refine Blk.ext ?_ (by with_reducible assumption))))
        have yc : Blk (wr.alloc (stepO x0 x1 x2)) w.heap.size (.cells #[.int .i64 S, .int .i64 W, .int .i64 L] 23) := (by repeat (first | (with_reducible assumption) | ((with_reducible refine Blk.new ?_); (first | (focus rfl) | (focus (simp; done)) | (focus omega))) | ((with_reducible refine Blk.set1 ?_ ?_); (focus omega)) | (with_reducible refine Blk.alloc ?_) | (refine Blk.ext ?_ (by with_reducible assumption))))
        have y15 : Blk (wr.alloc (stepO x0 x1 x2)) wr.heap.size (stepO x0 x1 x2) := (by repeat (first | (with_reducible assumption) | ((with_reducible refine Blk.new ?_); (first | (focus rfl) | (focus (simp; done)) | (focus omega))) | ((with_reducible refine Blk.set1 ?_ ?_); (focus omega)) | (with_reducible refine Blk.alloc ?_) | (refine Blk.ext ?_ (by with_reducible assumption))))
        by_cases hln : x1 < max x0 0
        · have hcs : cStep S W rows x0 x1 x2 = rows := by unfold cStep; rw [lineOf_none hln]
          rw [hcs] at HN2
          clear hcs
          go_wp2_with (first
            | (go_at_call 22; refine Calls.mono (line_none x0 x1 x2 hln _) ?_; rintro e w11 ⟨rfl, hb11⟩; obtain ⟨t0, t1, t2, t3, t4⟩ := (y9.ext hb11).c5; obtain ⟨r0, r1, r2⟩ := (y15.ext hb11).c3))
          have z9 := y9.ext hb11
          have zc := yc.ext hb11
          have zst := hst.ext (Ext.trans ((Ext.refl wr).alloc _) hb11)
          have zstp := hstp.ext (Ext.trans ((Ext.refl wr).alloc _) hb11)
          have zext : Ext w w11 := hext.trans (Ext.trans ((Ext.refl wr).alloc _) hb11)
          refine Calls.mono (step_st g x0 x1 x2 (by omega) ux px (64 * j) st _ zst (by omega)) ?_
          rintro e w20 ⟨u20, p20, rfl, h20, hb20⟩
          have m9 := z9.ext hb20
          have mc := zc.ext hb20
          have mca := (hca.ext (Ext.trans ((Ext.refl wr).alloc _) hb11)).ext hb20
          have mstp := zstp.ext hb20
          have mext := zext.trans hb20
          have hl20 := m9.lt
          obtain ⟨t0, t1, t2, t3, t4⟩ := m9.c5
          obtain ⟨r0, r1, r2, r3, r4⟩ := m9.f5
          go_wp2
          have v9 := Blk.put5 (a' := .int .i64 S) (b' := .int .i64 W) (c' := .int .i64 L) (d' := .bool u20) (e' := .map p20) m9
          have vc := Blk.far5s (a := .int .i64 S) (b := .int .i64 W) (c := .int .i64 L) (d := .bool u20) (e := .map p20) (show w.heap.size ≠ w5.heap.size by omega) mc
          have vca := mca.set5 (a' := .int .i64 S) (b' := .int .i64 W) (c' := .int .i64 L) (d' := .bool u20) (e' := .map p20) m9 (by decide) (by decide) (by decide)
          have vstp := mstp.set5 (a' := .int .i64 S) (b' := .int .i64 W) (c' := .int .i64 L) (d' := .bool u20) (e' := .map p20) m9 (by decide)
          have vst := ((((h20.set (a := ⟨w5.heap.size, 0, none⟩) (v := .int .i64 S)).set (a := ⟨w5.heap.size, 1, none⟩) (v := .int .i64 W)).set (a := ⟨w5.heap.size, 2, none⟩) (v := .int .i64 L)).set (a := ⟨w5.heap.size, 3, none⟩) (v := .bool u20)).set (a := ⟨w5.heap.size, 4, none⟩) (v := .map p20)
          have vext := Ext.set5 (a := .int .i64 S) (b := .int .i64 W) (c := .int .i64 L) (d := .bool u20) (e := .map p20) (show w.heap.size ≤ w5.heap.size by omega) mext
          obtain ⟨wS, hwS⟩ : ∃ wS, wS = ((((w20.setCell ⟨w5.heap.size, 0, none⟩ (.int .i64 S)).setCell ⟨w5.heap.size, 1, none⟩ (.int .i64 W)).setCell ⟨w5.heap.size, 2, none⟩ (.int .i64 L)).setCell ⟨w5.heap.size, 3, none⟩ (.bool u20)).setCell ⟨w5.heap.size, 4, none⟩ (.map p20) := ⟨_, rfl⟩
          rw [← hwS] at v9 vc vca vstp vst vext ⊢
          clear hwS t0 t1 t2 t3 t4 r0 r1 r2 r3 r4
          obtain ⟨t0, t1, t2, t3, t4⟩ := v9.c5
          have hlen := HN2.out.1.len
          have hs64 := g.s64
          go_region_with (first
            | (have gq := hb21; clear gq; go_at_call 15; refine Calls.mono (descr_st g u20 p20 (64 * j + 64) _ _ _ _ _ (vst.ext hb21) (hrs.C rfl (by omega) (fun _ _ => rfl)) (fun l hl x hx => .of (by have := HN2.out.1.all l hl x hx; omega) (by have := HN2.out.2.1.all l hl x hx; omega))) ?_; intro e w22 hh; obtain ⟨rfl, hb22⟩ := hh.yes HN2.out.2.2)
            | (go_at_call 26; refine Calls.mono (cache_lines g (vca.ext (Ext.drew (Ext.refl _))) HN2.out.1) ?_; rintro e w21 ⟨g21, vs21, rfl, hrs, hb21'⟩; have hb21 : Ext wS w21 := (Ext.drew (Ext.refl _)).trans hb21'; clear hb21'; obtain ⟨s0, s1, s2, s3, s4⟩ := (v9.ext hb21).c5))
          all_goals
            go_wp2
            have hE := hb21.trans hb22
            refine ⟨⟨j + 1, u20, p20, _, F, _, by go_num, by omega, ⟨v9.ext hE, vc.ext hE, vst.ext hE, vca.ext hE, vstp.ext hE, vext.trans hE⟩, HN2⟩, ?_⟩
            simp [Go.RowKit.intOf]
            omega
        · obtain ⟨e1, e2, e3⟩ := lineOf_some (lo := x0) (hi := x1) (pk := x2) (by omega)
          have hcs : cStep S W rows x0 x1 x2 = cAcc S W rows (max x0 0 + x2 % (x1 - max x0 0 + 1)) := by unfold cStep; rw [e1]
          rw [hcs] at HN2
          clear hcs e1
          obtain ⟨nn, hnn⟩ : ∃ nn, max x0 0 + x2 % (x1 - max x0 0 + 1) = nn := ⟨_, rfl⟩
          rw [hnn] at HN2 e2 e3
          obtain ⟨hX1, hX2, hX3⟩ := mul_fits (n := nn) (by omega) (by omega) g.l1 g.l16
          obtain ⟨X, hX⟩ : ∃ X, nn * L = X := ⟨_, rfl⟩
          rw [hX] at hX1 hX2 hX3
          cases hb : hasB st nn
          · have HHB := Lib.hid hb
            clear hb
            go_wp2_with (first
              | (go_at_call 25; refine Calls.mono (touch_at (base := w.heap.size) g (hca.ext (by repeat (first | ((with_reducible refine Ext.set1 ?_ ?_); (first | (focus (simp; done)) | (focus (simp; omega)) | (focus omega))) | (with_reducible refine Ext.alloc ?_ _) | (with_reducible exact Ext.refl _) | (refine Ext.trans ?_ (by with_reducible assumption))))) HD.out.1 nn (by omega) (by omega) (by omega)) ?_; rintro e w14 ⟨rfl, F14, hc14, hF14, hf14⟩; have z9 := (hca.ext (Ext.trans ((Ext.refl wr).alloc _) (hb11.trans (hb12.trans hb13)))).keep hf14 (y9.ext (hb11.trans (hb12.trans hb13))) (by decide) (by decide); have zc := (hca.ext (Ext.trans ((Ext.refl wr).alloc _) (hb11.trans (hb12.trans hb13)))).keep hf14 (yc.ext (hb11.trans (hb12.trans hb13))) (by decide) (by decide); have z15 := (hca.ext (Ext.trans ((Ext.refl wr).alloc _) (hb11.trans (hb12.trans hb13)))).keep hf14 (y15.ext (hb11.trans (hb12.trans hb13))) (by decide) (by decide); obtain ⟨t0, t1, t2, t3, t4⟩ := z9.c5; obtain ⟨r0, r1, r2⟩ := z15.c3)
              | (go_at_call 24; refine Calls.mono (cache_probe g (hca.ext (by repeat (first | ((with_reducible refine Ext.set1 ?_ ?_); (first | (focus (simp; done)) | (focus (simp; omega)) | (focus omega))) | (with_reducible refine Ext.alloc ?_ _) | (with_reducible exact Ext.refl _) | (refine Ext.trans ?_ (by with_reducible assumption))))) HD.out.1 X hX1 hX2) ?_; rw [hX3, decide_eq_false (probe_out HD.out.2.2 HHB.out)]; rintro e w13 ⟨rfl, hb13⟩; have hz13 := hb13.size; obtain ⟨s0, s1, s2⟩ := (yc.ext (hb11.trans (hb12.trans hb13))).c3)
              | (go_at_call 23; refine Calls.mono (age_has S W L nn (by omega) (by omega) ux px (64 * j) st _ (hst.ext (by repeat (first | ((with_reducible refine Ext.set1 ?_ ?_); (first | (focus (simp; done)) | (focus (simp; omega)) | (focus omega))) | (with_reducible refine Ext.alloc ?_ _) | (with_reducible exact Ext.refl _) | (refine Ext.trans ?_ (by with_reducible assumption)))))) ?_; rw [HHB.out]; rintro e w12 ⟨ca, rfl, hb12⟩; have hz12 := hb12.size; obtain ⟨s0, s1, s2⟩ := (yc.ext (hb11.trans hb12)).c3)
              | (go_at_call 22; refine Calls.mono (line_some x0 x1 x2 (by omega) b3 b0 b4 b5 _) ?_; rw [hnn]; rintro e w11 ⟨rfl, hb11⟩; have hz11 := hb11.size; simp at hz11; obtain ⟨t0, t1, t2, t3, t4⟩ := (y9.ext hb11).c5; obtain ⟨r0, r1, r2⟩ := (y15.ext hb11).c3))
            have zst := (hst.ext (Ext.trans ((Ext.refl wr).alloc _) (hb11.trans (hb12.trans hb13)))).keep (hca.ext (Ext.trans ((Ext.refl wr).alloc _) (hb11.trans (hb12.trans hb13)))) hf14
            have zstp := (hstp.ext (Ext.trans ((Ext.refl wr).alloc _) (hb11.trans (hb12.trans hb13)))).keep (hca.ext (Ext.trans ((Ext.refl wr).alloc _) (hb11.trans (hb12.trans hb13)))) hf14
            have zext : Ext w w14 := (hext.trans (Ext.trans ((Ext.refl wr).alloc _) (hb11.trans (hb12.trans hb13)))).fr hf14 hca.fromB
            refine Calls.mono (step_st g x0 x1 x2 (by omega) ux px (64 * j) st _ zst (by omega)) ?_
            rintro e w20 ⟨u20, p20, rfl, h20, hb20⟩
            have m9 := z9.ext hb20
            have mc := zc.ext hb20
            have mca := hc14.ext hb20
            have mstp := zstp.ext hb20
            have mext := zext.trans hb20
            have hl20 := m9.lt
            obtain ⟨t0, t1, t2, t3, t4⟩ := m9.c5
            obtain ⟨r0, r1, r2, r3, r4⟩ := m9.f5
            go_wp2
            have v9 := Blk.put5 (a' := .int .i64 S) (b' := .int .i64 W) (c' := .int .i64 L) (d' := .bool u20) (e' := .map p20) m9
            have vc := Blk.far5s (a := .int .i64 S) (b := .int .i64 W) (c := .int .i64 L) (d := .bool u20) (e := .map p20) (show w.heap.size ≠ w5.heap.size by omega) mc
            have vca := mca.set5 (a' := .int .i64 S) (b' := .int .i64 W) (c' := .int .i64 L) (d' := .bool u20) (e' := .map p20) m9 (by decide) (by decide) (by decide)
            have vstp := mstp.set5 (a' := .int .i64 S) (b' := .int .i64 W) (c' := .int .i64 L) (d' := .bool u20) (e' := .map p20) m9 (by decide)
            have vst := ((((h20.set (a := ⟨w5.heap.size, 0, none⟩) (v := .int .i64 S)).set (a := ⟨w5.heap.size, 1, none⟩) (v := .int .i64 W)).set (a := ⟨w5.heap.size, 2, none⟩) (v := .int .i64 L)).set (a := ⟨w5.heap.size, 3, none⟩) (v := .bool u20)).set (a := ⟨w5.heap.size, 4, none⟩) (v := .map p20)
            have vext := Ext.set5 (a := .int .i64 S) (b := .int .i64 W) (c := .int .i64 L) (d := .bool u20) (e := .map p20) (show w.heap.size ≤ w5.heap.size by omega) mext
            obtain ⟨wS, hwS⟩ : ∃ wS, wS = ((((w20.setCell ⟨w5.heap.size, 0, none⟩ (.int .i64 S)).setCell ⟨w5.heap.size, 1, none⟩ (.int .i64 W)).setCell ⟨w5.heap.size, 2, none⟩ (.int .i64 L)).setCell ⟨w5.heap.size, 3, none⟩ (.bool u20)).setCell ⟨w5.heap.size, 4, none⟩ (.map p20) := ⟨_, rfl⟩
            rw [← hwS] at v9 vc vca vstp vst vext ⊢
            clear hwS t0 t1 t2 t3 t4 r0 r1 r2 r3 r4
            obtain ⟨t0, t1, t2, t3, t4⟩ := v9.c5
            have hlen := HN2.out.1.len
            have hs64 := g.s64
            go_region_with (first
              | (have gq := hb21; clear gq; go_at_call 15; refine Calls.mono (descr_st g u20 p20 (64 * j + 64) _ _ _ _ _ (vst.ext hb21) (hrs.C rfl (by omega) (fun _ _ => rfl)) (fun l hl x hx => .of (by have := HN2.out.1.all l hl x hx; omega) (by have := HN2.out.2.1.all l hl x hx; omega))) ?_; intro e w22 hh; obtain ⟨rfl, hb22⟩ := hh.yes HN2.out.2.2)
              | (go_at_call 26; refine Calls.mono (cache_lines g (vca.ext (Ext.drew (Ext.refl _))) HN2.out.1) ?_; rintro e w21 ⟨g21, vs21, rfl, hrs, hb21'⟩; have hb21 : Ext wS w21 := (Ext.drew (Ext.refl _)).trans hb21'; clear hb21'; obtain ⟨s0, s1, s2, s3, s4⟩ := (v9.ext hb21).c5))
            all_goals
              go_wp2
              have hE := hb21.trans hb22
              refine ⟨⟨j + 1, u20, p20, _, F14, _, by go_num, by omega, ⟨v9.ext hE, vc.ext hE, vst.ext hE, vca.ext hE, vstp.ext hE, vext.trans hE⟩, HN2⟩, ?_⟩
              simp [Go.RowKit.intOf]
              omega
          · have HHB := Lib.hid hb
            clear hb
            go_wp2_with (first
              | (go_at_call 25; refine Calls.mono (touch_at (base := w.heap.size) g (hca.ext (by repeat (first | ((with_reducible refine Ext.set1 ?_ ?_); (first | (focus (simp; done)) | (focus (simp; omega)) | (focus omega))) | (with_reducible refine Ext.alloc ?_ _) | (with_reducible exact Ext.refl _) | (refine Ext.trans ?_ (by with_reducible assumption))))) HD.out.1 nn (by omega) (by omega) (by omega)) ?_; rintro e w14 ⟨rfl, F14, hc14, hF14, hf14⟩; have z9 := (hca.ext (Ext.trans ((Ext.refl wr).alloc _) (hb11.trans hb12))).keep hf14 (y9.ext (hb11.trans hb12)) (by decide) (by decide); have zc := (hca.ext (Ext.trans ((Ext.refl wr).alloc _) (hb11.trans hb12))).keep hf14 (yc.ext (hb11.trans hb12)) (by decide) (by decide); have z15 := (hca.ext (Ext.trans ((Ext.refl wr).alloc _) (hb11.trans hb12))).keep hf14 (y15.ext (hb11.trans hb12)) (by decide) (by decide); obtain ⟨t0, t1, t2, t3, t4⟩ := z9.c5; obtain ⟨r0, r1, r2⟩ := z15.c3)
              | (go_at_call 23; refine Calls.mono (age_has S W L nn (by omega) (by omega) ux px (64 * j) st _ (hst.ext (by repeat (first | ((with_reducible refine Ext.set1 ?_ ?_); (first | (focus (simp; done)) | (focus (simp; omega)) | (focus omega))) | (with_reducible refine Ext.alloc ?_ _) | (with_reducible exact Ext.refl _) | (refine Ext.trans ?_ (by with_reducible assumption)))))) ?_; rw [HHB.out]; rintro e w12 ⟨ca, rfl, hb12⟩; have hz12 := hb12.size; obtain ⟨s0, s1, s2⟩ := (yc.ext (hb11.trans hb12)).c3)
              | (go_at_call 22; refine Calls.mono (line_some x0 x1 x2 (by omega) b3 b0 b4 b5 _) ?_; rw [hnn]; rintro e w11 ⟨rfl, hb11⟩; have hz11 := hb11.size; simp at hz11; obtain ⟨t0, t1, t2, t3, t4⟩ := (y9.ext hb11).c5; obtain ⟨r0, r1, r2⟩ := (y15.ext hb11).c3))
            have zst := (hst.ext (Ext.trans ((Ext.refl wr).alloc _) (hb11.trans hb12))).keep (hca.ext (Ext.trans ((Ext.refl wr).alloc _) (hb11.trans hb12))) hf14
            have zstp := (hstp.ext (Ext.trans ((Ext.refl wr).alloc _) (hb11.trans hb12))).keep (hca.ext (Ext.trans ((Ext.refl wr).alloc _) (hb11.trans hb12))) hf14
            have zext : Ext w w14 := (hext.trans (Ext.trans ((Ext.refl wr).alloc _) (hb11.trans hb12))).fr hf14 hca.fromB
            refine Calls.mono (step_st g x0 x1 x2 (by omega) ux px (64 * j) st _ zst (by omega)) ?_
            rintro e w20 ⟨u20, p20, rfl, h20, hb20⟩
            have m9 := z9.ext hb20
            have mc := zc.ext hb20
            have mca := hc14.ext hb20
            have mstp := zstp.ext hb20
            have mext := zext.trans hb20
            have hl20 := m9.lt
            obtain ⟨t0, t1, t2, t3, t4⟩ := m9.c5
            obtain ⟨r0, r1, r2, r3, r4⟩ := m9.f5
            go_wp2
            have v9 := Blk.put5 (a' := .int .i64 S) (b' := .int .i64 W) (c' := .int .i64 L) (d' := .bool u20) (e' := .map p20) m9
            have vc := Blk.far5s (a := .int .i64 S) (b := .int .i64 W) (c := .int .i64 L) (d := .bool u20) (e := .map p20) (show w.heap.size ≠ w5.heap.size by omega) mc
            have vca := mca.set5 (a' := .int .i64 S) (b' := .int .i64 W) (c' := .int .i64 L) (d' := .bool u20) (e' := .map p20) m9 (by decide) (by decide) (by decide)
            have vstp := mstp.set5 (a' := .int .i64 S) (b' := .int .i64 W) (c' := .int .i64 L) (d' := .bool u20) (e' := .map p20) m9 (by decide)
            have vst := ((((h20.set (a := ⟨w5.heap.size, 0, none⟩) (v := .int .i64 S)).set (a := ⟨w5.heap.size, 1, none⟩) (v := .int .i64 W)).set (a := ⟨w5.heap.size, 2, none⟩) (v := .int .i64 L)).set (a := ⟨w5.heap.size, 3, none⟩) (v := .bool u20)).set (a := ⟨w5.heap.size, 4, none⟩) (v := .map p20)
            have vext := Ext.set5 (a := .int .i64 S) (b := .int .i64 W) (c := .int .i64 L) (d := .bool u20) (e := .map p20) (show w.heap.size ≤ w5.heap.size by omega) mext
            obtain ⟨wS, hwS⟩ : ∃ wS, wS = ((((w20.setCell ⟨w5.heap.size, 0, none⟩ (.int .i64 S)).setCell ⟨w5.heap.size, 1, none⟩ (.int .i64 W)).setCell ⟨w5.heap.size, 2, none⟩ (.int .i64 L)).setCell ⟨w5.heap.size, 3, none⟩ (.bool u20)).setCell ⟨w5.heap.size, 4, none⟩ (.map p20) := ⟨_, rfl⟩
            rw [← hwS] at v9 vc vca vstp vst vext ⊢
            clear hwS t0 t1 t2 t3 t4 r0 r1 r2 r3 r4
            obtain ⟨t0, t1, t2, t3, t4⟩ := v9.c5
            have hlen := HN2.out.1.len
            have hs64 := g.s64
            go_region_with (first
              | (have gq := hb21; clear gq; go_at_call 15; refine Calls.mono (descr_st g u20 p20 (64 * j + 64) _ _ _ _ _ (vst.ext hb21) (hrs.C rfl (by omega) (fun _ _ => rfl)) (fun l hl x hx => .of (by have := HN2.out.1.all l hl x hx; omega) (by have := HN2.out.2.1.all l hl x hx; omega))) ?_; intro e w22 hh; obtain ⟨rfl, hb22⟩ := hh.yes HN2.out.2.2)
              | (go_at_call 26; refine Calls.mono (cache_lines g (vca.ext (Ext.drew (Ext.refl _))) HN2.out.1) ?_; rintro e w21 ⟨g21, vs21, rfl, hrs, hb21'⟩; have hb21 : Ext wS w21 := (Ext.drew (Ext.refl _)).trans hb21'; clear hb21'; obtain ⟨s0, s1, s2, s3, s4⟩ := (v9.ext hb21).c5))
            all_goals
              go_wp2
              have hE := hb21.trans hb22
              refine ⟨⟨j + 1, u20, p20, _, F14, _, by go_num, by omega, ⟨v9.ext hE, vc.ext hE, vst.ext hE, vca.ext hE, vstp.ext hE, vext.trans hE⟩, HN2⟩, ?_⟩
              simp [Go.RowKit.intOf]
              omega
      · obtain rfl : j = n := by omega
        go_wp2
        go_ret
        exact ⟨rfl, hext⟩
end Go.Proofs.Ytjckghdgogkeaaa

namespace Go.Proofs.Ytjckghdgogkeaaa
open Go.ChangeShapes Go.WideShapes Go.Joins Go.Deep Go.RowKit Go.Proofs.YtjckghdgogkeaaaW.PrintWords Go.Proofs.Ytjckghdgogkeaaa.PMayDescribes
set_option linter.unusedVariables false

theorem laidOut : laidOutB Try.prog = true := by kernel_rfl
theorem ownNone : ownKnob Try.prog.godebug = none := by kernel_rfl
section
variable {H : Type} {enc : TypeId × Value → H} {w : World} {base b0 : Nat} {spare : Nat → Bool} {held : Bool} {v : Value} {d : DataW H} {p : List MemPlace}
set_option maxRecDepth 100000 in
theorem open_cache (hv : Value.okWide Try.prog w .any b0 23 v) (h : DataW.Trod enc Try.prog w base spare held 23 v d p) : ∃ S W L, v = .agg #[.int .i64 S, .int .i64 W, .int .i64 L] := by
  obtain ⟨v0, v1, v2, y0, y1, y2, n, rfl, _, _, h0, h1, h2⟩ := open_agg3 Try.underlying23 (by kernel_rfl) (by kernel_rfl) hv h
  obtain ⟨S, e0, _, _⟩ := DataW.trod_int Try.underlying3 h0
  obtain ⟨W, e1, _, _⟩ := DataW.trod_int Try.underlying3 h1
  obtain ⟨L, e2, _, _⟩ := DataW.trod_int Try.underlying3 h2
  cases e0
  cases e1
  cases e2
  exact ⟨S, W, L, rfl⟩
set_option maxRecDepth 100000 in
theorem open_steps (hv : Value.okWide Try.prog w .any b0 24 v) (h : DataW.Trod enc Try.prog w base spare held 24 v d p) : ∃ A c l, v = .slice A l.length c ∧ l.length ≤ c ∧ k45.C w A l.length l := by
  obtain ⟨A, n, c, rfl⟩ := okWide_slice Try.underlying24 hv
  obtain ⟨fuel, h⟩ := h
  rcases open_slice Try.underlying24 h with ⟨hcs, _⟩ | ⟨a, len, cap, m, fu, D, Pl, hcs, _, hl, hm, hmm, _, hi⟩
  · simp [Value.cells] at hcs
    obtain ⟨rfl, rfl, rfl⟩ := hcs
    exact ⟨none, 0, [], rfl, Nat.le_refl _, Kd.C_nil _ _⟩
  · simp [Value.cells] at hcs
    obtain ⟨rfl, rfl, rfl⟩ := hcs
    have hc3 : Try.prog.cellsOf 45 = 3 := by kernel_rfl
    have hnm : n ≤ m := by rw [hmm]; split <;> omega
    have key : ∀ i, i < n → ∃ x : S45, w.cell? (a.add (i * 3)) = some (.int .i64 x.f0) ∧ w.cell? (a.add (i * 3 + 1)) = some (.int .i64 x.f1) ∧ w.cell? (a.add (i * 3 + 2)) = some (.int .u8 x.f2) := by
      intro i hin
      obtain ⟨cs, h1, h2⟩ := hi i (by omega)
      rw [hc3] at h1
      obtain ⟨_, hlen, hcell⟩ := World.cells?_some h1
      obtain ⟨ys, n', _, _, _, hys, hf⟩ := DataW.trod_struct Try.underlying45 h2
      have hys3 : ys.length = 3 := hys
      have hki : Try.prog.cellsOf 3 = 1 := by kernel_rfl
      have hku : Try.prog.cellsOf 5 = 1 := by kernel_rfl
      match cs, hlen with
      | [u0, u1, u2], _ =>
        have t0 : DataW.trod enc Try.prog w base spare held n' 3 ((List.drop 0 [u0, u1, u2]).take (Try.prog.cellsOf 3)) = ys[0]? := hf 0 _ rfl
        have t1 : DataW.trod enc Try.prog w base spare held n' 3 ((List.drop 1 [u0, u1, u2]).take (Try.prog.cellsOf 3)) = ys[1]? := hf 1 _ rfl
        have t2 : DataW.trod enc Try.prog w base spare held n' 5 ((List.drop 2 [u0, u1, u2]).take (Try.prog.cellsOf 5)) = ys[2]? := hf 2 _ rfl
        rw [hki, List.getElem?_eq_getElem (by omega)] at t0 t1
        rw [hku, List.getElem?_eq_getElem (by omega)] at t2
        obtain ⟨x0, e0, _, _⟩ := DataW.trod_int Try.underlying3 t0
        obtain ⟨x1, e1, _, _⟩ := DataW.trod_int Try.underlying3 t1
        obtain ⟨x2, e2, _, _⟩ := DataW.trod_int Try.underlying5 t2
        replace e0 : u0 = .int .i64 x0 := by simpa using e0
        replace e1 : u1 = .int .i64 x1 := by simpa using e1
        replace e2 : u2 = .int .u8 x2 := by simpa using e2
        subst e0
        subst e1
        subst e2
        have q0 := hcell 0 (by omega)
        have q1 := hcell 1 (by omega)
        have q2 := hcell 2 (by omega)
        rw [Deep.add_add] at q0 q1 q2
        exact ⟨⟨x0, x1, x2⟩, q0, q1, q2⟩
    let l : List S45 := (List.range n).map fun i => if hin : i < n then (key i hin).choose else z45
    have hll : l.length = n := by simp [l]
    refine ⟨some a, c, l, by rw [hll], by omega, hll ▸ hll, ?_, fun _ => ⟨a, rfl, fun j q hj => ?_⟩⟩
    · unfold maxLen at hm
      omega
    · have hjn : j < n := by
        have := (List.getElem?_eq_some_iff.1 hj).1
        omega
      have e : q = (key j hjn).choose := by
        simp [l, hjn] at hj
        exact hj.symm
      have hs := (key j hjn).choose_spec
      rw [← e] at hs
      refine ⟨_, rfl, k45_mk w q, fun i u hu => ?_⟩
      match i, hu with
      | 0, hu => cases hu; exact hs.1
      | 1, hu => cases hu; exact hs.2.1
      | 2, hu => cases hu; exact hs.2.2
      | i + 3, hu => cases hu
set_option maxRecDepth 100000 in
theorem open_rows (hv : Value.okWide Try.prog w .any b0 25 v) (h : DataW.Trod enc Try.prog w base (fun _ => true) held 25 v d p) : ∃ A c ls, v = .slice A ls.length c ∧ ls.length ≤ c ∧ KL.C w A ls.length ls ∧ ∀ l ∈ ls, ∀ x ∈ l, I64 x := by
  obtain ⟨A, n, c, rfl⟩ := okWide_slice Try.underlying25 hv
  obtain ⟨fuel, h⟩ := h
  rcases open_int_rows Try.underlying25 Try.underlying28 Try.underlying3 (by kernel_rfl) (by kernel_rfl) h with ⟨hcs, _⟩ | ⟨a, len, cap, AA, LL, CC, ZZ, hcs, _, hl, hm, _, hr⟩
  · simp [Value.cells] at hcs
    obtain ⟨rfl, rfl, rfl⟩ := hcs
    exact ⟨none, 0, [], rfl, Nat.le_refl _, Kd.C_nil _ _, fun _ h => by cases h⟩
  · simp [Value.cells] at hcs
    obtain ⟨rfl, rfl, rfl⟩ := hcs
    let ls : List (List Int) := (List.range n).map fun i => (ZZ i).take (LL i)
    have hll : ls.length = n := by simp [ls]
    refine ⟨some a, c, ls, by rw [hll], by omega, ⟨hll ▸ hll, ?_, fun _ => ⟨a, rfl, fun j q hj => ?_⟩⟩, fun l hl x hx => ?_⟩
    · unfold maxLen at hm
      omega
    · have hjn : j < n := by
        have := (List.getElem?_eq_some_iff.1 hj).1
        omega
      have e : q = (ZZ j).take (LL j) := by
        simp [ls, hjn] at hj
        exact hj.symm
      obtain ⟨hc, hL, hC, hZ, hwf, hnone, hat⟩ := hr j (by omega)
      have hql : q.length = LL j := by rw [e, List.length_take]; omega
      refine ⟨[.slice (AA j) q.length (CC j)], rfl, ⟨AA j, CC j, rfl, by omega, rfl, by unfold maxLen at hC; omega, fun hpos => ?_⟩, fun i u hu => ?_⟩
      · cases ha : AA j with
        | none =>
          have := hnone ha
          omega
        | some a' =>
          refine ⟨a', rfl, fun i y hy => ⟨[.int .i64 y], rfl, rfl, fun i' u hu => ?_⟩⟩
          obtain ⟨_, hat⟩ := hat a' ha
          have hil : i < q.length := (List.getElem?_eq_some_iff.1 hy).1
          cases i' with
          | succ _ => cases hu
          | zero =>
            cases hu
            have := hat i (by omega)
            rw [e, List.getElem?_take] at hy
            split at hy
            · rw [List.getD_eq_getElem?_getD, hy] at this
              show w.cell? (a'.add (i * 1 + 0)) = _
              rw [Nat.mul_one, Nat.add_zero]
              exact this
            · cases hy
      · cases i with
        | succ _ => cases hu
        | zero =>
          cases hu
          show w.cell? (a.add (j * 1 + 0)) = _
          rw [hql, Nat.mul_one, Nat.add_zero]
          exact hc
    · simp only [ls, List.mem_map, List.mem_range] at hl
      obtain ⟨j, hjn, rfl⟩ := hl
      obtain ⟨_, _, _, _, hwf, _, _⟩ := hr j (by omega)
      exact hwf x (List.mem_of_mem_take hx)
end
end Go.Proofs.Ytjckghdgogkeaaa
