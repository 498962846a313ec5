/- The contract of ontimelaw31.after. -/
import Derived.Test.YtjckghdgogkeaaaMay10
namespace Go.Proofs.Ytjckghdgogkeaaa
open Go.RowKit Go.Maps Go.Proofs.YtjckghdgogkeaaaW.PrintWords Go.Proofs.Ytjckghdgogkeaaa.PMayDescribes
set_option linter.unusedVariables false

theorem at_step {w : World} {A : Option Addr} {n : Nat} {xs : List S45} (h : k45.C w A n xs) (k : Nat) (hk : k < n) : ∃ ad, A = some ad ∧ w.cell? (ad.add (k * 3)) = some (.int .i64 (xs.getD k z45).f0) ∧ w.cell? ⟨(ad.add (k * 3)).block, (ad.add (k * 3)).off + 1, none⟩ = some (.int .i64 (xs.getD k z45).f1) ∧ w.cell? ⟨(ad.add (k * 3)).block, (ad.add (k * 3)).off + 2, none⟩ = some (.int .u8 (xs.getD k z45).f2) := by
  have := at_T45 h (k : Int) (by omega) (by omega)
  simpa [rd_T45] using this

abbrev zMay : Obj := .cells #[.int .i64 0, .int .i64 0, .int .i64 0, .bool false, .map none] 31
abbrev mayO (S W L : Int) (u : Bool) (p : Option Nat) : Obj := .cells #[.int .i64 S, .int .i64 W, .int .i64 L, .bool u, .map p] 31
abbrev zRef : Obj := .cells #[.int .i64 0, .int .i64 0, .int .i64 0, .bool false, .slice none 0 0] 34
abbrev refO (S W L : Int) (u : Bool) (v : Value) : Obj := .cells #[.int .i64 S, .int .i64 W, .int .i64 L, .bool u, v] 34

section
variable {w : World} {B : Nat} {a b c d e a' b' c' d' e' : Value} {t : TypeId}
/-- A store of a whole struct of five cells. -/
theorem Blk.put5 (h : Blk w B (.cells #[a, b, c, d, e] t)) : Blk (((((w.setCell ⟨B, 0, none⟩ a').setCell ⟨B, 1, none⟩ b').setCell ⟨B, 2, none⟩ c').setCell ⟨B, 3, none⟩ d').setCell ⟨B, 4, none⟩ e') B (.cells #[a', b', c', d', e'] t) := by
  have := ((((h.put (k := 0) (u := a')).put (k := 1) (u := b')).put (k := 2) (u := c')).put (k := 3) (u := d')).put (k := 4) (u := e')
  exact this
theorem RfB.set5 {base : Nat} {v : Value} {l : List S81} (h : RfB w base v l) (hb : Blk w B (.cells #[a, b, c, d, e] t)) (ht : t ≠ 81) : RfB (((((w.setCell ⟨B, 0, none⟩ a').setCell ⟨B, 1, none⟩ b').setCell ⟨B, 2, none⟩ c').setCell ⟨B, 3, none⟩ d').setCell ⟨B, 4, none⟩ e') base v l :=
  ((((h.set hb ht).set (hb.put) ht).set (hb.put.put) ht).set (hb.put.put.put) ht).set (hb.put.put.put.put) ht
end

set_option maxHeartbeats 1000000 in
theorem after_st {S W L : Int} (g : Geo S W L) (A : Option Addr) (c : Nat) (l : List S45) (w : World) (hr : k45.C w A l.length l) (hl : l.length ≤ 100) (hb : ∀ x ∈ l, -4000 ≤ x.f0 ∧ x.f0 ≤ 4000 ∧ -4000 ≤ x.f1 ∧ x.f1 ≤ 4000) :
    Calls Try.prog 13 #[.agg #[.int .i64 S, .int .i64 W, .int .i64 L], .slice A l.length c] w fun e w' => ∃ u p v, e = .returned (.tuple #[.agg #[.int .i64 S, .int .i64 W, .int .i64 L, .bool u, .map p], .agg #[.int .i64 S, .int .i64 W, .int .i64 L, .bool (rSteps S W (false, []) l).1, v]]) ∧ StB w' W (64 * l.length) (sSteps S W (some noF) l) u p ∧ RfB w' w.heap.size v (rSteps S W (false, []) l).2 ∧ Ext w w' := by
  obtain ⟨n, hn⟩ : ∃ n, n = l.length := ⟨_, rfl⟩
  rw [← hn] at hr hl ⊢
  have HN := Lib.hid hn; clear hn
  have HB := Lib.hid hb; clear hb
  go_enter Try.func13, Try.ntmps13
  go_wp2_with (go_at_call 21; refine Calls.mono (may_new_yes g _) ?_; rintro e w1 ⟨rfl, hb1⟩; have hz1 := hb1.size; simp at hz1; have q1 : w.heap.size < w1.heap.size := (by omega); obtain ⟨a0, a1, a2⟩ := Blk.c3 (w := w1) (B := w.heap.size) (by repeat (first | (with_reducible assumption) | ((with_reducible refine Blk.new ?_); (first | (focus rfl) | (focus (simp; done)) | (focus omega))) | ((with_reducible refine Blk.set1 ?_ ?_); (focus omega)) | (with_reducible refine Blk.alloc ?_) | (refine Blk.ext ?_ (by with_reducible assumption)))))
  go_loopw [20] (fun i wr => ∃ (k : Nat) (u : Bool) (p : Option Nat) (v : Value), i = .int .i64 k ∧ k ≤ n ∧ (Blk wr (w.heap.size + 1) zMay ∧ Blk wr (w.heap.size + 1 + 1) zRef ∧ Blk wr w1.heap.size (mayO S W L u p) ∧ Blk wr (w1.heap.size + 1) (refO S W L (rSteps S W (false, []) (l.take k)).1 v) ∧
      StB wr W (64 * k) (sSteps S W (some noF) (l.take k)) u p ∧ RfB wr w.heap.size v (rSteps S W (false, []) (l.take k)).2 ∧ Ext w wr)) (fun i _ => n - (Go.RowKit.intOf i).toNat)
  case atStart =>
    have e0 : rSteps S W (false, []) (l.take 0) = (false, []) := rfl
    refine ⟨0, false, none, .slice none 0 0, rfl, Nat.zero_le _, (by repeat (first | (with_reducible assumption) | ((with_reducible refine Blk.new ?_); (first | (focus rfl) | (focus (simp; done)) | (focus omega))) | ((with_reducible refine Blk.set1 ?_ ?_); (focus omega)) | (with_reducible refine Blk.alloc ?_) | (refine Blk.ext ?_ (by with_reducible assumption)))), (by repeat (first | (with_reducible assumption) | ((with_reducible refine Blk.new ?_); (first | (focus rfl) | (focus (simp; done)) | (focus omega))) | ((with_reducible refine Blk.set1 ?_ ?_); (focus omega)) | (with_reducible refine Blk.alloc ?_) | (refine Blk.ext ?_ (by with_reducible assumption)))), (by repeat (first | (with_reducible assumption) | ((with_reducible refine Blk.new ?_); (first | (focus rfl) | (focus (simp; done)) | (focus omega))) | ((with_reducible refine Blk.set1 ?_ ?_); (focus omega)) | (with_reducible refine Blk.alloc ?_) | (refine Blk.ext ?_ (by with_reducible assumption)))), ?_, StB.nil _ _ _, ?_, (by repeat (first | ((with_reducible refine Ext.set1 ?_ ?_); (first | (focus (simp; done)) | (focus (simp; omega)) | (focus omega))) | (with_reducible refine Ext.alloc ?_ _) | (with_reducible exact Ext.refl _) | (refine Ext.trans ?_ (by with_reducible assumption))))⟩
    · rw [e0]
      exact (by repeat (first | (with_reducible assumption) | ((with_reducible refine Blk.new ?_); (first | (focus rfl) | (focus (simp; done)) | (focus omega))) | ((with_reducible refine Blk.set1 ?_ ?_); (focus omega)) | (with_reducible refine Blk.alloc ?_) | (refine Blk.ext ?_ (by with_reducible assumption))))
    · rw [e0]
      exact Kd.R_nil _ _ _ _ _
  case round =>
    obtain ⟨k, u, p, v, rfl, hk, k1, k2, k3, k4, hst, hrf, hext⟩ := hrel
    clear a0 a1 a2
    have hl1 := k1.lt
    have hl3 := k3.lt
    have hl4 := k4.lt
    by_cases hlt : k < n
    · have hr1 := C_ext hr hext
      obtain ⟨ad, rfl, c0, c1, c2⟩ := at_step hr1 k hlt
      have hlk : k < l.length := by rw [← HN.out]; exact hlt
      have hxm : l.getD k z45 ∈ l := by
        rw [List.getD_eq_getElem?_getD, List.getElem?_eq_getElem hlk]
        exact List.getElem_mem hlk
      have hbx := HB.out _ hxm
      have htk : l.take (k + 1) = l.take k ++ [l.getD k z45] := by
        rw [List.take_add_one, List.getElem?_eq_getElem hlk, List.getD_eq_getElem?_getD, List.getElem?_eq_getElem hlk]
        rfl
      have es : sSteps S W (some noF) (l.take (k + 1)) = sStep S W (sSteps S W (some noF) (l.take k)) (l.getD k z45).f0 (l.getD k z45).f1 := by
        rw [htk]
        simp [sSteps, List.foldl_append]
      have er : rSteps S W (false, []) (l.take (k + 1)) = rStep S W (rSteps S W (false, []) (l.take k)) (l.getD k z45).f0 (l.getD k z45).f1 := by
        rw [htk]
        simp [rSteps, List.foldl_append]
      have hfit : FitL W (rSteps S W (false, []) (l.take k)).2 := (Rel.steps (by have := g.s1; omega) g.w1 (l.take k) (Rel.start W)).fit
      have hlen : (rSteps S W (false, []) (l.take k)).2.length < 50000 := by
        have h1 := rSteps_len S W (l.take k) (false, [])
        have h2 : (l.take k).length ≤ 100 := by rw [List.length_take]; omega
        simp only [List.length_nil] at h1
        omega
      clear hxm htk
      obtain ⟨⟨x0, x1, x2⟩, hx⟩ : ∃ x, x = l.getD k z45 := ⟨_, rfl⟩
      rw [← hx] at c0 c1 c2 hbx es er
      dsimp only at c0 c1 c2 hbx es er
      clear hx
      obtain ⟨s, hs⟩ : ∃ s, s = rSteps S W (false, []) (l.take k) := ⟨_, rfl⟩
      rw [← hs] at k4 hrf er hfit hlen
      clear hs
      obtain ⟨st, hs⟩ : ∃ st, st = sSteps S W (some noF) (l.take k) := ⟨_, rfl⟩
      rw [← hs] at hst es
      clear hs
      have ER := Lib.hid er
      have ES := Lib.hid es
      clear er es
      obtain ⟨d0, d1, d2, d3, d4⟩ := k3.c5
      obtain ⟨b0, b1, b2, b3⟩ := hbx
      by_cases hx : x0 = x1
      · subst hx
        go_wp2_with (first
          | (have gq := hb2; clear gq; go_at_call 33; have hrfE := RfB.set5 (a' := .int .i64 S) (b' := .int .i64 W) (c' := .int .i64 L) (d' := .bool u2) (e' := .map p2) (hrf2) m3 (by decide); refine Calls.mono (rstep_acc g x0 s v w _ (by repeat (first | ((with_reducible refine Ext.set1 ?_ ?_); (first | (focus (simp; done)) | (focus (simp; omega)) | (focus omega))) | (with_reducible refine Ext.alloc ?_ _) | (with_reducible exact Ext.refl _) | (refine Ext.trans ?_ (by with_reducible assumption)))) hrfE hfit hlen) ?_; rintro e w3 ⟨v3, rfl, hrf3, hext3, hk3⟩; obtain ⟨A3, cc3, rfl⟩ := Kd.R_slice hrf3; have y1 : Blk w3 (w.heap.size + 1) zMay := kept_blk hrfE hk3 (by repeat (first | (with_reducible assumption) | ((with_reducible refine Blk.new ?_); (first | (focus rfl) | (focus (simp; done)) | (focus omega))) | ((with_reducible refine Blk.set1 ?_ ?_); (focus omega)) | (with_reducible refine Blk.alloc ?_) | (refine Blk.ext ?_ (by with_reducible assumption)))) (by decide); have y2 : Blk w3 (w.heap.size + 1 + 1) zRef := kept_blk hrfE hk3 (by repeat (first | (with_reducible assumption) | ((with_reducible refine Blk.new ?_); (first | (focus rfl) | (focus (simp; done)) | (focus omega))) | ((with_reducible refine Blk.set1 ?_ ?_); (focus omega)) | (with_reducible refine Blk.alloc ?_) | (refine Blk.ext ?_ (by with_reducible assumption)))) (by decide); have y3 : Blk w3 w1.heap.size (mayO S W L u2 p2) := kept_blk hrfE hk3 (Blk.put5 m3) (by decide); have y4 : Blk w3 (w1.heap.size + 1) (refO S W L s.1 v) := kept_blk hrfE hk3 (by repeat (first | (with_reducible assumption) | ((with_reducible refine Blk.new ?_); (first | (focus rfl) | (focus (simp; done)) | (focus omega))) | ((with_reducible refine Blk.set1 ?_ ?_); (focus omega)) | (with_reducible refine Blk.alloc ?_) | (refine Blk.ext ?_ (by with_reducible assumption)))) (by decide); have yst := kept_st hrfE hk3 (W := W) (n := 64 * k + 64) (st := sStep S W st x0 x0) (u := u2) (p := p2) (by repeat (first | (with_reducible assumption) | (with_reducible refine StB.set ?_) | (with_reducible refine StB.alloc ?_ _) | (refine StB.ext ?_ (by with_reducible assumption)))); obtain ⟨r0, r1, r2, r3, r4⟩ := y4.c5; obtain ⟨s0, s1, s2, s3, s4⟩ := y4.f5)
          | (go_at_call 18; refine Calls.mono (step_st g x0 x0 x2 (by omega) u p (64 * k) st _ (by repeat (first | (with_reducible assumption) | (with_reducible refine StB.set ?_) | (with_reducible refine StB.alloc ?_ _) | (refine StB.ext ?_ (by with_reducible assumption)))) (by omega)) ?_; rintro e w2 ⟨u2, p2, rfl, hst2, hb2⟩; have hz2 := hb2.size; simp at hz2; have q2 : wr.heap.size < w2.heap.size := (by omega); have q3 : w1.heap.size < w2.heap.size := (by omega); have q4 : w1.heap.size + 1 < w2.heap.size := (by omega); obtain ⟨i0, i1, i2⟩ := Blk.c3 (w := w2) (B := wr.heap.size) (by repeat (first | (with_reducible assumption) | ((with_reducible refine Blk.new ?_); (first | (focus rfl) | (focus (simp; done)) | (focus omega))) | ((with_reducible refine Blk.set1 ?_ ?_); (focus omega)) | (with_reducible refine Blk.alloc ?_) | (refine Blk.ext ?_ (by with_reducible assumption)))); obtain ⟨j0, j1, j2, j3, j4⟩ := Blk.c5 (w := w2) (B := w1.heap.size + 1) (by repeat (first | (with_reducible assumption) | ((with_reducible refine Blk.new ?_); (first | (focus rfl) | (focus (simp; done)) | (focus omega))) | ((with_reducible refine Blk.set1 ?_ ?_); (focus omega)) | (with_reducible refine Blk.alloc ?_) | (refine Blk.ext ?_ (by with_reducible assumption)))); have m3 : Blk w2 w1.heap.size (mayO S W L u p) := (by repeat (first | (with_reducible assumption) | ((with_reducible refine Blk.new ?_); (first | (focus rfl) | (focus (simp; done)) | (focus omega))) | ((with_reducible refine Blk.set1 ?_ ?_); (focus omega)) | (with_reducible refine Blk.alloc ?_) | (refine Blk.ext ?_ (by with_reducible assumption)))); obtain ⟨n0, n1, n2, n3, n4⟩ := m3.f5; obtain ⟨o0, o1, o2, o3, o4⟩ := m3.c5; have hrf2 := (hrf.alloc _).ext hb2))
        go_roundw
        case rel =>
          refine ⟨k + 1, u2, p2, .slice A3 (rAcc S W s x0).2.length cc3, by go_num, by omega, (by repeat (first | (with_reducible assumption) | ((with_reducible refine Blk.new ?_); (first | (focus rfl) | (focus (simp; done)) | (focus omega))) | ((with_reducible refine Blk.set1 ?_ ?_); (focus omega)) | (with_reducible refine Blk.alloc ?_) | (refine Blk.ext ?_ (by with_reducible assumption)))), (by repeat (first | (with_reducible assumption) | ((with_reducible refine Blk.new ?_); (first | (focus rfl) | (focus (simp; done)) | (focus omega))) | ((with_reducible refine Blk.set1 ?_ ?_); (focus omega)) | (with_reducible refine Blk.alloc ?_) | (refine Blk.ext ?_ (by with_reducible assumption)))), (by repeat (first | (with_reducible assumption) | ((with_reducible refine Blk.new ?_); (first | (focus rfl) | (focus (simp; done)) | (focus omega))) | ((with_reducible refine Blk.set1 ?_ ?_); (focus omega)) | (with_reducible refine Blk.alloc ?_) | (refine Blk.ext ?_ (by with_reducible assumption)))), ?_, ?_, ?_, (by repeat (first | ((with_reducible refine Ext.set1 ?_ ?_); (first | (focus (simp; done)) | (focus (simp; omega)) | (focus omega))) | (with_reducible refine Ext.alloc ?_ _) | (with_reducible exact Ext.refl _) | (refine Ext.trans ?_ (by with_reducible assumption))))⟩
          · rw [ER.out]
            unfold rStep
            rw [if_pos rfl]
            exact Blk.put5 y4
          · rw [ES.out]
            have yst' := yst.mono (n' := 64 * (k + 1)) (by omega)
            clear yst
            exact (by repeat (first | (with_reducible assumption) | (with_reducible refine StB.set ?_) | (with_reducible refine StB.alloc ?_ _) | (refine StB.ext ?_ (by with_reducible assumption))))
          · rw [ER.out]
            unfold rStep
            rw [if_pos rfl]
            exact RfB.set5 hrf3 y4 (by decide)
        case measure => simp [Go.RowKit.intOf]; omega
      · have hx2 : (x0 == x1) = false := by simpa using hx
        have HX := Lib.hid hx; clear hx
        go_wp2_with (first
          | (have gq := hb2; clear gq; go_at_call 34; have hrfE := RfB.set5 (a' := .int .i64 S) (b' := .int .i64 W) (c' := .int .i64 L) (d' := .bool u2) (e' := .map p2) (hrf2) m3 (by decide); refine Calls.mono (rstep_range g x0 x1 ⟨b0, b1⟩ ⟨b2, b3⟩ s v w _ (by repeat (first | ((with_reducible refine Ext.set1 ?_ ?_); (first | (focus (simp; done)) | (focus (simp; omega)) | (focus omega))) | (with_reducible refine Ext.alloc ?_ _) | (with_reducible exact Ext.refl _) | (refine Ext.trans ?_ (by with_reducible assumption)))) hrfE hfit hlen) ?_; rintro e w3 ⟨v3, rfl, hrf3, hext3, hk3⟩; obtain ⟨A3, cc3, rfl⟩ := Kd.R_slice hrf3; have y1 : Blk w3 (w.heap.size + 1) zMay := kept_blk hrfE hk3 (by repeat (first | (with_reducible assumption) | ((with_reducible refine Blk.new ?_); (first | (focus rfl) | (focus (simp; done)) | (focus omega))) | ((with_reducible refine Blk.set1 ?_ ?_); (focus omega)) | (with_reducible refine Blk.alloc ?_) | (refine Blk.ext ?_ (by with_reducible assumption)))) (by decide); have y2 : Blk w3 (w.heap.size + 1 + 1) zRef := kept_blk hrfE hk3 (by repeat (first | (with_reducible assumption) | ((with_reducible refine Blk.new ?_); (first | (focus rfl) | (focus (simp; done)) | (focus omega))) | ((with_reducible refine Blk.set1 ?_ ?_); (focus omega)) | (with_reducible refine Blk.alloc ?_) | (refine Blk.ext ?_ (by with_reducible assumption)))) (by decide); have y3 : Blk w3 w1.heap.size (mayO S W L u2 p2) := kept_blk hrfE hk3 (Blk.put5 m3) (by decide); have y4 : Blk w3 (w1.heap.size + 1) (refO S W L s.1 v) := kept_blk hrfE hk3 (by repeat (first | (with_reducible assumption) | ((with_reducible refine Blk.new ?_); (first | (focus rfl) | (focus (simp; done)) | (focus omega))) | ((with_reducible refine Blk.set1 ?_ ?_); (focus omega)) | (with_reducible refine Blk.alloc ?_) | (refine Blk.ext ?_ (by with_reducible assumption)))) (by decide); have yst := kept_st hrfE hk3 (W := W) (n := 64 * k + 64) (st := sStep S W st x0 x1) (u := u2) (p := p2) (by repeat (first | (with_reducible assumption) | (with_reducible refine StB.set ?_) | (with_reducible refine StB.alloc ?_ _) | (refine StB.ext ?_ (by with_reducible assumption)))); obtain ⟨r0, r1, r2, r3, r4⟩ := y4.c5; obtain ⟨s0, s1, s2, s3, s4⟩ := y4.f5)
          | (go_at_call 18; refine Calls.mono (step_st g x0 x1 x2 (by omega) u p (64 * k) st _ (by repeat (first | (with_reducible assumption) | (with_reducible refine StB.set ?_) | (with_reducible refine StB.alloc ?_ _) | (refine StB.ext ?_ (by with_reducible assumption)))) (by omega)) ?_; rintro e w2 ⟨u2, p2, rfl, hst2, hb2⟩; have hz2 := hb2.size; simp at hz2; have q2 : wr.heap.size < w2.heap.size := (by omega); have q3 : w1.heap.size < w2.heap.size := (by omega); have q4 : w1.heap.size + 1 < w2.heap.size := (by omega); obtain ⟨i0, i1, i2⟩ := Blk.c3 (w := w2) (B := wr.heap.size) (by repeat (first | (with_reducible assumption) | ((with_reducible refine Blk.new ?_); (first | (focus rfl) | (focus (simp; done)) | (focus omega))) | ((with_reducible refine Blk.set1 ?_ ?_); (focus omega)) | (with_reducible refine Blk.alloc ?_) | (refine Blk.ext ?_ (by with_reducible assumption)))); obtain ⟨j0, j1, j2, j3, j4⟩ := Blk.c5 (w := w2) (B := w1.heap.size + 1) (by repeat (first | (with_reducible assumption) | ((with_reducible refine Blk.new ?_); (first | (focus rfl) | (focus (simp; done)) | (focus omega))) | ((with_reducible refine Blk.set1 ?_ ?_); (focus omega)) | (with_reducible refine Blk.alloc ?_) | (refine Blk.ext ?_ (by with_reducible assumption)))); have m3 : Blk w2 w1.heap.size (mayO S W L u p) := (by repeat (first | (with_reducible assumption) | ((with_reducible refine Blk.new ?_); (first | (focus rfl) | (focus (simp; done)) | (focus omega))) | ((with_reducible refine Blk.set1 ?_ ?_); (focus omega)) | (with_reducible refine Blk.alloc ?_) | (refine Blk.ext ?_ (by with_reducible assumption)))); obtain ⟨n0, n1, n2, n3, n4⟩ := m3.f5; obtain ⟨o0, o1, o2, o3, o4⟩ := m3.c5; have hrf2 := (hrf.alloc _).ext hb2))
        go_roundw
        case rel =>
          refine ⟨k + 1, u2, p2, .slice A3 (rRange S W s x0 x1).2.length cc3, by go_num, by omega, (by repeat (first | (with_reducible assumption) | ((with_reducible refine Blk.new ?_); (first | (focus rfl) | (focus (simp; done)) | (focus omega))) | ((with_reducible refine Blk.set1 ?_ ?_); (focus omega)) | (with_reducible refine Blk.alloc ?_) | (refine Blk.ext ?_ (by with_reducible assumption)))), (by repeat (first | (with_reducible assumption) | ((with_reducible refine Blk.new ?_); (first | (focus rfl) | (focus (simp; done)) | (focus omega))) | ((with_reducible refine Blk.set1 ?_ ?_); (focus omega)) | (with_reducible refine Blk.alloc ?_) | (refine Blk.ext ?_ (by with_reducible assumption)))), (by repeat (first | (with_reducible assumption) | ((with_reducible refine Blk.new ?_); (first | (focus rfl) | (focus (simp; done)) | (focus omega))) | ((with_reducible refine Blk.set1 ?_ ?_); (focus omega)) | (with_reducible refine Blk.alloc ?_) | (refine Blk.ext ?_ (by with_reducible assumption)))), ?_, ?_, ?_, (by repeat (first | ((with_reducible refine Ext.set1 ?_ ?_); (first | (focus (simp; done)) | (focus (simp; omega)) | (focus omega))) | (with_reducible refine Ext.alloc ?_ _) | (with_reducible exact Ext.refl _) | (refine Ext.trans ?_ (by with_reducible assumption))))⟩
          · rw [ER.out]
            unfold rStep
            rw [if_neg HX.out]
            exact Blk.put5 y4
          · rw [ES.out]
            have yst' := yst.mono (n' := 64 * (k + 1)) (by omega)
            clear yst
            exact (by repeat (first | (with_reducible assumption) | (with_reducible refine StB.set ?_) | (with_reducible refine StB.alloc ?_ _) | (refine StB.ext ?_ (by with_reducible assumption))))
          · rw [ER.out]
            unfold rStep
            rw [if_neg HX.out]
            exact RfB.set5 hrf3 y4 (by decide)
        case measure => simp [Go.RowKit.intOf]; omega
    · obtain rfl : k = n := by omega
      have etk : l.take k = l := by
        apply List.take_of_length_le
        have := HN.out
        omega
      rw [etk] at k4 hst hrf
      clear etk
      obtain ⟨A3, cc3, rfl⟩ := Kd.R_slice hrf
      obtain ⟨d0, d1, d2, d3, d4⟩ := k3.c5
      obtain ⟨e0, e1, e2, e3, e4⟩ := k4.c5
      obtain ⟨r0, r1, r2, r3, r4⟩ := k1.c5
      obtain ⟨s0, s1, s2, s3, s4⟩ := k1.f5
      obtain ⟨i0, i1, i2, i3, i4⟩ := k2.c5
      obtain ⟨j0, j1, j2, j3, j4⟩ := k2.f5
      go_wp2
      go_region
      go_wp2
      refine bodyPost_ret (v := .tuple #[.agg #[.int .i64 S, .int .i64 W, .int .i64 L, .bool u, .map p], .agg #[.int .i64 S, .int .i64 W, .int .i64 L, .bool (rSteps S W (false, []) l).1, .slice A3 (rSteps S W (false, []) l).2.length cc3]]) ?_ rfl ⟨u, p, .slice A3 (rSteps S W (false, []) l).2.length cc3, rfl, ?_, ?_, ?_⟩
      · simp [results, Try.results13, go_sem, r0, r1, r2, r3, r4, i0, i1, i2, i3, i4]
      · refine StB.ext (?_ : StB _ _ _ _ _ _) (Ext.drew (Ext.refl _))
        exact (by repeat (first | (with_reducible assumption) | (with_reducible refine StB.set ?_) | (with_reducible refine StB.alloc ?_ _) | (refine StB.ext ?_ (by with_reducible assumption))))
      · refine RfB.ext (?_ : RfB _ _ _ _) (Ext.drew (Ext.refl _))
        have kk : ∀ u1 u2 u3 u4 u5 : Value, Blk (((((wr.setCell ⟨w.heap.size + 1, 0, none⟩ u1).setCell ⟨w.heap.size + 1, 1, none⟩ u2).setCell ⟨w.heap.size + 1, 2, none⟩ u3).setCell ⟨w.heap.size + 1, 3, none⟩ u4).setCell ⟨w.heap.size + 1, 4, none⟩ u5) (w.heap.size + 1 + 1) zRef := fun _ _ _ _ _ => (by repeat (first | (with_reducible assumption) | ((with_reducible refine Blk.new ?_); (first | (focus rfl) | (focus (simp; done)) | (focus omega))) | ((with_reducible refine Blk.set1 ?_ ?_); (focus omega)) | (with_reducible refine Blk.alloc ?_) | (refine Blk.ext ?_ (by with_reducible assumption))))
        exact RfB.set5 (RfB.set5 hrf k1 (by decide)) (kk _ _ _ _ _) (by decide)
      · refine Ext.drew (?_ : Ext _ _)
        exact (by repeat (first | ((with_reducible refine Ext.set1 ?_ ?_); (first | (focus (simp; done)) | (focus (simp; omega)) | (focus omega))) | (with_reducible refine Ext.alloc ?_ _) | (with_reducible exact Ext.refl _) | (refine Ext.trans ?_ (by with_reducible assumption))))
end Go.Proofs.Ytjckghdgogkeaaa
