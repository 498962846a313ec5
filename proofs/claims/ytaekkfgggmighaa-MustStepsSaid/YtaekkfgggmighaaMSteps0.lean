/- The walk of ontimelaw30.MustSteps. -/
import Derived.Test.YtaekkfgggmighaaMuR2
import Derived.Test.YtaekkfgggmighaaOpenM
namespace Go.Proofs.Ytaekkfgggmighaa
open Go.RowKit Go.Maps Go.Proofs.YtaekkfgggmighaaW.PrintWords Go.Proofs.Ytaekkfgggmighaa.Pgreat Go.Proofs.Ytaekkfgggmighaa.PAccessRange
set_option linter.unusedVariables false

theorem BndO.set {w : World} {base : Nat} {v : Value} {l : List S64} {g k : Nat} {cs : Array Value} {t : TypeId} {u : Value} (h : BndO w base v l) (hb : Blk w g (.cells cs t)) (ht : t ≠ 64) : BndO (w.setCell ⟨g, k, none⟩ u) base v l := by
  refine Kd.R_far h (p := ⟨g, k, none⟩) (fun j hj => ?_) u
  rintro rfl
  obtain ⟨_, cells, he⟩ := h.own hj
  unfold Blk at hb
  rw [hb] at he
  cases he
  exact ht rfl
theorem BndO.set4 {w : World} {base B : Nat} {v x0 x1 x2 x3 a b c d : Value} {t : TypeId} {l : List S64} (h : BndO w base v l) (hb : Blk w B (.cells #[x0, x1, x2, x3] t)) (ht : t ≠ 64) : BndO ((((w.setCell ⟨B, 0, none⟩ a).setCell ⟨B, 1, none⟩ b).setCell ⟨B, 2, none⟩ c).setCell ⟨B, 3, none⟩ d) base v l :=
  (((h.set hb ht).set hb.put ht).set hb.put.put ht).set hb.put.put.put ht
theorem BndO.slice' {w : World} {base : Nat} {A : Option Addr} {k c : Nat} {l : List S64} (h : BndO w base (.slice A k c) l) (hk : l.length = k) : k ≤ c ∧ k64.C w A k l := by
  have := (Kd.R_reads' h).2
  rwa [hk] at this

set_option maxHeartbeats 1000000 in
theorem steps_inv {S W L : Int} (hv : vldB S W L = false) (A : Option Addr) (n c : Nat) (x : Int) (w : World) :
    Calls Try.prog 4 #[.agg #[.int .i64 S, .int .i64 W, .int .i64 L], .slice A n c, .int .i64 x] w fun e w' => e = .returned (.bool true) ∧ Ext w w' := by
  have HV := Lib.hid hv; clear hv
  go_enter Try.func4, Try.ntmps4
  go_wp2_with (first
    | (go_at_call 22; refine Calls.mono (valid_no HV.out _) ?_; rintro e w3 ⟨rfl, hb3⟩)
    | (go_at_call 21; refine Calls.mono (must_new_no HV.out _) ?_; rintro e w2 ⟨rfl, hb2⟩; obtain ⟨j0, j1, j2⟩ := Blk.c3 (w := w2) (B := w.heap.size) (by repeat (first | (with_reducible assumption) | ((with_reducible refine Blk.new ?_); (first | (focus rfl) | (focus (simp; done)) | (focus omega))) | ((with_reducible refine Blk.set1 ?_ ?_); (focus omega)) | (with_reducible refine Blk.alloc ?_) | (refine Blk.ext ?_ (by with_reducible assumption)))); have q2 : w.heap.size < w2.heap.size := (by have := hb2.size; have := hb1.size; simp at this; omega))
    | (go_at_call 11; refine Calls.mono (awake_yes _) ?_; rintro e w1 ⟨rfl, hb1⟩; obtain ⟨a0, a1, a2⟩ := Blk.c3 (w := w1) (B := w.heap.size) (by repeat (first | (with_reducible assumption) | ((with_reducible refine Blk.new ?_); (first | (focus rfl) | (focus (simp; done)) | (focus omega))) | ((with_reducible refine Blk.set1 ?_ ?_); (focus omega)) | (with_reducible refine Blk.alloc ?_) | (refine Blk.ext ?_ (by with_reducible assumption))))))
  go_ret
  exact ⟨rfl, (by repeat (first | ((with_reducible refine Ext.set1 ?_ ?_); (first | (focus (simp; done)) | (focus (simp; omega)) | (focus omega))) | (with_reducible refine Ext.alloc ?_ _) | (with_reducible exact Ext.refl _) | (refine Ext.trans ?_ (by with_reducible assumption))))⟩
set_option maxHeartbeats 1000000 in
theorem steps_big {S W L : Int} (g : Geo S W L) (A : Option Addr) (c : Nat) (l : List S37) (x : Int) (w : World) (hr : k37.C w A l.length l) (hc : l.length ≤ c) (hg : greatB l = true) :
    Calls Try.prog 4 #[.agg #[.int .i64 S, .int .i64 W, .int .i64 L], .slice A l.length c, .int .i64 x] w fun e w' => e = .returned (.bool true) ∧ Ext w w' := by
  have HG := Lib.hid hg; clear hg
  go_enter Try.func4, Try.ntmps4
  go_wp2_with (first
    | (go_at_call 13; refine Calls.mono (great_any A c l _ (C_ext hr (by exact (by repeat (first | ((with_reducible refine Ext.set1 ?_ ?_); (first | (focus (simp; done)) | (focus (simp; omega)) | (focus omega))) | (with_reducible refine Ext.alloc ?_ _) | (with_reducible exact Ext.refl _) | (refine Ext.trans ?_ (by with_reducible assumption)))))) hc) ?_; rw [HG.out]; rintro e w4 ⟨rfl, hb4⟩)
    | (go_at_call 22; refine Calls.mono (valid_yes g _) ?_; rintro e w3 ⟨rfl, hb3⟩)
    | (go_at_call 21; refine Calls.mono (must_new_yes g _) ?_; rintro e w2 ⟨rfl, hb2⟩; obtain ⟨j0, j1, j2⟩ := Blk.c3 (w := w2) (B := w.heap.size) (by repeat (first | (with_reducible assumption) | ((with_reducible refine Blk.new ?_); (first | (focus rfl) | (focus (simp; done)) | (focus omega))) | ((with_reducible refine Blk.set1 ?_ ?_); (focus omega)) | (with_reducible refine Blk.alloc ?_) | (refine Blk.ext ?_ (by with_reducible assumption)))); have q2 : w.heap.size < w2.heap.size := (by have := hb2.size; have := hb1.size; simp at this; omega))
    | (go_at_call 11; refine Calls.mono (awake_yes _) ?_; rintro e w1 ⟨rfl, hb1⟩; obtain ⟨a0, a1, a2⟩ := Blk.c3 (w := w1) (B := w.heap.size) (by repeat (first | (with_reducible assumption) | ((with_reducible refine Blk.new ?_); (first | (focus rfl) | (focus (simp; done)) | (focus omega))) | ((with_reducible refine Blk.set1 ?_ ?_); (focus omega)) | (with_reducible refine Blk.alloc ?_) | (refine Blk.ext ?_ (by with_reducible assumption))))))
  go_ret
  exact ⟨rfl, (by repeat (first | ((with_reducible refine Ext.set1 ?_ ?_); (first | (focus (simp; done)) | (focus (simp; omega)) | (focus omega))) | (with_reducible refine Ext.alloc ?_ _) | (with_reducible exact Ext.refl _) | (refine Ext.trans ?_ (by with_reducible assumption))))⟩

set_option maxRecDepth 10000 in
set_option maxHeartbeats 8000000 in
theorem steps_walk (S W L : Int) (A : Option Addr) (c : Nat) (l : List S37) (x : Int) (w : World) (hr : k37.C w A l.length l) (hc : l.length ≤ c) (hp2 : ∀ x ∈ l, 0 ≤ x.f2 ∧ x.f2 ≤ 255) (hwx : I64 x) :
    Calls Try.prog 4 #[.agg #[.int .i64 S, .int .i64 W, .int .i64 L], .slice A l.length c, .int .i64 x] w fun e w' => e = .returned (.bool true) ∧ Ext w w' := by
  clear hp2
  cases hv : vldB S W L with
  | false => exact steps_inv hv A _ c x w
  | true =>
    have g := (vld_iff _ _ _).1 hv
    clear hv
    cases hg : greatB l with
    | true => exact steps_big g A c l x w hr hc hg
    | false =>
      obtain ⟨hl100, ho⟩ := great_no hg
      have hgr := fun w h => great_any A c l w h hc
      rw [hg] at hgr
      have HO := Lib.hid ho
      clear hg ho
      have gw := g.w1
      obtain ⟨n, hn⟩ : ∃ n, l.length = n := ⟨_, rfl⟩
      rw [hn] at hr hc hl100 hgr ⊢
      have HN := Lib.hid hn
      clear hn
      go_enter Try.func4, Try.ntmps4
      go_wp2_with (first
        | (go_at_call 13; refine Calls.mono (hgr _ (C_ext hr (by exact (by repeat (first | ((with_reducible refine Ext.set1 ?_ ?_); (first | (focus (simp; done)) | (focus (simp; omega)) | (focus omega))) | (with_reducible refine Ext.alloc ?_ _) | (with_reducible exact Ext.refl _) | (refine Ext.trans ?_ (by with_reducible assumption))))))) ?_; rintro e w4 ⟨rfl, hb4⟩)
        | (go_at_call 22; refine Calls.mono (valid_yes g _) ?_; rintro e w3 ⟨rfl, hb3⟩)
        | (go_at_call 21; refine Calls.mono (must_new_yes g _) ?_; rintro e w2 ⟨rfl, hb2⟩; obtain ⟨j0, j1, j2⟩ := Blk.c3 (w := w2) (B := w.heap.size) (by repeat (first | (with_reducible assumption) | ((with_reducible refine Blk.new ?_); (first | (focus rfl) | (focus (simp; done)) | (focus omega))) | ((with_reducible refine Blk.set1 ?_ ?_); (focus omega)) | (with_reducible refine Blk.alloc ?_) | (refine Blk.ext ?_ (by with_reducible assumption)))); have q2 : w.heap.size < w2.heap.size := (by have := hb2.size; have := hb1.size; simp at this; omega))
        | (go_at_call 11; refine Calls.mono (awake_yes _) ?_; rintro e w1 ⟨rfl, hb1⟩; obtain ⟨a0, a1, a2⟩ := Blk.c3 (w := w1) (B := w.heap.size) (by repeat (first | (with_reducible assumption) | ((with_reducible refine Blk.new ?_); (first | (focus rfl) | (focus (simp; done)) | (focus omega))) | ((with_reducible refine Blk.set1 ?_ ?_); (focus omega)) | (with_reducible refine Blk.alloc ?_) | (refine Blk.ext ?_ (by with_reducible assumption))))))
      have k9 : Blk w4 w2.heap.size (mustO S W L none) := ((Blk.new (w := w2) rfl).ext hb3).ext hb4
      have kc : Blk w4 w.heap.size (.cells #[.int .i64 S, .int .i64 W, .int .i64 L] 23) := (by repeat (first | (with_reducible assumption) | ((with_reducible refine Blk.new ?_); (first | (focus rfl) | (focus (simp; done)) | (focus omega))) | ((with_reducible refine Blk.set1 ?_ ?_); (focus omega)) | (with_reducible refine Blk.alloc ?_) | (refine Blk.ext ?_ (by with_reducible assumption))))
      have hx4 : Ext w w4 := (by repeat (first | ((with_reducible refine Ext.set1 ?_ ?_); (first | (focus (simp; done)) | (focus (simp; omega)) | (focus omega))) | (with_reducible refine Ext.alloc ?_ _) | (with_reducible exact Ext.refl _) | (refine Ext.trans ?_ (by with_reducible assumption))))
      clear hb1 hb2 hb3 hb4 a0 a1 a2 j0 j1 j2 hgr
      go_loopw [9, 44] (fun v i wr => ∃ (j : Nat) (p : Option Nat) (A1 : Option Addr) (k1 c1 : Nat) (LL : List S64), i = .int .i64 j ∧ j ≤ n ∧ v = .slice A1 k1 c1 ∧ (Blk wr w2.heap.size (mustO S W L p) ∧ Blk wr w.heap.size (.cells #[.int .i64 S, .int .i64 W, .int .i64 L] 23) ∧
          MB wr W j (uDos S W (l.take j)) p ∧ BndO wr w.heap.size (.slice A1 k1 c1) LL ∧ Ext w wr) ∧ Hid (BRep LL (uDos S W (l.take j)) ∧ LL.length = k1 ∧ k1 ≤ j)) (fun _ i _ => n - (Go.RowKit.intOf i).toNat)
      case atStart => exact ⟨0, none, none, 0, 0, [], rfl, Nat.zero_le _, rfl, ⟨k9, kc, MB.nil _ _ _, BndO.nil _ _, hx4⟩, ⟨BRep.nil, rfl, Nat.le_refl _⟩⟩
      case round =>
        clear k9 kc hx4
        obtain ⟨j, p, A1, k1, c1, LL, rfl, hj, rfl, ⟨k9, kc, hst, hbo, hext⟩, HH⟩ := hrel
        have hl9 := k9.lt
        have hlc := kc.lt
        have hkj := HH.out.2.2
        have HLL := Lib.hid HH.out.2.1
        have hlen : LL.length < 100000 := by have := HLL.out; omega
        by_cases hlt : j < n
        · obtain ⟨ad, rfl, c0, c1', c2⟩ := at_op (C_ext hr hext) j hlt
          have hb0 := HO.out _ (getD_mem37 (l := l) (j := j) (by rw [HN.out]; exact hlt))
          have hnx : uDos S W (l.take (j + 1)) = uDo S W (uDos S W (l.take j)) (l.getD j z37).f0 (l.getD j z37).f1 := by
            rw [take_next (by rw [HN.out]; exact hlt), uDos_snoc]
          obtain ⟨⟨x0, x1, x2⟩, hx⟩ : ∃ x, x = l.getD j z37 := ⟨_, rfl⟩
          rw [← hx] at c0 c1' c2 hb0 hnx
          dsimp only at c0 c1' c2 hb0 hnx
          clear hx
          have HREP := Lib.hid HH.out.1
          obtain ⟨F0, hF0⟩ : ∃ F0, uDos S W (l.take j) = F0 := ⟨_, rfl⟩
          rw [hF0] at hnx hst HREP
          obtain ⟨F1, hF1⟩ : ∃ F1, uDo S W F0 x0 x1 = F1 := ⟨_, rfl⟩
          rw [hF1] at hnx
          have HNX := Lib.hid hnx
          clear hnx hF0
          obtain ⟨b0, b1⟩ := hb0
          obtain ⟨t0, t1, t2, t3⟩ := k9.c4
          by_cases h0 : x0 = -1
          · subst h0
            by_cases h1 : x1 = -1
            · subst h1
              have HB0 : Hid (BRep [] F1) := by
                show BRep [] F1
                rw [← hF1, show uDo S W F0 (-1) (-1) = noF from if_pos ⟨rfl, rfl⟩]
                exact BRep.nil
              have HF1 := Lib.hid hF1
              clear hF1
              go_wp2_with (first
                | (have gq := hb21; clear gq; go_at_call 23; refine Calls.mono (same_at p20 (j + 1) F1 none 0 0 [] _ (vst.ext hb21) (by omega) HB0.out (Kd.C_nil _ _) (Nat.le_refl _) (by omega)) ?_; rintro e w23 ⟨rfl, hb23⟩)
                | (go_at_call 23; refine Calls.mono (same_at p j F0 A1 c1 k1 LL _ vst0 (by omega) HREP.out ((vbo.slice' HLL.out).2) ((vbo.slice' HLL.out).1) (by omega)) ?_; rintro e w21 ⟨rfl, hb21⟩; have vbo21 := vbo.ext hb21; obtain ⟨t0, t1, t2, t3⟩ := (v9.ext hb21).c4; obtain ⟨r0, r1, r2⟩ := (vo.ext hb21).c3; obtain ⟨s0, s1, s2⟩ := (vc.ext hb21).c3)
                | (go_at_call 20; refine Calls.mono (do_mb g (-1) (-1) x2 (by omega) p j F0 _ (hst.ext (by repeat (first | ((with_reducible refine Ext.set1 ?_ ?_); (first | (focus (simp; done)) | (focus (simp; omega)) | (focus omega))) | (with_reducible refine Ext.alloc ?_ _) | (with_reducible exact Ext.refl _) | (refine Ext.trans ?_ (by with_reducible assumption))))) (by omega)) ?_; rw [HF1.out]; rintro e w20 ⟨p20, rfl, h20, hb20⟩; have m9 : Blk w20 w2.heap.size (mustO S W L p) := (by exact (by repeat (first | (with_reducible assumption) | ((with_reducible refine Blk.new ?_); (first | (focus rfl) | (focus (simp; done)) | (focus omega))) | (with_reducible apply Blk.put4) | (with_reducible apply Blk.put1) | ((with_reducible refine Blk.far4 ?_ ?_); (focus omega)) | ((with_reducible refine Blk.set1 ?_ ?_); (focus omega)) | (with_reducible refine Blk.alloc ?_) | (with_reducible refine Blk.drew ?_) | (refine Blk.ext ?_ (by with_reducible assumption))))); have mc : Blk w20 w.heap.size (.cells #[.int .i64 S, .int .i64 W, .int .i64 L] 23) := (by exact (by repeat (first | (with_reducible assumption) | ((with_reducible refine Blk.new ?_); (first | (focus rfl) | (focus (simp; done)) | (focus omega))) | (with_reducible apply Blk.put4) | (with_reducible apply Blk.put1) | ((with_reducible refine Blk.far4 ?_ ?_); (focus omega)) | ((with_reducible refine Blk.set1 ?_ ?_); (focus omega)) | (with_reducible refine Blk.alloc ?_) | (with_reducible refine Blk.drew ?_) | (refine Blk.ext ?_ (by with_reducible assumption))))); have mo : Blk w20 wr.heap.size (.cells #[.int .i64 (-1), .int .i64 (-1), .int .u8 x2] 37) := (by exact (by repeat (first | (with_reducible assumption) | ((with_reducible refine Blk.new ?_); (first | (focus rfl) | (focus (simp; done)) | (focus omega))) | (with_reducible apply Blk.put4) | (with_reducible apply Blk.put1) | ((with_reducible refine Blk.far4 ?_ ?_); (focus omega)) | ((with_reducible refine Blk.set1 ?_ ?_); (focus omega)) | (with_reducible refine Blk.alloc ?_) | (with_reducible refine Blk.drew ?_) | (refine Blk.ext ?_ (by with_reducible assumption))))); have mb : Blk w20 (wr.heap.size + 1) (mustO S W L p) := (by exact (by repeat (first | (with_reducible assumption) | ((with_reducible refine Blk.new ?_); (first | (focus rfl) | (focus (simp; done)) | (focus omega))) | (with_reducible apply Blk.put4) | (with_reducible apply Blk.put1) | ((with_reducible refine Blk.far4 ?_ ?_); (focus omega)) | ((with_reducible refine Blk.set1 ?_ ?_); (focus omega)) | (with_reducible refine Blk.alloc ?_) | (with_reducible refine Blk.drew ?_) | (refine Blk.ext ?_ (by with_reducible assumption))))); have hX20 : Ext wr w20 := (by exact (by repeat (first | ((with_reducible refine Ext.set1 ?_ ?_); (first | (focus (simp; done)) | (focus (simp; omega)) | (focus omega))) | (with_reducible refine Ext.alloc ?_ _) | (with_reducible exact Ext.refl _) | (refine Ext.trans ?_ (by with_reducible assumption))))); obtain ⟨t0, t1, t2, t3⟩ := m9.c4; obtain ⟨r0, r1, r2, r3⟩ := m9.f4; have v9 := Blk.put4 (a' := .int .i64 S) (b' := .int .i64 W) (c' := .int .i64 L) (d' := .map p20) m9; have vc := Blk.far4 (a := .int .i64 S) (b := .int .i64 W) (c := .int .i64 L) (d := .map p20) (show w.heap.size ≠ w2.heap.size by omega) mc; have vo := Blk.far4 (a := .int .i64 S) (b := .int .i64 W) (c := .int .i64 L) (d := .map p20) (show wr.heap.size ≠ w2.heap.size by omega) mo; have vb := Blk.far4 (a := .int .i64 S) (b := .int .i64 W) (c := .int .i64 L) (d := .map p20) (show wr.heap.size + 1 ≠ w2.heap.size by omega) mb; have vst := MB.set4 (g := w2.heap.size) (a := .int .i64 S) (b := .int .i64 W) (c := .int .i64 L) (d := .map p20) h20; have vst0 := MB.set4 (g := w2.heap.size) (a := .int .i64 S) (b := .int .i64 W) (c := .int .i64 L) (d := .map p20) (hst.ext hX20); have vbo := (hbo.ext hX20).set4 (a := .int .i64 S) (b := .int .i64 W) (c := .int .i64 L) (d := .map p20) m9 (by decide); have vext := Ext.set4 (a := .int .i64 S) (b := .int .i64 W) (c := .int .i64 L) (d := .map p20) (show w.heap.size ≤ w2.heap.size by omega) (hext.trans hX20); obtain ⟨n0, n1, n2, n3⟩ := vb.c4))
              have hE := hb21.trans hb23
              refine ⟨⟨j + 1, p20, none, 0, 0, [], by go_num, by omega, by go_num, ⟨v9.ext hE, vc.ext hE, (by rw [HNX.out]; exact vst.ext hE), BndO.nil _ _, vext.trans hE⟩, by show _ ∧ _; rw [HNX.out]; exact ⟨HB0.out, rfl, Nat.zero_le _⟩⟩, ?_⟩
              simp [Go.RowKit.intOf]
              omega
            · have hnb : (x1 == -1) = false := by simpa using h1
              have HF2 : Hid (uRange S W F0 (-1) x1 = F1) := (uDo_range (fun h => h1 h.2)).symm.trans hF1
              have HF1 := Lib.hid hF1
              clear hF1 h1
              go_wp2_with (first
                | (have gq := hb22; clear gq; go_at_call 23; refine Calls.mono (same_at p20 (j + 1) F1 A2 c2' L2.length L2 _ yst22 (by omega) HR2.out.1 hC2 hc2' (by have := HR2.out.2; omega)) ?_; rintro e w23 ⟨rfl, hb23⟩)
                | (go_at_call 24; refine Calls.mono (ref_range g (-1) x1 (by omega) _ LL F0 HREP.out hst.2 hlen w _ (vext.trans hb21) vbo21) ?_; rintro e w22 ⟨v2, L2, ⟨rfl, hbo22, hb22, hk22⟩, hr2, hl2⟩; obtain ⟨A2, c2', rfl, hc2', hC2⟩ := hbo22.slice; rw [HLL.out] at hl2; rw [HF2.out] at hr2; have HR2 := Lib.hid (And.intro hr2 hl2); have v79 := hk22.blk vbo21 (v9.ext hb21) (by decide); have vc22 := hk22.blk vbo21 (vc.ext hb21) (by decide); have yst22 := hk22.mb vbo21 (vst.ext hb21); clear hr2; obtain ⟨t0, t1, t2, t3⟩ := v79.c4)
                | (go_at_call 23; refine Calls.mono (same_at p j F0 A1 c1 k1 LL _ vst0 (by omega) HREP.out ((vbo.slice' HLL.out).2) ((vbo.slice' HLL.out).1) (by omega)) ?_; rintro e w21 ⟨rfl, hb21⟩; have vbo21 := vbo.ext hb21; obtain ⟨t0, t1, t2, t3⟩ := (v9.ext hb21).c4; obtain ⟨r0, r1, r2⟩ := (vo.ext hb21).c3; obtain ⟨s0, s1, s2⟩ := (vc.ext hb21).c3)
                | (go_at_call 20; refine Calls.mono (do_mb g (-1) x1 x2 (by omega) p j F0 _ (hst.ext (by repeat (first | ((with_reducible refine Ext.set1 ?_ ?_); (first | (focus (simp; done)) | (focus (simp; omega)) | (focus omega))) | (with_reducible refine Ext.alloc ?_ _) | (with_reducible exact Ext.refl _) | (refine Ext.trans ?_ (by with_reducible assumption))))) (by omega)) ?_; rw [HF1.out]; rintro e w20 ⟨p20, rfl, h20, hb20⟩; have m9 : Blk w20 w2.heap.size (mustO S W L p) := (by exact (by repeat (first | (with_reducible assumption) | ((with_reducible refine Blk.new ?_); (first | (focus rfl) | (focus (simp; done)) | (focus omega))) | (with_reducible apply Blk.put4) | (with_reducible apply Blk.put1) | ((with_reducible refine Blk.far4 ?_ ?_); (focus omega)) | ((with_reducible refine Blk.set1 ?_ ?_); (focus omega)) | (with_reducible refine Blk.alloc ?_) | (with_reducible refine Blk.drew ?_) | (refine Blk.ext ?_ (by with_reducible assumption))))); have mc : Blk w20 w.heap.size (.cells #[.int .i64 S, .int .i64 W, .int .i64 L] 23) := (by exact (by repeat (first | (with_reducible assumption) | ((with_reducible refine Blk.new ?_); (first | (focus rfl) | (focus (simp; done)) | (focus omega))) | (with_reducible apply Blk.put4) | (with_reducible apply Blk.put1) | ((with_reducible refine Blk.far4 ?_ ?_); (focus omega)) | ((with_reducible refine Blk.set1 ?_ ?_); (focus omega)) | (with_reducible refine Blk.alloc ?_) | (with_reducible refine Blk.drew ?_) | (refine Blk.ext ?_ (by with_reducible assumption))))); have mo : Blk w20 wr.heap.size (.cells #[.int .i64 (-1), .int .i64 x1, .int .u8 x2] 37) := (by exact (by repeat (first | (with_reducible assumption) | ((with_reducible refine Blk.new ?_); (first | (focus rfl) | (focus (simp; done)) | (focus omega))) | (with_reducible apply Blk.put4) | (with_reducible apply Blk.put1) | ((with_reducible refine Blk.far4 ?_ ?_); (focus omega)) | ((with_reducible refine Blk.set1 ?_ ?_); (focus omega)) | (with_reducible refine Blk.alloc ?_) | (with_reducible refine Blk.drew ?_) | (refine Blk.ext ?_ (by with_reducible assumption))))); have mb : Blk w20 (wr.heap.size + 1) (mustO S W L p) := (by exact (by repeat (first | (with_reducible assumption) | ((with_reducible refine Blk.new ?_); (first | (focus rfl) | (focus (simp; done)) | (focus omega))) | (with_reducible apply Blk.put4) | (with_reducible apply Blk.put1) | ((with_reducible refine Blk.far4 ?_ ?_); (focus omega)) | ((with_reducible refine Blk.set1 ?_ ?_); (focus omega)) | (with_reducible refine Blk.alloc ?_) | (with_reducible refine Blk.drew ?_) | (refine Blk.ext ?_ (by with_reducible assumption))))); have hX20 : Ext wr w20 := (by exact (by repeat (first | ((with_reducible refine Ext.set1 ?_ ?_); (first | (focus (simp; done)) | (focus (simp; omega)) | (focus omega))) | (with_reducible refine Ext.alloc ?_ _) | (with_reducible exact Ext.refl _) | (refine Ext.trans ?_ (by with_reducible assumption))))); obtain ⟨t0, t1, t2, t3⟩ := m9.c4; obtain ⟨r0, r1, r2, r3⟩ := m9.f4; have v9 := Blk.put4 (a' := .int .i64 S) (b' := .int .i64 W) (c' := .int .i64 L) (d' := .map p20) m9; have vc := Blk.far4 (a := .int .i64 S) (b := .int .i64 W) (c := .int .i64 L) (d := .map p20) (show w.heap.size ≠ w2.heap.size by omega) mc; have vo := Blk.far4 (a := .int .i64 S) (b := .int .i64 W) (c := .int .i64 L) (d := .map p20) (show wr.heap.size ≠ w2.heap.size by omega) mo; have vb := Blk.far4 (a := .int .i64 S) (b := .int .i64 W) (c := .int .i64 L) (d := .map p20) (show wr.heap.size + 1 ≠ w2.heap.size by omega) mb; have vst := MB.set4 (g := w2.heap.size) (a := .int .i64 S) (b := .int .i64 W) (c := .int .i64 L) (d := .map p20) h20; have vst0 := MB.set4 (g := w2.heap.size) (a := .int .i64 S) (b := .int .i64 W) (c := .int .i64 L) (d := .map p20) (hst.ext hX20); have vbo := (hbo.ext hX20).set4 (a := .int .i64 S) (b := .int .i64 W) (c := .int .i64 L) (d := .map p20) m9 (by decide); have vext := Ext.set4 (a := .int .i64 S) (b := .int .i64 W) (c := .int .i64 L) (d := .map p20) (show w.heap.size ≤ w2.heap.size by omega) (hext.trans hX20); obtain ⟨n0, n1, n2, n3⟩ := vb.c4))
              refine ⟨⟨j + 1, p20, A2, L2.length, c2', L2, by go_num, by omega, by go_num, ⟨v79.ext hb23, vc22.ext hb23, (by rw [HNX.out]; exact yst22.ext hb23), hbo22.ext hb23, hb22.trans hb23⟩, by show _ ∧ _; rw [HNX.out]; exact ⟨HR2.out.1, rfl, by have := HR2.out.2; omega⟩⟩, ?_⟩
              simp [Go.RowKit.intOf]
              omega
          · have hnb : (x0 == -1) = false := by simpa using h0
            have HF2 : Hid (uRange S W F0 x0 x1 = F1) := (uDo_range (fun h => h0 h.1)).symm.trans hF1
            have HF1 := Lib.hid hF1
            clear hF1 h0
            go_wp2_with (first
              | (have gq := hb22; clear gq; go_at_call 23; refine Calls.mono (same_at p20 (j + 1) F1 A2 c2' L2.length L2 _ yst22 (by omega) HR2.out.1 hC2 hc2' (by have := HR2.out.2; omega)) ?_; rintro e w23 ⟨rfl, hb23⟩)
              | (go_at_call 24; refine Calls.mono (ref_range g x0 x1 (by omega) _ LL F0 HREP.out hst.2 hlen w _ (vext.trans hb21) vbo21) ?_; rintro e w22 ⟨v2, L2, ⟨rfl, hbo22, hb22, hk22⟩, hr2, hl2⟩; obtain ⟨A2, c2', rfl, hc2', hC2⟩ := hbo22.slice; rw [HLL.out] at hl2; rw [HF2.out] at hr2; have HR2 := Lib.hid (And.intro hr2 hl2); have v79 := hk22.blk vbo21 (v9.ext hb21) (by decide); have vc22 := hk22.blk vbo21 (vc.ext hb21) (by decide); have yst22 := hk22.mb vbo21 (vst.ext hb21); clear hr2; obtain ⟨t0, t1, t2, t3⟩ := v79.c4)
              | (go_at_call 23; refine Calls.mono (same_at p j F0 A1 c1 k1 LL _ vst0 (by omega) HREP.out ((vbo.slice' HLL.out).2) ((vbo.slice' HLL.out).1) (by omega)) ?_; rintro e w21 ⟨rfl, hb21⟩; have vbo21 := vbo.ext hb21; obtain ⟨t0, t1, t2, t3⟩ := (v9.ext hb21).c4; obtain ⟨r0, r1, r2⟩ := (vo.ext hb21).c3; obtain ⟨s0, s1, s2⟩ := (vc.ext hb21).c3)
              | (go_at_call 20; refine Calls.mono (do_mb g x0 x1 x2 (by omega) p j F0 _ (hst.ext (by repeat (first | ((with_reducible refine Ext.set1 ?_ ?_); (first | (focus (simp; done)) | (focus (simp; omega)) | (focus omega))) | (with_reducible refine Ext.alloc ?_ _) | (with_reducible exact Ext.refl _) | (refine Ext.trans ?_ (by with_reducible assumption))))) (by omega)) ?_; rw [HF1.out]; rintro e w20 ⟨p20, rfl, h20, hb20⟩; have m9 : Blk w20 w2.heap.size (mustO S W L p) := (by exact (by repeat (first | (with_reducible assumption) | ((with_reducible refine Blk.new ?_); (first | (focus rfl) | (focus (simp; done)) | (focus omega))) | (with_reducible apply Blk.put4) | (with_reducible apply Blk.put1) | ((with_reducible refine Blk.far4 ?_ ?_); (focus omega)) | ((with_reducible refine Blk.set1 ?_ ?_); (focus omega)) | (with_reducible refine Blk.alloc ?_) | (with_reducible refine Blk.drew ?_) | (refine Blk.ext ?_ (by with_reducible assumption))))); have mc : Blk w20 w.heap.size (.cells #[.int .i64 S, .int .i64 W, .int .i64 L] 23) := (by exact (by repeat (first | (with_reducible assumption) | ((with_reducible refine Blk.new ?_); (first | (focus rfl) | (focus (simp; done)) | (focus omega))) | (with_reducible apply Blk.put4) | (with_reducible apply Blk.put1) | ((with_reducible refine Blk.far4 ?_ ?_); (focus omega)) | ((with_reducible refine Blk.set1 ?_ ?_); (focus omega)) | (with_reducible refine Blk.alloc ?_) | (with_reducible refine Blk.drew ?_) | (refine Blk.ext ?_ (by with_reducible assumption))))); have mo : Blk w20 wr.heap.size (.cells #[.int .i64 x0, .int .i64 x1, .int .u8 x2] 37) := (by exact (by repeat (first | (with_reducible assumption) | ((with_reducible refine Blk.new ?_); (first | (focus rfl) | (focus (simp; done)) | (focus omega))) | (with_reducible apply Blk.put4) | (with_reducible apply Blk.put1) | ((with_reducible refine Blk.far4 ?_ ?_); (focus omega)) | ((with_reducible refine Blk.set1 ?_ ?_); (focus omega)) | (with_reducible refine Blk.alloc ?_) | (with_reducible refine Blk.drew ?_) | (refine Blk.ext ?_ (by with_reducible assumption))))); have mb : Blk w20 (wr.heap.size + 1) (mustO S W L p) := (by exact (by repeat (first | (with_reducible assumption) | ((with_reducible refine Blk.new ?_); (first | (focus rfl) | (focus (simp; done)) | (focus omega))) | (with_reducible apply Blk.put4) | (with_reducible apply Blk.put1) | ((with_reducible refine Blk.far4 ?_ ?_); (focus omega)) | ((with_reducible refine Blk.set1 ?_ ?_); (focus omega)) | (with_reducible refine Blk.alloc ?_) | (with_reducible refine Blk.drew ?_) | (refine Blk.ext ?_ (by with_reducible assumption))))); have hX20 : Ext wr w20 := (by exact (by repeat (first | ((with_reducible refine Ext.set1 ?_ ?_); (first | (focus (simp; done)) | (focus (simp; omega)) | (focus omega))) | (with_reducible refine Ext.alloc ?_ _) | (with_reducible exact Ext.refl _) | (refine Ext.trans ?_ (by with_reducible assumption))))); obtain ⟨t0, t1, t2, t3⟩ := m9.c4; obtain ⟨r0, r1, r2, r3⟩ := m9.f4; have v9 := Blk.put4 (a' := .int .i64 S) (b' := .int .i64 W) (c' := .int .i64 L) (d' := .map p20) m9; have vc := Blk.far4 (a := .int .i64 S) (b := .int .i64 W) (c := .int .i64 L) (d := .map p20) (show w.heap.size ≠ w2.heap.size by omega) mc; have vo := Blk.far4 (a := .int .i64 S) (b := .int .i64 W) (c := .int .i64 L) (d := .map p20) (show wr.heap.size ≠ w2.heap.size by omega) mo; have vb := Blk.far4 (a := .int .i64 S) (b := .int .i64 W) (c := .int .i64 L) (d := .map p20) (show wr.heap.size + 1 ≠ w2.heap.size by omega) mb; have vst := MB.set4 (g := w2.heap.size) (a := .int .i64 S) (b := .int .i64 W) (c := .int .i64 L) (d := .map p20) h20; have vst0 := MB.set4 (g := w2.heap.size) (a := .int .i64 S) (b := .int .i64 W) (c := .int .i64 L) (d := .map p20) (hst.ext hX20); have vbo := (hbo.ext hX20).set4 (a := .int .i64 S) (b := .int .i64 W) (c := .int .i64 L) (d := .map p20) m9 (by decide); have vext := Ext.set4 (a := .int .i64 S) (b := .int .i64 W) (c := .int .i64 L) (d := .map p20) (show w.heap.size ≤ w2.heap.size by omega) (hext.trans hX20); obtain ⟨n0, n1, n2, n3⟩ := vb.c4))
            refine ⟨⟨j + 1, p20, A2, L2.length, c2', L2, by go_num, by omega, by go_num, ⟨v79.ext hb23, vc22.ext hb23, (by rw [HNX.out]; exact yst22.ext hb23), hbo22.ext hb23, hb22.trans hb23⟩, by show _ ∧ _; rw [HNX.out]; exact ⟨HR2.out.1, rfl, by have := HR2.out.2; omega⟩⟩, ?_⟩
            simp [Go.RowKit.intOf]
            omega
        · obtain rfl : j = n := by omega
          have etk : l.take j = l := List.take_of_length_le (by have := HN.out; omega)
          have HREP := Lib.hid HH.out.1
          rw [etk] at hst HREP
          clear etk HH
          obtain ⟨f, hf⟩ : ∃ f, uDos S W l = f := ⟨_, rfl⟩
          rw [hf] at hst HREP
          clear hf
          obtain ⟨hc1, hC1⟩ := hbo.slice' HLL.out
          obtain ⟨t0, t1, t2, t3⟩ := k9.c4
          cases hfx : f x with
          | none =>
            have HFX := Lib.hid hfx
            clear hfx
            go_wp2_with (first
              | (go_at_call 26; refine Calls.mono (find_at A1 c1 k1 LL f HREP.out x (-1) (by rw [HFX.out]; rfl) _ (C_ext hC1 hb5) hc1 (by omega)) ?_; rintro e w6 ⟨rfl, hb6⟩)
              | (go_at_call 25; refine Calls.mono (age_mb x p j f _ hst hwx 0 false (by rw [HFX.out]; rfl) (by rw [HFX.out]; rfl)) ?_; rintro e w5 ⟨rfl, hb5⟩))
            go_ret
            exact ⟨rfl, hext.trans (hb5.trans hb6)⟩
          | some d =>
            have hd := hst.2 x d hfx
            have hmd : max d 0 = d := by omega
            have hd2 : decide (0 ≤ d) = true := by simp; omega
            have HFX := Lib.hid hfx
            clear hfx
            go_wp2_with (first
              | (go_at_call 26; refine Calls.mono (find_at A1 c1 k1 LL f HREP.out x d (by rw [HFX.out]; rfl) _ (C_ext hC1 hb5) hc1 (by omega)) ?_; rintro e w6 ⟨rfl, hb6⟩)
              | (go_at_call 25; refine Calls.mono (age_mb x p j f _ hst hwx d true (by rw [HFX.out]; rfl) (by rw [HFX.out]; rfl)) ?_; rintro e w5 ⟨rfl, hb5⟩))
            go_ret
            exact ⟨by simp, hext.trans (hb5.trans hb6)⟩
end Go.Proofs.Ytaekkfgggmighaa
