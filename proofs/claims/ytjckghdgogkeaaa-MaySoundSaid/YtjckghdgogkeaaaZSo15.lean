/- The walk of ontimelaw31.MaySound. -/
import Derived.Test.YtjckghdgogkeaaaZSo13
import Derived.Deep.RegionHeld3
import Derived.Deep.DeepCutAuto
import Derived.Deep.CutRange
import Derived.Deep.DrawnRows
namespace Go.Proofs.Ytjckghdgogkeaaa
open Go.RowKit Go.Maps Go.Proofs.YtjckghdgogkeaaaW.PrintWords Go.Proofs.Ytjckghdgogkeaaa.PMayDescribes
set_option linter.unusedVariables false
attribute [local go_sem ↓] Go.wp_at_zero Go.wp_at_succ

abbrev stepO (a b c : Int) : Obj := .cells #[.int .i64 a, .int .i64 b, .int .u8 c] 45

theorem Blk.far5s {w : World} {B g : Nat} {o : Obj} {a b c d e : Value} (hne : B ≠ g) (h : Blk w B o) : Blk (((((w.setCell ⟨g, 0, none⟩ a).setCell ⟨g, 1, none⟩ b).setCell ⟨g, 2, none⟩ c).setCell ⟨g, 3, none⟩ d).setCell ⟨g, 4, none⟩ e) B o :=
  Blk.set1 hne (Blk.set1 hne (Blk.set1 hne (Blk.set1 hne (Blk.set1 hne h))))
theorem Ext.set5 {w0 w : World} {g : Nat} {a b c d e : Value} (hg : w0.heap.size ≤ g) (h : Ext w0 w) : Ext w0 (((((w.setCell ⟨g, 0, none⟩ a).setCell ⟨g, 1, none⟩ b).setCell ⟨g, 2, none⟩ c).setCell ⟨g, 3, none⟩ d).setCell ⟨g, 4, none⟩ e) :=
  Ext.set1 hg (Ext.set1 hg (Ext.set1 hg (Ext.set1 hg (Ext.set1 hg h))))
set_option maxHeartbeats 1000000 in
theorem sound_small (S W L : Int) (A : Option Addr) (c : Nat) (l : List S45) (B : Option Addr) (d : Nat) (m : List S45) (w : World) (hr : k45.C w A l.length l) (hc : l.length ≤ c) (hr2 : k45.C w B m.length m) (hc2 : m.length ≤ d)
    (hno : ¬ (smallB S W L l = true ∧ smallB S W L m = true)) :
    Calls Try.prog 5 #[.agg #[.int .i64 S, .int .i64 W, .int .i64 L], .slice A l.length c, .slice B m.length d] w fun e w' => e = .returned (.bool true) ∧ Ext w w' := by
  cases h1 : smallB S W L l with
  | false =>
    have H1 := Lib.hid h1; clear h1 hno
    go_enter Try.func5, Try.ntmps5
    go_wp2_with (first
      | (go_at_call 12; refine Calls.mono (small_any S W L A c l _ (C_ext hr (by exact (by repeat (first | ((with_reducible refine Ext.set1 ?_ ?_); (first | (focus (simp; done)) | (focus (simp; omega)) | (focus omega))) | (with_reducible refine Ext.alloc ?_ _) | (with_reducible exact Ext.refl _) | (refine Ext.trans ?_ (by with_reducible assumption)))))) hc) ?_; rintro e w2 ⟨rfl, hb2⟩; rw [H1.out])
      | (have gq := hb2; clear gq; go_at_call 11; refine Calls.mono (awake_yes _) ?_; rintro e w9 ⟨rfl, hb9⟩)
      | (go_at_call 11; refine Calls.mono (awake_yes _) ?_; rintro e w1 ⟨rfl, hb1⟩; obtain ⟨a0, a1, a2⟩ := Blk.c3 (w := w1) (B := w.heap.size) (by repeat (first | (with_reducible assumption) | ((with_reducible refine Blk.new ?_); (first | (focus rfl) | (focus (simp; done)) | (focus omega))) | ((with_reducible refine Blk.set1 ?_ ?_); (focus omega)) | (with_reducible refine Blk.alloc ?_) | (refine Blk.ext ?_ (by with_reducible assumption))))))
    go_ret
    exact ⟨rfl, (by repeat (first | ((with_reducible refine Ext.set1 ?_ ?_); (first | (focus (simp; done)) | (focus (simp; omega)) | (focus omega))) | (with_reducible refine Ext.alloc ?_ _) | (with_reducible exact Ext.refl _) | (refine Ext.trans ?_ (by with_reducible assumption))))⟩
  | true =>
    have h2 : smallB S W L m = false := by
      cases h : smallB S W L m with
      | false => rfl
      | true => exact absurd ⟨h1, h⟩ hno
    have H1 := Lib.hid h1; have H2 := Lib.hid h2; clear h1 h2 hno
    go_enter Try.func5, Try.ntmps5
    go_wp2_with (first
      | (have gq := hb2; clear gq; go_at_call 12; refine Calls.mono (small_any S W L B d m _ (C_ext hr2 (by exact (by repeat (first | ((with_reducible refine Ext.set1 ?_ ?_); (first | (focus (simp; done)) | (focus (simp; omega)) | (focus omega))) | (with_reducible refine Ext.alloc ?_ _) | (with_reducible exact Ext.refl _) | (refine Ext.trans ?_ (by with_reducible assumption)))))) hc2) ?_; rintro e w3 ⟨rfl, hb3⟩; rw [H2.out])
      | (go_at_call 12; refine Calls.mono (small_any S W L A c l _ (C_ext hr (by exact (by repeat (first | ((with_reducible refine Ext.set1 ?_ ?_); (first | (focus (simp; done)) | (focus (simp; omega)) | (focus omega))) | (with_reducible refine Ext.alloc ?_ _) | (with_reducible exact Ext.refl _) | (refine Ext.trans ?_ (by with_reducible assumption)))))) hc) ?_; rintro e w2 ⟨rfl, hb2⟩; rw [H1.out]; obtain ⟨d0, d1, d2⟩ := Blk.c3 (w := w2) (B := w.heap.size) (by repeat (first | (with_reducible assumption) | ((with_reducible refine Blk.new ?_); (first | (focus rfl) | (focus (simp; done)) | (focus omega))) | ((with_reducible refine Blk.set1 ?_ ?_); (focus omega)) | (with_reducible refine Blk.alloc ?_) | (refine Blk.ext ?_ (by with_reducible assumption)))))
      | (have gq := hb2; clear gq; go_at_call 11; refine Calls.mono (awake_yes _) ?_; rintro e w9 ⟨rfl, hb9⟩)
      | (go_at_call 11; refine Calls.mono (awake_yes _) ?_; rintro e w1 ⟨rfl, hb1⟩; obtain ⟨a0, a1, a2⟩ := Blk.c3 (w := w1) (B := w.heap.size) (by repeat (first | (with_reducible assumption) | ((with_reducible refine Blk.new ?_); (first | (focus rfl) | (focus (simp; done)) | (focus omega))) | ((with_reducible refine Blk.set1 ?_ ?_); (focus omega)) | (with_reducible refine Blk.alloc ?_) | (refine Blk.ext ?_ (by with_reducible assumption))))))
    go_ret
    exact ⟨rfl, (by repeat (first | ((with_reducible refine Ext.set1 ?_ ?_); (first | (focus (simp; done)) | (focus (simp; omega)) | (focus omega))) | (with_reducible refine Ext.alloc ?_ _) | (with_reducible exact Ext.refl _) | (refine Ext.trans ?_ (by with_reducible assumption))))⟩

set_option maxHeartbeats 2000000 in
theorem sound_walk (S W L : Int) (A : Option Addr) (c : Nat) (l : List S45) (B : Option Addr) (d : Nat) (m : List S45) (w : World) (hr : k45.C w A l.length l) (hc : l.length ≤ c) (hp : ∀ x ∈ l, 0 ≤ x.f2 ∧ x.f2 ≤ 255) (hr2 : k45.C w B m.length m) (hc2 : m.length ≤ d) (hp2 : ∀ x ∈ m, 0 ≤ x.f2 ∧ x.f2 ≤ 255) :
    Calls Try.prog 5 #[.agg #[.int .i64 S, .int .i64 W, .int .i64 L], .slice A l.length c, .slice B m.length d] w fun e w' => e = .returned (.bool true) ∧ Ext w w' := by
  by_cases hall : smallB S W L l = true ∧ smallB S W L m = true
  case neg => exact sound_small S W L A c l B d m w hr hc hr2 hc2 hall
  case pos =>
    obtain ⟨h1, h2⟩ := hall
    have sl := small_is h1
    have sm := small_is h2
    have H1 := Lib.hid h1; have H2 := Lib.hid h2; clear h1 h2
    have g := sl.geo
    have gw := g.w1
    have gs := g.s1
    have hml : m.length ≤ 40 := sm.len
    have hll : l.length ≤ 40 := sl.len
    obtain ⟨al, hal⟩ : ∃ al, l ++ m = al := ⟨_, rfl⟩
    obtain ⟨n, hn⟩ : ∃ n, al.length = n := ⟨_, rfl⟩
    have hn80 : n ≤ 80 := by rw [← hn, ← hal, List.length_append]; omega
    have HB : Hid (∀ x ∈ al, (-4000 ≤ x.f0 ∧ x.f0 ≤ 4000 ∧ -4000 ≤ x.f1 ∧ x.f1 ≤ 4000) ∧ 0 ≤ x.f2 ∧ x.f2 ≤ 255) := by
      intro x hx
      rw [← hal] at hx
      rcases List.mem_append.1 hx with h | h
      · exact ⟨sl.step x h, hp x h⟩
      · exact ⟨sm.step x h, hp2 x h⟩
    clear hp hp2
    have HAL := Lib.hid hal
    have HN := Lib.hid hn
    clear hal hn
    go_enter Try.func5, Try.ntmps5
    go_wp2_with (first
      | (have gq := hb6; clear gq; at_builtin; refine wp_append_steps rfl _ _ rfl (.slice A6 l.length c6) l m al HAL.out n HN.out B m.length d rfl rfl h6 (C_ext hr2 (hx5.trans hb6)) hb6 (by omega) (by omega) ?_; intro A7 c7 w7 h7 hc7 hb7)
      | (at_builtin; go_loud (have hx5 : Ext w (w5.alloc (mayO S W L false none)) := (by repeat (first | ((with_reducible refine Ext.set1 ?_ ?_); (first | (focus (simp; done)) | (focus (simp; omega)) | (focus omega))) | (with_reducible refine Ext.alloc ?_ _) | (with_reducible exact Ext.refl _) | (refine Ext.trans ?_ (by with_reducible assumption)))); refine wp_append_steps (w0 := w5.alloc (mayO S W L false none)) rfl _ _ rfl (.slice (some ⟨w5.heap.size + 1, 0, none⟩) 0 0) [] l l rfl l.length rfl A l.length c rfl rfl (steps_lit (w := w5.alloc (mayO S W L false none)) (by simp) (Nat.le_refl _)) (C_ext hr (hx5.alloc _)) ((Ext.refl _).alloc _) (Nat.zero_le _) (by omega) ?_; intro A6 c6 w6 h6 hc6 hb6))
      | (go_at_call 21; refine Calls.mono (may_new_yes g _) ?_; rintro e w5 ⟨rfl, hb5⟩)
      | (go_at_call 20; refine Calls.mono (cache_new g _) ?_; rintro e w4 ⟨q, F0, rfl, hca, hb4⟩; obtain ⟨j0, j1, j2⟩ := Blk.c3 (w := w4) (B := w.heap.size) (by repeat (first | (with_reducible assumption) | ((with_reducible refine Blk.new ?_); (first | (focus rfl) | (focus (simp; done)) | (focus omega))) | ((with_reducible refine Blk.set1 ?_ ?_); (focus omega)) | (with_reducible refine Blk.alloc ?_) | (refine Blk.ext ?_ (by with_reducible assumption)))); have q4 : w.heap.size < w4.heap.size := (by have := hb4.size; have := hb3.size; have := hb2.size; have := hb1.size; simp at this; omega))
      | (have gq := hb2; clear gq; go_at_call 12; refine Calls.mono (small_any S W L B d m _ (C_ext hr2 (by exact (by repeat (first | ((with_reducible refine Ext.set1 ?_ ?_); (first | (focus (simp; done)) | (focus (simp; omega)) | (focus omega))) | (with_reducible refine Ext.alloc ?_ _) | (with_reducible exact Ext.refl _) | (refine Ext.trans ?_ (by with_reducible assumption)))))) hc2) ?_; rintro e w3 ⟨rfl, hb3⟩; rw [H2.out]; obtain ⟨i0, i1, i2⟩ := Blk.c3 (w := w3) (B := w.heap.size) (by repeat (first | (with_reducible assumption) | ((with_reducible refine Blk.new ?_); (first | (focus rfl) | (focus (simp; done)) | (focus omega))) | ((with_reducible refine Blk.set1 ?_ ?_); (focus omega)) | (with_reducible refine Blk.alloc ?_) | (refine Blk.ext ?_ (by with_reducible assumption)))))
      | (go_at_call 12; refine Calls.mono (small_any S W L A c l _ (C_ext hr (by exact (by repeat (first | ((with_reducible refine Ext.set1 ?_ ?_); (first | (focus (simp; done)) | (focus (simp; omega)) | (focus omega))) | (with_reducible refine Ext.alloc ?_ _) | (with_reducible exact Ext.refl _) | (refine Ext.trans ?_ (by with_reducible assumption)))))) hc) ?_; rintro e w2 ⟨rfl, hb2⟩; rw [H1.out]; obtain ⟨d0, d1, d2⟩ := Blk.c3 (w := w2) (B := w.heap.size) (by repeat (first | (with_reducible assumption) | ((with_reducible refine Blk.new ?_); (first | (focus rfl) | (focus (simp; done)) | (focus omega))) | ((with_reducible refine Blk.set1 ?_ ?_); (focus omega)) | (with_reducible refine Blk.alloc ?_) | (refine Blk.ext ?_ (by with_reducible assumption)))))
      | (go_at_call 11; refine Calls.mono (awake_yes _) ?_; rintro e w1 ⟨rfl, hb1⟩; obtain ⟨a0, a1, a2⟩ := Blk.c3 (w := w1) (B := w.heap.size) (by repeat (first | (with_reducible assumption) | ((with_reducible refine Blk.new ?_); (first | (focus rfl) | (focus (simp; done)) | (focus omega))) | ((with_reducible refine Blk.set1 ?_ ?_); (focus omega)) | (with_reducible refine Blk.alloc ?_) | (refine Blk.ext ?_ (by with_reducible assumption))))))
    have k9 : Blk w7 w5.heap.size (mayO S W L false none) := Blk.ext (by repeat (first | (with_reducible assumption) | ((with_reducible refine Blk.new ?_); (first | (focus rfl) | (focus (simp; done)) | (focus omega))) | ((with_reducible refine Blk.set1 ?_ ?_); (focus omega)) | (with_reducible refine Blk.alloc ?_) | (refine Blk.ext ?_ (by with_reducible assumption)))) hb7
    have kc : Blk w7 w.heap.size (.cells #[.int .i64 S, .int .i64 W, .int .i64 L] 23) := Blk.ext (by repeat (first | (with_reducible assumption) | ((with_reducible refine Blk.new ?_); (first | (focus rfl) | (focus (simp; done)) | (focus omega))) | ((with_reducible refine Blk.set1 ?_ ?_); (focus omega)) | (with_reducible refine Blk.alloc ?_) | (refine Blk.ext ?_ (by with_reducible assumption)))) hb7
    have hx7 : Ext w w7 := hx5.trans hb7
    have zca : CaB w7 w.heap.size q S W L F0 (List.replicate S.toNat []) := (hca.ext ((hb5.alloc _).trans hb7)).lower (by have := hb3.size; have := hb2.size; have := hb1.size; simp at this; omega)
    have zstp : StpB w7 w.heap.size (.slice A7 n c7) al := StpB.of (Kd.R_lower h7 hx5.size)
    have HD0 : Hid (Rows S W (List.replicate S.toNat []) ∧ Top 4000 (List.replicate S.toNat []) ∧ Descr S (some noF) (List.replicate S.toNat [])) := ⟨rows_empty gs gw, top_empty _ _, descr_start gs⟩
    have hq5 : w.heap.size < w5.heap.size := by have := hb5.size; omega
    clear hca hb1 hb2 hb3 hb4 hb5 hb6 hb7 h6 h7 hc6 hx5 a0 a1 a2 d0 d1 d2 i0 i1 i2 j0 j1 j2 hr hr2
    go_loopw [54] (fun i wr => ∃ (j : Nat) (ux : Bool) (px : Option Nat) (st : St) (F : Nat → Prop) (rows : List (List Int)), i = .int .i64 j ∧ j ≤ n ∧ (Blk wr w5.heap.size (mayO S W L ux px) ∧ Blk wr w.heap.size (.cells #[.int .i64 S, .int .i64 W, .int .i64 L] 23) ∧ StB wr W (64 * j) st ux px ∧
        CaB wr w.heap.size q S W L F rows ∧ StpB wr w.heap.size (.slice A7 n c7) al ∧ Ext w wr) ∧ Hid (Rows S W rows ∧ Top 4000 rows ∧ Descr S st rows)) (fun i _ => n - (Go.RowKit.intOf i).toNat)
    case atStart => exact ⟨0, false, none, some noF, F0, _, rfl, Nat.zero_le _, ⟨k9, kc, StB.nil _ _ _, zca, zstp, hx7⟩, HD0⟩
    case round =>
      clear k9 kc zca zstp HD0 hx7
      obtain ⟨j, ux, px, st, F, rows, rfl, hj, ⟨k9, kc, hst, hca, hstp, hext⟩, HD⟩ := hrel
      have hl9 := k9.lt
      have hlc := kc.lt
      by_cases hlt : j < n
      · obtain ⟨ad, rfl, c0, c1, c2⟩ := at_step (Kd.R_reads' hstp).2.2 j (by rw [HN.out]; exact hlt)
        have hxm : al.getD j z45 ∈ al := by
          rw [List.getD_eq_getElem?_getD, List.getElem?_eq_getElem (by rw [HN.out]; exact hlt)]
          exact List.getElem_mem _
        have hbx := HB.out _ hxm
        clear hxm
        obtain ⟨⟨x0, x1, x2⟩, hx⟩ : ∃ x, x = al.getD j z45 := ⟨_, rfl⟩
        rw [← hx] at c0 c1 c2 hbx
        dsimp only at c0 c1 c2 hbx
        clear hx
        obtain ⟨⟨b0, b1, b2, b3⟩, b4, b5⟩ := hbx
        have hbase : w.heap.size ≤ wr.heap.size := hext.size
        have HN2 : Hid (Rows S W (cStep S W rows x0 x1 x2) ∧ Top 4000 (cStep S W rows x0 x1 x2) ∧ Descr S (sStep S W st x0 x1) (cStep S W rows x0 x1 x2)) :=
          ⟨(rows_step gs gw HD.out.1 HD.out.2.1 b3).1, (rows_step gs gw HD.out.1 HD.out.2.1 b3).2, sound_step gs gw (fitS_of hst) HD.out.1 HD.out.2.2 x0 x1 x2⟩
        have y9 : Blk (wr.alloc (stepO x0 x1 x2)) w5.heap.size (mayO S W L ux px) := (by repeat (first | (with_reducible assumption) | ((with_reducible refine Blk.new ?_); (first | (focus rfl) | (focus (simp; done)) | (focus omega))) | ((with_reducible refine Blk.set1 ?_ ?_); (focus omega)) | (with_reducible refine Blk.alloc ?_) | (refine Blk.ext ?_ (by with_reducible assumption))))
        have yc : Blk (wr.alloc (stepO x0 x1 x2)) w.heap.size (.cells #[.int .i64 S, .int .i64 W, .int .i64 L] 23) := (by repeat (first | (with_reducible assumption) | ((with_reducible refine Blk.new ?_); (first | (focus rfl) | (focus (simp; done)) | (focus omega))) | ((with_reducible refine Blk.set1 ?_ ?_); (focus omega)) | (with_reducible refine Blk.alloc ?_) | (refine Blk.ext ?_ (by with_reducible assumption))))
        have y15 : Blk (wr.alloc (stepO x0 x1 x2)) wr.heap.size (stepO x0 x1 x2) := (by repeat (first | (with_reducible assumption) | ((with_reducible refine Blk.new ?_); (first | (focus rfl) | (focus (simp; done)) | (focus omega))) | ((with_reducible refine Blk.set1 ?_ ?_); (focus omega)) | (with_reducible refine Blk.alloc ?_) | (refine Blk.ext ?_ (by with_reducible assumption))))
        by_cases hln : x1 < max x0 0
        · have hcs : cStep S W rows x0 x1 x2 = rows := by unfold cStep; rw [lineOf_none hln]
          rw [hcs] at HN2
          clear hcs
          go_wp2_with (first
            | (go_at_call 22; refine Calls.mono (line_none x0 x1 x2 hln _) ?_; rintro e w11 ⟨rfl, hb11⟩; obtain ⟨t0, t1, t2, t3, t4⟩ := (y9.ext hb11).c5; obtain ⟨r0, r1, r2⟩ := (y15.ext hb11).c3))
          have z9 := y9.ext hb11
          have zc := yc.ext hb11
          have zst := hst.ext (Ext.trans ((Ext.refl wr).alloc _) hb11)
          have zstp := hstp.ext (Ext.trans ((Ext.refl wr).alloc _) hb11)
          have zext : Ext w w11 := hext.trans (Ext.trans ((Ext.refl wr).alloc _) hb11)
          refine Calls.mono (step_st g x0 x1 x2 (by omega) ux px (64 * j) st _ zst (by omega)) ?_
          rintro e w20 ⟨u20, p20, rfl, h20, hb20⟩
          have m9 := z9.ext hb20
          have mc := zc.ext hb20
          have mca := (hca.ext (Ext.trans ((Ext.refl wr).alloc _) hb11)).ext hb20
          have mstp := zstp.ext hb20
          have mext := zext.trans hb20
          have hl20 := m9.lt
          obtain ⟨t0, t1, t2, t3, t4⟩ := m9.c5
          obtain ⟨r0, r1, r2, r3, r4⟩ := m9.f5
          go_wp2
          have v9 := Blk.put5 (a' := .int .i64 S) (b' := .int .i64 W) (c' := .int .i64 L) (d' := .bool u20) (e' := .map p20) m9
          have vc := Blk.far5s (a := .int .i64 S) (b := .int .i64 W) (c := .int .i64 L) (d := .bool u20) (e := .map p20) (show w.heap.size ≠ w5.heap.size by omega) mc
          have vca := mca.set5 (a' := .int .i64 S) (b' := .int .i64 W) (c' := .int .i64 L) (d' := .bool u20) (e' := .map p20) m9 (by decide) (by decide) (by decide)
          have vstp := mstp.set5 (a' := .int .i64 S) (b' := .int .i64 W) (c' := .int .i64 L) (d' := .bool u20) (e' := .map p20) m9 (by decide)
          have vst := ((((h20.set (a := ⟨w5.heap.size, 0, none⟩) (v := .int .i64 S)).set (a := ⟨w5.heap.size, 1, none⟩) (v := .int .i64 W)).set (a := ⟨w5.heap.size, 2, none⟩) (v := .int .i64 L)).set (a := ⟨w5.heap.size, 3, none⟩) (v := .bool u20)).set (a := ⟨w5.heap.size, 4, none⟩) (v := .map p20)
          have vext := Ext.set5 (a := .int .i64 S) (b := .int .i64 W) (c := .int .i64 L) (d := .bool u20) (e := .map p20) (show w.heap.size ≤ w5.heap.size by omega) mext
          obtain ⟨wS, hwS⟩ : ∃ wS, wS = ((((w20.setCell ⟨w5.heap.size, 0, none⟩ (.int .i64 S)).setCell ⟨w5.heap.size, 1, none⟩ (.int .i64 W)).setCell ⟨w5.heap.size, 2, none⟩ (.int .i64 L)).setCell ⟨w5.heap.size, 3, none⟩ (.bool u20)).setCell ⟨w5.heap.size, 4, none⟩ (.map p20) := ⟨_, rfl⟩
          rw [← hwS] at v9 vc vca vstp vst vext ⊢
          clear hwS t0 t1 t2 t3 t4 r0 r1 r2 r3 r4
          obtain ⟨t0, t1, t2, t3, t4⟩ := v9.c5
          have hlen := HN2.out.1.len
          have hs64 := g.s64
          go_region_with (first
            | (have gq := hb21; clear gq; go_at_call 15; refine Calls.mono (descr_st g u20 p20 (64 * j + 64) _ _ _ _ _ (vst.ext hb21) (hrs.C rfl (by omega) (fun _ _ => rfl)) (fun l hl x hx => .of (by have := HN2.out.1.all l hl x hx; omega) (by have := HN2.out.2.1.all l hl x hx; omega))) ?_; intro e w22 hh; obtain ⟨rfl, hb22⟩ := hh.yes HN2.out.2.2)
            | (go_at_call 26; refine Calls.mono (cache_lines g (vca.ext (Ext.drew (Ext.refl _))) HN2.out.1) ?_; rintro e w21 ⟨g21, vs21, rfl, hrs, hb21'⟩; have hb21 : Ext wS w21 := (Ext.drew (Ext.refl _)).trans hb21'; clear hb21'; obtain ⟨s0, s1, s2, s3, s4⟩ := (v9.ext hb21).c5))
          all_goals
            go_wp2
            have hE := hb21.trans hb22
            refine ⟨⟨j + 1, u20, p20, _, F, _, by go_num, by omega, ⟨v9.ext hE, vc.ext hE, vst.ext hE, vca.ext hE, vstp.ext hE, vext.trans hE⟩, HN2⟩, ?_⟩
            simp [Go.RowKit.intOf]
            omega
        · obtain ⟨e1, e2, e3⟩ := lineOf_some (lo := x0) (hi := x1) (pk := x2) (by omega)
          have hcs : cStep S W rows x0 x1 x2 = cAcc S W rows (max x0 0 + x2 % (x1 - max x0 0 + 1)) := by unfold cStep; rw [e1]
          rw [hcs] at HN2
          clear hcs e1
          obtain ⟨nn, hnn⟩ : ∃ nn, max x0 0 + x2 % (x1 - max x0 0 + 1) = nn := ⟨_, rfl⟩
          rw [hnn] at HN2 e2 e3
          obtain ⟨hX1, hX2, hX3⟩ := mul_fits (n := nn) (by omega) (by omega) g.l1 g.l16
          obtain ⟨X, hX⟩ : ∃ X, nn * L = X := ⟨_, rfl⟩
          rw [hX] at hX1 hX2 hX3
          cases hb : hasB st nn
          · have HHB := Lib.hid hb
            clear hb
            go_wp2_with (first
              | (go_at_call 25; refine Calls.mono (touch_at (base := w.heap.size) g (hca.ext (by repeat (first | ((with_reducible refine Ext.set1 ?_ ?_); (first | (focus (simp; done)) | (focus (simp; omega)) | (focus omega))) | (with_reducible refine Ext.alloc ?_ _) | (with_reducible exact Ext.refl _) | (refine Ext.trans ?_ (by with_reducible assumption))))) HD.out.1 nn (by omega) (by omega) (by omega)) ?_; rintro e w14 ⟨rfl, F14, hc14, hF14, hf14⟩; have z9 := (hca.ext (Ext.trans ((Ext.refl wr).alloc _) (hb11.trans (hb12.trans hb13)))).keep hf14 (y9.ext (hb11.trans (hb12.trans hb13))) (by decide) (by decide); have zc := (hca.ext (Ext.trans ((Ext.refl wr).alloc _) (hb11.trans (hb12.trans hb13)))).keep hf14 (yc.ext (hb11.trans (hb12.trans hb13))) (by decide) (by decide); have z15 := (hca.ext (Ext.trans ((Ext.refl wr).alloc _) (hb11.trans (hb12.trans hb13)))).keep hf14 (y15.ext (hb11.trans (hb12.trans hb13))) (by decide) (by decide); obtain ⟨t0, t1, t2, t3, t4⟩ := z9.c5; obtain ⟨r0, r1, r2⟩ := z15.c3)
              | (go_at_call 24; refine Calls.mono (cache_probe g (hca.ext (by repeat (first | ((with_reducible refine Ext.set1 ?_ ?_); (first | (focus (simp; done)) | (focus (simp; omega)) | (focus omega))) | (with_reducible refine Ext.alloc ?_ _) | (with_reducible exact Ext.refl _) | (refine Ext.trans ?_ (by with_reducible assumption))))) HD.out.1 X hX1 hX2) ?_; rw [hX3, decide_eq_false (probe_out HD.out.2.2 HHB.out)]; rintro e w13 ⟨rfl, hb13⟩; have hz13 := hb13.size; obtain ⟨s0, s1, s2⟩ := (yc.ext (hb11.trans (hb12.trans hb13))).c3)
              | (go_at_call 23; refine Calls.mono (age_has S W L nn (by omega) (by omega) ux px (64 * j) st _ (hst.ext (by repeat (first | ((with_reducible refine Ext.set1 ?_ ?_); (first | (focus (simp; done)) | (focus (simp; omega)) | (focus omega))) | (with_reducible refine Ext.alloc ?_ _) | (with_reducible exact Ext.refl _) | (refine Ext.trans ?_ (by with_reducible assumption)))))) ?_; rw [HHB.out]; rintro e w12 ⟨ca, rfl, hb12⟩; have hz12 := hb12.size; obtain ⟨s0, s1, s2⟩ := (yc.ext (hb11.trans hb12)).c3)
              | (go_at_call 22; refine Calls.mono (line_some x0 x1 x2 (by omega) b3 b0 b4 b5 _) ?_; rw [hnn]; rintro e w11 ⟨rfl, hb11⟩; have hz11 := hb11.size; simp at hz11; obtain ⟨t0, t1, t2, t3, t4⟩ := (y9.ext hb11).c5; obtain ⟨r0, r1, r2⟩ := (y15.ext hb11).c3))
            have zst := (hst.ext (Ext.trans ((Ext.refl wr).alloc _) (hb11.trans (hb12.trans hb13)))).keep (hca.ext (Ext.trans ((Ext.refl wr).alloc _) (hb11.trans (hb12.trans hb13)))) hf14
            have zstp := (hstp.ext (Ext.trans ((Ext.refl wr).alloc _) (hb11.trans (hb12.trans hb13)))).keep (hca.ext (Ext.trans ((Ext.refl wr).alloc _) (hb11.trans (hb12.trans hb13)))) hf14
            have zext : Ext w w14 := (hext.trans (Ext.trans ((Ext.refl wr).alloc _) (hb11.trans (hb12.trans hb13)))).fr hf14 hca.fromB
            refine Calls.mono (step_st g x0 x1 x2 (by omega) ux px (64 * j) st _ zst (by omega)) ?_
            rintro e w20 ⟨u20, p20, rfl, h20, hb20⟩
            have m9 := z9.ext hb20
            have mc := zc.ext hb20
            have mca := hc14.ext hb20
            have mstp := zstp.ext hb20
            have mext := zext.trans hb20
            have hl20 := m9.lt
            obtain ⟨t0, t1, t2, t3, t4⟩ := m9.c5
            obtain ⟨r0, r1, r2, r3, r4⟩ := m9.f5
            go_wp2
            have v9 := Blk.put5 (a' := .int .i64 S) (b' := .int .i64 W) (c' := .int .i64 L) (d' := .bool u20) (e' := .map p20) m9
            have vc := Blk.far5s (a := .int .i64 S) (b := .int .i64 W) (c := .int .i64 L) (d := .bool u20) (e := .map p20) (show w.heap.size ≠ w5.heap.size by omega) mc
            have vca := mca.set5 (a' := .int .i64 S) (b' := .int .i64 W) (c' := .int .i64 L) (d' := .bool u20) (e' := .map p20) m9 (by decide) (by decide) (by decide)
            have vstp := mstp.set5 (a' := .int .i64 S) (b' := .int .i64 W) (c' := .int .i64 L) (d' := .bool u20) (e' := .map p20) m9 (by decide)
            have vst := ((((h20.set (a := ⟨w5.heap.size, 0, none⟩) (v := .int .i64 S)).set (a := ⟨w5.heap.size, 1, none⟩) (v := .int .i64 W)).set (a := ⟨w5.heap.size, 2, none⟩) (v := .int .i64 L)).set (a := ⟨w5.heap.size, 3, none⟩) (v := .bool u20)).set (a := ⟨w5.heap.size, 4, none⟩) (v := .map p20)
            have vext := Ext.set5 (a := .int .i64 S) (b := .int .i64 W) (c := .int .i64 L) (d := .bool u20) (e := .map p20) (show w.heap.size ≤ w5.heap.size by omega) mext
            obtain ⟨wS, hwS⟩ : ∃ wS, wS = ((((w20.setCell ⟨w5.heap.size, 0, none⟩ (.int .i64 S)).setCell ⟨w5.heap.size, 1, none⟩ (.int .i64 W)).setCell ⟨w5.heap.size, 2, none⟩ (.int .i64 L)).setCell ⟨w5.heap.size, 3, none⟩ (.bool u20)).setCell ⟨w5.heap.size, 4, none⟩ (.map p20) := ⟨_, rfl⟩
            rw [← hwS] at v9 vc vca vstp vst vext ⊢
            clear hwS t0 t1 t2 t3 t4 r0 r1 r2 r3 r4
            obtain ⟨t0, t1, t2, t3, t4⟩ := v9.c5
            have hlen := HN2.out.1.len
            have hs64 := g.s64
            go_region_with (first
              | (have gq := hb21; clear gq; go_at_call 15; refine Calls.mono (descr_st g u20 p20 (64 * j + 64) _ _ _ _ _ (vst.ext hb21) (hrs.C rfl (by omega) (fun _ _ => rfl)) (fun l hl x hx => .of (by have := HN2.out.1.all l hl x hx; omega) (by have := HN2.out.2.1.all l hl x hx; omega))) ?_; intro e w22 hh; obtain ⟨rfl, hb22⟩ := hh.yes HN2.out.2.2)
              | (go_at_call 26; refine Calls.mono (cache_lines g (vca.ext (Ext.drew (Ext.refl _))) HN2.out.1) ?_; rintro e w21 ⟨g21, vs21, rfl, hrs, hb21'⟩; have hb21 : Ext wS w21 := (Ext.drew (Ext.refl _)).trans hb21'; clear hb21'; obtain ⟨s0, s1, s2, s3, s4⟩ := (v9.ext hb21).c5))
            all_goals
              go_wp2
              have hE := hb21.trans hb22
              refine ⟨⟨j + 1, u20, p20, _, F14, _, by go_num, by omega, ⟨v9.ext hE, vc.ext hE, vst.ext hE, vca.ext hE, vstp.ext hE, vext.trans hE⟩, HN2⟩, ?_⟩
              simp [Go.RowKit.intOf]
              omega
          · have HHB := Lib.hid hb
            clear hb
            go_wp2_with (first
              | (go_at_call 25; refine Calls.mono (touch_at (base := w.heap.size) g (hca.ext (by repeat (first | ((with_reducible refine Ext.set1 ?_ ?_); (first | (focus (simp; done)) | (focus (simp; omega)) | (focus omega))) | (with_reducible refine Ext.alloc ?_ _) | (with_reducible exact Ext.refl _) | (refine Ext.trans ?_ (by with_reducible assumption))))) HD.out.1 nn (by omega) (by omega) (by omega)) ?_; rintro e w14 ⟨rfl, F14, hc14, hF14, hf14⟩; have z9 := (hca.ext (Ext.trans ((Ext.refl wr).alloc _) (hb11.trans hb12))).keep hf14 (y9.ext (hb11.trans hb12)) (by decide) (by decide); have zc := (hca.ext (Ext.trans ((Ext.refl wr).alloc _) (hb11.trans hb12))).keep hf14 (yc.ext (hb11.trans hb12)) (by decide) (by decide); have z15 := (hca.ext (Ext.trans ((Ext.refl wr).alloc _) (hb11.trans hb12))).keep hf14 (y15.ext (hb11.trans hb12)) (by decide) (by decide); obtain ⟨t0, t1, t2, t3, t4⟩ := z9.c5; obtain ⟨r0, r1, r2⟩ := z15.c3)
              | (go_at_call 23; refine Calls.mono (age_has S W L nn (by omega) (by omega) ux px (64 * j) st _ (hst.ext (by repeat (first | ((with_reducible refine Ext.set1 ?_ ?_); (first | (focus (simp; done)) | (focus (simp; omega)) | (focus omega))) | (with_reducible refine Ext.alloc ?_ _) | (with_reducible exact Ext.refl _) | (refine Ext.trans ?_ (by with_reducible assumption)))))) ?_; rw [HHB.out]; rintro e w12 ⟨ca, rfl, hb12⟩; have hz12 := hb12.size; obtain ⟨s0, s1, s2⟩ := (yc.ext (hb11.trans hb12)).c3)
              | (go_at_call 22; refine Calls.mono (line_some x0 x1 x2 (by omega) b3 b0 b4 b5 _) ?_; rw [hnn]; rintro e w11 ⟨rfl, hb11⟩; have hz11 := hb11.size; simp at hz11; obtain ⟨t0, t1, t2, t3, t4⟩ := (y9.ext hb11).c5; obtain ⟨r0, r1, r2⟩ := (y15.ext hb11).c3))
            have zst := (hst.ext (Ext.trans ((Ext.refl wr).alloc _) (hb11.trans hb12))).keep (hca.ext (Ext.trans ((Ext.refl wr).alloc _) (hb11.trans hb12))) hf14
            have zstp := (hstp.ext (Ext.trans ((Ext.refl wr).alloc _) (hb11.trans hb12))).keep (hca.ext (Ext.trans ((Ext.refl wr).alloc _) (hb11.trans hb12))) hf14
            have zext : Ext w w14 := (hext.trans (Ext.trans ((Ext.refl wr).alloc _) (hb11.trans hb12))).fr hf14 hca.fromB
            refine Calls.mono (step_st g x0 x1 x2 (by omega) ux px (64 * j) st _ zst (by omega)) ?_
            rintro e w20 ⟨u20, p20, rfl, h20, hb20⟩
            have m9 := z9.ext hb20
            have mc := zc.ext hb20
            have mca := hc14.ext hb20
            have mstp := zstp.ext hb20
            have mext := zext.trans hb20
            have hl20 := m9.lt
            obtain ⟨t0, t1, t2, t3, t4⟩ := m9.c5
            obtain ⟨r0, r1, r2, r3, r4⟩ := m9.f5
            go_wp2
            have v9 := Blk.put5 (a' := .int .i64 S) (b' := .int .i64 W) (c' := .int .i64 L) (d' := .bool u20) (e' := .map p20) m9
            have vc := Blk.far5s (a := .int .i64 S) (b := .int .i64 W) (c := .int .i64 L) (d := .bool u20) (e := .map p20) (show w.heap.size ≠ w5.heap.size by omega) mc
            have vca := mca.set5 (a' := .int .i64 S) (b' := .int .i64 W) (c' := .int .i64 L) (d' := .bool u20) (e' := .map p20) m9 (by decide) (by decide) (by decide)
            have vstp := mstp.set5 (a' := .int .i64 S) (b' := .int .i64 W) (c' := .int .i64 L) (d' := .bool u20) (e' := .map p20) m9 (by decide)
            have vst := ((((h20.set (a := ⟨w5.heap.size, 0, none⟩) (v := .int .i64 S)).set (a := ⟨w5.heap.size, 1, none⟩) (v := .int .i64 W)).set (a := ⟨w5.heap.size, 2, none⟩) (v := .int .i64 L)).set (a := ⟨w5.heap.size, 3, none⟩) (v := .bool u20)).set (a := ⟨w5.heap.size, 4, none⟩) (v := .map p20)
            have vext := Ext.set5 (a := .int .i64 S) (b := .int .i64 W) (c := .int .i64 L) (d := .bool u20) (e := .map p20) (show w.heap.size ≤ w5.heap.size by omega) mext
            obtain ⟨wS, hwS⟩ : ∃ wS, wS = ((((w20.setCell ⟨w5.heap.size, 0, none⟩ (.int .i64 S)).setCell ⟨w5.heap.size, 1, none⟩ (.int .i64 W)).setCell ⟨w5.heap.size, 2, none⟩ (.int .i64 L)).setCell ⟨w5.heap.size, 3, none⟩ (.bool u20)).setCell ⟨w5.heap.size, 4, none⟩ (.map p20) := ⟨_, rfl⟩
            rw [← hwS] at v9 vc vca vstp vst vext ⊢
            clear hwS t0 t1 t2 t3 t4 r0 r1 r2 r3 r4
            obtain ⟨t0, t1, t2, t3, t4⟩ := v9.c5
            have hlen := HN2.out.1.len
            have hs64 := g.s64
            go_region_with (first
              | (have gq := hb21; clear gq; go_at_call 15; refine Calls.mono (descr_st g u20 p20 (64 * j + 64) _ _ _ _ _ (vst.ext hb21) (hrs.C rfl (by omega) (fun _ _ => rfl)) (fun l hl x hx => .of (by have := HN2.out.1.all l hl x hx; omega) (by have := HN2.out.2.1.all l hl x hx; omega))) ?_; intro e w22 hh; obtain ⟨rfl, hb22⟩ := hh.yes HN2.out.2.2)
              | (go_at_call 26; refine Calls.mono (cache_lines g (vca.ext (Ext.drew (Ext.refl _))) HN2.out.1) ?_; rintro e w21 ⟨g21, vs21, rfl, hrs, hb21'⟩; have hb21 : Ext wS w21 := (Ext.drew (Ext.refl _)).trans hb21'; clear hb21'; obtain ⟨s0, s1, s2, s3, s4⟩ := (v9.ext hb21).c5))
            all_goals
              go_wp2
              have hE := hb21.trans hb22
              refine ⟨⟨j + 1, u20, p20, _, F14, _, by go_num, by omega, ⟨v9.ext hE, vc.ext hE, vst.ext hE, vca.ext hE, vstp.ext hE, vext.trans hE⟩, HN2⟩, ?_⟩
              simp [Go.RowKit.intOf]
              omega
      · obtain rfl : j = n := by omega
        go_wp2
        go_ret
        exact ⟨rfl, hext⟩
end Go.Proofs.Ytjckghdgogkeaaa
