/- The walk of ontimelaw30.MustSound. -/
import Derived.Test.YtaekkfgggmighaaMuX
import Derived.Test.YtaekkfgggmighaaOpenM
import Derived.Deep.RegionHeld3
import Derived.Deep.DeepCutAuto
import Derived.Deep.CutRange
import Derived.Deep.DrawnRows
namespace Go.Proofs.Ytaekkfgggmighaa
open Go.RowKit Go.Maps Go.Proofs.YtaekkfgggmighaaW.PrintWords Go.Proofs.Ytaekkfgggmighaa.Pgreat
set_option linter.unusedVariables false
attribute [local go_sem ↓] Go.wp_at_zero Go.wp_at_succ

set_option maxHeartbeats 1000000 in
theorem sound_no (S W L : Int) (A : Option Addr) (c : Nat) (l : List Int) (B : Option Addr) (d : Nat) (ops : List S37) (w : World) (hv : vldB S W L = false) :
    Calls Try.prog 10 #[.agg #[.int .i64 S, .int .i64 W, .int .i64 L], .slice A l.length c, .slice B ops.length d] w fun e w' => e = .returned (.bool true) ∧ Ext w w' := by
  have HV := Lib.hid hv; clear hv
  go_enter Try.func10, Try.ntmps10
  go_wp2_with (first
    | (go_at_call 21; refine Calls.mono (must_new_no HV.out _) ?_; rintro e w5 ⟨rfl, hb5⟩)
    | (go_at_call 14; refine Calls.mono (cache_new_no HV.out _) ?_; rintro e w4 ⟨rfl, hb4⟩; obtain ⟨j0, j1, j2⟩ := Blk.c3 (w := w4) (B := w.heap.size) (by repeat (first | (with_reducible assumption) | ((with_reducible refine Blk.new ?_); (first | (focus rfl) | (focus (simp; done)) | (focus omega))) | ((with_reducible refine Blk.set1 ?_ ?_); (focus omega)) | (with_reducible refine Blk.alloc ?_) | (refine Blk.ext ?_ (by with_reducible assumption)))))
    | (go_at_call 11; refine Calls.mono (awake_yes _) ?_; rintro e w1 ⟨rfl, hb1⟩; obtain ⟨a0, a1, a2⟩ := Blk.c3 (w := w1) (B := w.heap.size) (by repeat (first | (with_reducible assumption) | ((with_reducible refine Blk.new ?_); (first | (focus rfl) | (focus (simp; done)) | (focus omega))) | ((with_reducible refine Blk.set1 ?_ ?_); (focus omega)) | (with_reducible refine Blk.alloc ?_) | (refine Blk.ext ?_ (by with_reducible assumption))))))
  go_ret
  exact ⟨rfl, (by repeat (first | ((with_reducible refine Ext.set1 ?_ ?_); (first | (focus (simp; done)) | (focus (simp; omega)) | (focus omega))) | (with_reducible refine Ext.alloc ?_ _) | (with_reducible exact Ext.refl _) | (refine Ext.trans ?_ (by with_reducible assumption))))⟩
set_option maxHeartbeats 1000000 in
theorem sound_big {S W L : Int} (g : Geo S W L) (A : Option Addr) (c : Nat) (l : List Int) (B : Option Addr) (d : Nat) (ops : List S37) (w : World) (hlen : l.length ≤ 9223372036854775807) (hr2 : k37.C w B ops.length ops) (hc2 : ops.length ≤ d) (hno : greatB ops = true ∨ 100 < l.length) :
    Calls Try.prog 10 #[.agg #[.int .i64 S, .int .i64 W, .int .i64 L], .slice A l.length c, .slice B ops.length d] w fun e w' => e = .returned (.bool true) ∧ Ext w w' := by
  cases hg : greatB ops with
  | true =>
    have HG := Lib.hid hg; clear hg hno
    go_enter Try.func10, Try.ntmps10
    go_wp2_with (first
      | (go_at_call 13; refine Calls.mono (great_any B d ops _ (C_ext hr2 (by exact (by repeat (first | ((with_reducible refine Ext.set1 ?_ ?_); (first | (focus (simp; done)) | (focus (simp; omega)) | (focus omega))) | (with_reducible refine Ext.alloc ?_ _) | (with_reducible exact Ext.refl _) | (refine Ext.trans ?_ (by with_reducible assumption)))))) hc2) ?_; rw [HG.out]; rintro e w6 ⟨rfl, hb6⟩)
      | (go_at_call 21; refine Calls.mono (must_new_yes g _) ?_; rintro e w5 ⟨rfl, hb5⟩)
      | (go_at_call 14; refine Calls.mono (cache_new g _) ?_; rintro e w4 ⟨q, F0, rfl, hca, hb4⟩; obtain ⟨j0, j1, j2⟩ := Blk.c3 (w := w4) (B := w.heap.size) (by repeat (first | (with_reducible assumption) | ((with_reducible refine Blk.new ?_); (first | (focus rfl) | (focus (simp; done)) | (focus omega))) | ((with_reducible refine Blk.set1 ?_ ?_); (focus omega)) | (with_reducible refine Blk.alloc ?_) | (refine Blk.ext ?_ (by with_reducible assumption)))))
      | (go_at_call 11; refine Calls.mono (awake_yes _) ?_; rintro e w1 ⟨rfl, hb1⟩; obtain ⟨a0, a1, a2⟩ := Blk.c3 (w := w1) (B := w.heap.size) (by repeat (first | (with_reducible assumption) | ((with_reducible refine Blk.new ?_); (first | (focus rfl) | (focus (simp; done)) | (focus omega))) | ((with_reducible refine Blk.set1 ?_ ?_); (focus omega)) | (with_reducible refine Blk.alloc ?_) | (refine Blk.ext ?_ (by with_reducible assumption))))))
    go_ret
    exact ⟨rfl, (by repeat (first | ((with_reducible refine Ext.set1 ?_ ?_); (first | (focus (simp; done)) | (focus (simp; omega)) | (focus omega))) | (with_reducible refine Ext.alloc ?_ _) | (with_reducible exact Ext.refl _) | (refine Ext.trans ?_ (by with_reducible assumption))))⟩
  | false =>
    have hl : 100 < l.length := by
      rcases hno with h | h
      · rw [hg] at h; cases h
      · exact h
    have HG := Lib.hid hg; clear hg hno
    go_enter Try.func10, Try.ntmps10
    go_wp2_with (first
      | (go_at_call 13; refine Calls.mono (great_any B d ops _ (C_ext hr2 (by exact (by repeat (first | ((with_reducible refine Ext.set1 ?_ ?_); (first | (focus (simp; done)) | (focus (simp; omega)) | (focus omega))) | (with_reducible refine Ext.alloc ?_ _) | (with_reducible exact Ext.refl _) | (refine Ext.trans ?_ (by with_reducible assumption)))))) hc2) ?_; rw [HG.out]; rintro e w6 ⟨rfl, hb6⟩)
      | (go_at_call 21; refine Calls.mono (must_new_yes g _) ?_; rintro e w5 ⟨rfl, hb5⟩)
      | (go_at_call 14; refine Calls.mono (cache_new g _) ?_; rintro e w4 ⟨q, F0, rfl, hca, hb4⟩; obtain ⟨j0, j1, j2⟩ := Blk.c3 (w := w4) (B := w.heap.size) (by repeat (first | (with_reducible assumption) | ((with_reducible refine Blk.new ?_); (first | (focus rfl) | (focus (simp; done)) | (focus omega))) | ((with_reducible refine Blk.set1 ?_ ?_); (focus omega)) | (with_reducible refine Blk.alloc ?_) | (refine Blk.ext ?_ (by with_reducible assumption)))))
      | (go_at_call 11; refine Calls.mono (awake_yes _) ?_; rintro e w1 ⟨rfl, hb1⟩; obtain ⟨a0, a1, a2⟩ := Blk.c3 (w := w1) (B := w.heap.size) (by repeat (first | (with_reducible assumption) | ((with_reducible refine Blk.new ?_); (first | (focus rfl) | (focus (simp; done)) | (focus omega))) | ((with_reducible refine Blk.set1 ?_ ?_); (focus omega)) | (with_reducible refine Blk.alloc ?_) | (refine Blk.ext ?_ (by with_reducible assumption))))))
    go_ret
    exact ⟨rfl, (by repeat (first | ((with_reducible refine Ext.set1 ?_ ?_); (first | (focus (simp; done)) | (focus (simp; omega)) | (focus omega))) | (with_reducible refine Ext.alloc ?_ _) | (with_reducible exact Ext.refl _) | (refine Ext.trans ?_ (by with_reducible assumption))))⟩

set_option maxRecDepth 10000 in
set_option maxHeartbeats 4000000 in
theorem sound_walk (S W L : Int) (A : Option Addr) (c : Nat) (l : List Int) (B : Option Addr) (d : Nat) (ops : List S37) (w : World) (hr : KI.C w A l.length l) (hc : l.length ≤ c) (hp : ∀ x ∈ l, I64 x) (hr2 : k37.C w B ops.length ops) (hc2 : ops.length ≤ d) (hp2 : ∀ x ∈ ops, 0 ≤ x.f2 ∧ x.f2 ≤ 255) :
    Calls Try.prog 10 #[.agg #[.int .i64 S, .int .i64 W, .int .i64 L], .slice A l.length c, .slice B ops.length d] w fun e w' => e = .returned (.bool true) ∧ Ext w w' := by
  cases hv : vldB S W L with
  | false => exact sound_no S W L A c l B d ops w hv
  | true =>
    have g := (vld_iff _ _ _).1 hv
    clear hv
    by_cases hno : greatB ops = true ∨ 100 < l.length
    · exact sound_big g A c l B d ops w (C_max hr) hr2 hc2 hno
    have hg : greatB ops = false := by
      cases h : greatB ops with
      | false => rfl
      | true => exact absurd (.inl h) hno
    have hl100 : l.length ≤ 100 := by
      by_cases h : 100 < l.length
      · exact absurd (.inr h) hno
      · omega
    obtain ⟨ho100, hop⟩ := great_no hg
    have HG := Lib.hid hg
    have HOP := Lib.hid hop
    have HP2 := Lib.hid hp2
    have HP := Lib.hid hp
    clear hg hno hop hp2 hp
    have gw := g.w1
    have gs := g.s1
    have gw8 := g.w8
    have gs64 := g.s64
    have gl1 := g.l1
    have gl16 := g.l16
    obtain ⟨n, hn⟩ : ∃ n, l.length = n := ⟨_, rfl⟩
    rw [hn] at hr hc hl100 ⊢
    have HN := Lib.hid hn
    clear hn
    obtain ⟨n2, hn2⟩ : ∃ n, ops.length = n := ⟨_, rfl⟩
    have hgr := fun w h => great_any B d ops w h hc2
    rw [hn2] at hr2 hc2 ho100 hgr ⊢
    have HN0 := Lib.hid hn2
    clear hn2
    go_enter Try.func10, Try.ntmps10
    go_wp2_with (first
      | (go_at_call 13; refine Calls.mono (hgr _ (C_ext hr2 (by exact (by repeat (first | ((with_reducible refine Ext.set1 ?_ ?_); (first | (focus (simp; done)) | (focus (simp; omega)) | (focus omega))) | (with_reducible refine Ext.alloc ?_ _) | (with_reducible exact Ext.refl _) | (refine Ext.trans ?_ (by with_reducible assumption))))))) ?_; rw [HG.out]; rintro e w6 ⟨rfl, hb6⟩)
      | (go_at_call 21; refine Calls.mono (must_new_yes g _) ?_; rintro e w5 ⟨rfl, hb5⟩)
      | (go_at_call 14; refine Calls.mono (cache_new g _) ?_; rintro e w4 ⟨q, F0, rfl, hca, hb4⟩; obtain ⟨j0, j1, j2⟩ := Blk.c3 (w := w4) (B := w.heap.size) (by repeat (first | (with_reducible assumption) | ((with_reducible refine Blk.new ?_); (first | (focus rfl) | (focus (simp; done)) | (focus omega))) | ((with_reducible refine Blk.set1 ?_ ?_); (focus omega)) | (with_reducible refine Blk.alloc ?_) | (refine Blk.ext ?_ (by with_reducible assumption)))); have q4 : w.heap.size < w4.heap.size := (by have := hb4.size; have := hb1.size; simp at this; omega))
      | (go_at_call 11; refine Calls.mono (awake_yes _) ?_; rintro e w1 ⟨rfl, hb1⟩; obtain ⟨a0, a1, a2⟩ := Blk.c3 (w := w1) (B := w.heap.size) (by repeat (first | (with_reducible assumption) | ((with_reducible refine Blk.new ?_); (first | (focus rfl) | (focus (simp; done)) | (focus omega))) | ((with_reducible refine Blk.set1 ?_ ?_); (focus omega)) | (with_reducible refine Blk.alloc ?_) | (refine Blk.ext ?_ (by with_reducible assumption))))))
    have k9 : Blk w6 w5.heap.size (mustO S W L none) := (Blk.new (w := w5) rfl).ext hb6
    have kc : Blk w6 w.heap.size (.cells #[.int .i64 S, .int .i64 W, .int .i64 L] 23) := (by repeat (first | (with_reducible assumption) | ((with_reducible refine Blk.new ?_); (first | (focus rfl) | (focus (simp; done)) | (focus omega))) | ((with_reducible refine Blk.set1 ?_ ?_); (focus omega)) | (with_reducible refine Blk.alloc ?_) | (refine Blk.ext ?_ (by with_reducible assumption))))
    have hx6 : Ext w w6 := (by repeat (first | ((with_reducible refine Ext.set1 ?_ ?_); (first | (focus (simp; done)) | (focus (simp; omega)) | (focus omega))) | (with_reducible refine Ext.alloc ?_ _) | (with_reducible exact Ext.refl _) | (refine Ext.trans ?_ (by with_reducible assumption))))
    have zca : CaB w6 w.heap.size q S W L F0 (List.replicate S.toNat []) := (hca.ext ((hb5.alloc _).trans hb6)).lower (by have := hb1.size; simp at this; omega)
    have HD0 : Hid (Rows S W (List.replicate S.toNat []) ∧ Top 1000 (List.replicate S.toNat [])) := ⟨rows_empty gs gw, top_empty _ _⟩
    have hq5 : w.heap.size < w5.heap.size := by have := hb5.size; omega
    clear hca hb1 hb4 hb5 hb6 a0 a1 a2 j0 j1 j2 hgr
    go_loopw [51] (fun i wr => ∃ (j : Nat) (F : Nat → Prop) (rows : List (List Int)), i = .int .i64 j ∧ j ≤ n ∧ (Blk wr w5.heap.size (mustO S W L none) ∧ Blk wr w.heap.size (.cells #[.int .i64 S, .int .i64 W, .int .i64 L] 23) ∧
        CaB wr w.heap.size q S W L F rows ∧ Ext w wr) ∧ Hid (Rows S W rows ∧ Top 1000 rows)) (fun i _ => n - (Go.RowKit.intOf i).toNat)
    case atStart => exact ⟨0, F0, _, rfl, Nat.zero_le _, ⟨k9, kc, zca, hx6⟩, HD0⟩
    case round =>
      clear k9 kc zca HD0 hx6
      obtain ⟨j, F, rows, rfl, hj, ⟨k9, kc, hca, hext⟩, HD⟩ := hrel
      have hl9 := k9.lt
      have hlc := kc.lt
      have hbase : w.heap.size ≤ wr.heap.size := hext.size
      by_cases hlt : j < n
      · obtain ⟨ad, rfl, hcell⟩ := at_num (C_ext hr hext) j hlt
        have hxb := HP.out (l.getD j 0) (by rw [List.getD_eq_getElem?_getD, List.getElem?_eq_getElem (by rw [HN.out]; exact hlt)]; exact List.getElem_mem _)
        obtain ⟨x, hx⟩ : ∃ x, x = l.getD j 0 := ⟨_, rfl⟩
        rw [← hx] at hcell hxb
        clear hx hxb
        by_cases hx1 : x ≤ 1000
        · by_cases hx0 : x < 0
          · go_wp2_with (first
              | (go_at_call 16; refine Calls.mono (cache_access_neg (q := q) x hx0) ?_; rintro e w14 ⟨rfl, hb14⟩))
            refine ⟨⟨j + 1, F, _, by go_num, by omega, ⟨k9.ext hb14, kc.ext hb14, hca.ext hb14, hext.trans hb14⟩, HD⟩, ?_⟩
            simp [Go.RowKit.intOf]
            omega
          · have hy0 : 0 ≤ x / L := Int.ediv_nonneg (by omega) (by omega)
            have hy1 : x / L ≤ 1000 := Int.le_trans (Int.ediv_le_self _ (by omega)) hx1
            have HN2 : Hid (Rows S W (cAcc S W rows (x / L)) ∧ Top 1000 (cAcc S W rows (x / L))) := ⟨HD.out.1.acc gs gw hy0, HD.out.2.acc gw hy1⟩
            clear hy0 hy1
            go_wp2_with (first
              | (go_at_call 16; refine Calls.mono (cache_access (base := w.heap.size) g hca HD.out.1 x (by omega) (by omega) hbase) ?_; rintro e w14 ⟨rfl, F14, hc14, hF14, hf14⟩))
            refine ⟨⟨j + 1, F14, _, by go_num, by omega, ⟨hca.keep hf14 k9 (by decide) (by decide), hca.keep hf14 kc (by decide) (by decide), hc14, hext.fr hf14 hca.fromB⟩, HN2⟩, ?_⟩
            simp [Go.RowKit.intOf]
            omega
        · go_wp2
          refine ⟨⟨j + 1, F, _, by go_num, by omega, ⟨k9, kc, hca, hext⟩, HD⟩, ?_⟩
          simp [Go.RowKit.intOf]
          omega
      · obtain rfl : j = n := by omega
        obtain ⟨wp, hwp⟩ : ∃ wp, wp = wr := ⟨wr, rfl⟩
        subst hwp
        have HD0 : Hid (Rows S W rows ∧ Top 1000 rows ∧ Desc S noF rows) := ⟨HD.out.1, HD.out.2, desc_no HD.out.1.len⟩
        clear HD
        go_wp2
        go_loopw [63] (fun i wr => ∃ (j : Nat) (px : Option Nat) (f : FM) (F : Nat → Prop) (rows : List (List Int)), i = .int .i64 j ∧ j ≤ n2 ∧ (Blk wr w5.heap.size (mustO S W L px) ∧ Blk wr w.heap.size (.cells #[.int .i64 S, .int .i64 W, .int .i64 L] 23) ∧ MB wr W j f px ∧
            CaB wr w.heap.size q S W L F rows ∧ Ext w wr) ∧ Hid (Rows S W rows ∧ Top 1000 rows ∧ Desc S f rows)) (fun i _ => n2 - (Go.RowKit.intOf i).toNat)
        case atStart => exact ⟨0, none, noF, F, _, rfl, Nat.zero_le _, ⟨k9, kc, MB.nil _ _ _, hca, hext⟩, HD0⟩
        case round =>
          clear k9 kc hca HD0 hext hl9 hlc hbase
          obtain ⟨j, px, f, F, rows, rfl, hj, ⟨k9, kc, hst, hca, hext⟩, HD⟩ := hrel
          have hl9 := k9.lt
          have hlc := kc.lt
          have hbase : w.heap.size ≤ wr.heap.size := hext.size
          by_cases hlt : j < n2
          · obtain ⟨bd, rfl, c0, c1', c2⟩ := at_op (C_ext hr2 hext) j hlt
            have hxm : ops.getD j z37 ∈ ops := by
              rw [List.getD_eq_getElem?_getD, List.getElem?_eq_getElem (by rw [HN0.out]; exact hlt)]
              exact List.getElem_mem _
            have hb0 := HOP.out _ hxm
            have hb2 := HP2.out _ hxm
            obtain ⟨⟨x0, x1, x2⟩, hx⟩ : ∃ x, x = ops.getD j z37 := ⟨_, rfl⟩
            rw [← hx] at c0 c1' c2 hb0 hb2
            dsimp only at c0 c1' c2 hb0 hb2
            clear hx hxm
            obtain ⟨b0, b1⟩ := hb0
            obtain ⟨b4, b5⟩ := hb2
            have HN2 : Hid (Rows S W (rowsM S W rows x0 x1 x2) ∧ Top 1000 (rowsM S W rows x0 x1 x2) ∧ Desc S (uDo S W f x0 x1) (rowsM S W rows x0 x1 x2)) :=
              ⟨rows_do gs gw HD.out.1 _ _ _, top_do gs gw HD.out.2.1 b1 (by omega) _, desc_do gs gw HD.out.1 hst.2 HD.out.2.2 _ _ _⟩
            have hkt := lineM_top (lo := x0) (hi := x1) (pk := x2) b1 (by omega)
            have hone : x0 = x1 → 0 ≤ lineM x0 x1 x2 → lineM x0 x1 x2 = x0 := fun e h => by
              subst e
              by_cases c : x0 < max x0 0
              · rw [lineM_neg c] at h; omega
              · have := lineM_pos (lo := x0) (hi := x0) (pk := x2) (by omega); omega
            have hrows : rowsM S W rows x0 x1 x2 = if lineM x0 x1 x2 < 0 then rows else cAcc S W rows (lineM x0 x1 x2) := rfl
            obtain ⟨k, hk⟩ : ∃ k, lineM x0 x1 x2 = k := ⟨_, rfl⟩
            rw [hk] at hkt hone hrows
            have ko : Blk (wr.alloc (.cells #[.int .i64 x0, .int .i64 x1, .int .u8 x2] 37)) wr.heap.size (.cells #[.int .i64 x0, .int .i64 x1, .int .u8 x2] 37) := Blk.new rfl
            by_cases hk0 : k < 0
            · rw [if_pos hk0] at hrows
              rw [hrows] at HN2
              clear hrows hone hkt
              go_wp2_with (first
                | (go_at_call 20; refine Calls.mono (do_mb g x0 x1 x2 (by omega) px j f _ (hst.ext (by repeat (first | ((with_reducible refine Ext.set1 ?_ ?_); (first | (focus (simp; done)) | (focus (simp; omega)) | (focus omega))) | (with_reducible refine Ext.alloc ?_ _) | (with_reducible exact Ext.refl _) | (refine Ext.trans ?_ (by with_reducible assumption))))) (by omega)) ?_; rintro e w20 ⟨p20, rfl, h20, hb20⟩; have m9 : Blk w20 w5.heap.size (mustO S W L px) := (by exact (by repeat (first | (with_reducible assumption) | ((with_reducible refine Blk.new ?_); (first | (focus rfl) | (focus (simp; done)) | (focus omega))) | (with_reducible apply Blk.put4) | (with_reducible apply Blk.put1) | ((with_reducible refine Blk.far4 ?_ ?_); (focus omega)) | ((with_reducible refine Blk.set1 ?_ ?_); (focus omega)) | (with_reducible refine Blk.alloc ?_) | (with_reducible refine Blk.drew ?_) | (refine Blk.ext ?_ (by with_reducible assumption))))); have mc : Blk w20 w.heap.size (.cells #[.int .i64 S, .int .i64 W, .int .i64 L] 23) := (by exact (by repeat (first | (with_reducible assumption) | ((with_reducible refine Blk.new ?_); (first | (focus rfl) | (focus (simp; done)) | (focus omega))) | (with_reducible apply Blk.put4) | (with_reducible apply Blk.put1) | ((with_reducible refine Blk.far4 ?_ ?_); (focus omega)) | ((with_reducible refine Blk.set1 ?_ ?_); (focus omega)) | (with_reducible refine Blk.alloc ?_) | (with_reducible refine Blk.drew ?_) | (refine Blk.ext ?_ (by with_reducible assumption))))); have hX20 : Ext wr w20 := (by exact (by repeat (first | ((with_reducible refine Ext.set1 ?_ ?_); (first | (focus (simp; done)) | (focus (simp; omega)) | (focus omega))) | (with_reducible refine Ext.alloc ?_ _) | (with_reducible exact Ext.refl _) | (refine Ext.trans ?_ (by with_reducible assumption))))); obtain ⟨t0, t1, t2, t3⟩ := m9.c4; obtain ⟨r0, r1, r2, r3⟩ := m9.f4; have v9 := Blk.put4 (a' := .int .i64 S) (b' := .int .i64 W) (c' := .int .i64 L) (d' := .map p20) m9; have vc := Blk.far4 (a := .int .i64 S) (b := .int .i64 W) (c := .int .i64 L) (d := .map p20) (show w.heap.size ≠ w5.heap.size by omega) mc; have vst := MB.set4 (g := w5.heap.size) (a := .int .i64 S) (b := .int .i64 W) (c := .int .i64 L) (d := .map p20) h20; have vext := Ext.set4 (a := .int .i64 S) (b := .int .i64 W) (c := .int .i64 L) (d := .map p20) (show w.heap.size ≤ w5.heap.size by omega) (hext.trans hX20); obtain ⟨s0, s1, s2⟩ := vc.c3; obtain ⟨n0, n1, n2, n3⟩ := v9.c4)
                | (go_at_call 15; refine Calls.mono (op_line x0 x1 x2 b1 b4 b5 _) ?_; rw [hk]; rintro e w11 ⟨rfl, hb11⟩; have hz11 := hb11.size; simp at hz11; have q11 : wr.heap.size < w11.heap.size := (by omega); obtain ⟨t0, t1, t2, t3⟩ := Blk.c4 (w := w11) (B := w5.heap.size) (by repeat (first | (with_reducible assumption) | ((with_reducible refine Blk.new ?_); (first | (focus rfl) | (focus (simp; done)) | (focus omega))) | (with_reducible apply Blk.put4) | (with_reducible apply Blk.put1) | ((with_reducible refine Blk.far4 ?_ ?_); (focus omega)) | ((with_reducible refine Blk.set1 ?_ ?_); (focus omega)) | (with_reducible refine Blk.alloc ?_) | (with_reducible refine Blk.drew ?_) | (refine Blk.ext ?_ (by with_reducible assumption)))); obtain ⟨r0, r1, r2⟩ := Blk.c3 (w := w11) (B := wr.heap.size) (by repeat (first | (with_reducible assumption) | ((with_reducible refine Blk.new ?_); (first | (focus rfl) | (focus (simp; done)) | (focus omega))) | (with_reducible apply Blk.put4) | (with_reducible apply Blk.put1) | ((with_reducible refine Blk.far4 ?_ ?_); (focus omega)) | ((with_reducible refine Blk.set1 ?_ ?_); (focus omega)) | (with_reducible refine Blk.alloc ?_) | (with_reducible refine Blk.drew ?_) | (refine Blk.ext ?_ (by with_reducible assumption))))))
              have vca := (hca.ext hX20).set4 (a' := .int .i64 S) (b' := .int .i64 W) (c' := .int .i64 L) (d' := .map p20) m9
              obtain ⟨wS, hwS⟩ : ∃ wS, wS = (((w20.setCell ⟨w5.heap.size, 0, none⟩ (.int .i64 S)).setCell ⟨w5.heap.size, 1, none⟩ (.int .i64 W)).setCell ⟨w5.heap.size, 2, none⟩ (.int .i64 L)).setCell ⟨w5.heap.size, 3, none⟩ (.map p20) := ⟨_, rfl⟩
              rw [← hwS] at v9 vc vst vext vca n0 n1 n2 n3 ⊢
              clear hwS t0 t1 t2 t3 r0 r1 r2 r3 s0 s1 s2
              have hlen := HN2.out.1.len
              go_region_with (first
                | (have gq := hb31; clear gq; go_at_call 18; refine Calls.mono (must_descr g p20 (j + 1) _ _ _ _ _ (vst.ext hb31) (hrs.C rfl (by omega) (fun _ _ => rfl))) ?_; intro e w32 hh; obtain ⟨rfl, hb32⟩ := hh.yes HN2.out.2.2)
                | (go_at_call 19; refine Calls.mono (cache_lines g (vca.ext (Ext.drew (Ext.refl _))) HN2.out.1) ?_; rintro e w31 ⟨g31, vs31, rfl, hrs, hb31'⟩; have hb31 : Ext wS w31 := (Ext.drew (Ext.refl _)).trans hb31'; clear hb31'; obtain ⟨u0, u1, u2, u3⟩ := (v9.ext hb31).c4))
              all_goals
                go_wp2
                have hE := hb31.trans hb32
                refine ⟨⟨j + 1, p20, _, F, _, by go_num, by omega, ⟨v9.ext hE, vc.ext hE, vst.ext hE, vca.ext hE, vext.trans hE⟩, HN2⟩, ?_⟩
                simp [Go.RowKit.intOf]
                omega
            · rw [if_neg hk0] at hrows
              rw [hrows] at HN2
              clear hrows
              obtain ⟨hX1, hX2, hX3⟩ := mul_fits (n := k) (by omega) (by omega) gl1 gl16
              obtain ⟨X, hX⟩ : ∃ X, k * L = X := ⟨_, rfl⟩
              rw [hX] at hX1 hX2 hX3
              by_cases hlh : x0 = x1
              · obtain rfl : k = x0 := hone hlh (by omega)
                subst hlh
                clear hone
                have hlh2 : (k == k) = true := by simp
                cases hfk : f k with
                | none =>
                  have HFK := Lib.hid hfk
                  clear hfk
                  go_wp2_with (first
                    | (go_at_call 16; refine Calls.mono (cache_access (base := w.heap.size) g ((hca.ext hX20).set4 m9) HD.out.1 X hX1 hX2 (by have := (hext.trans hX20).size; simpa using this)) ?_; rw [hX3]; rintro e w21 ⟨rfl, F21, hc21, hF21, hf21⟩; have c9 := ((hca.ext hX20).set4 m9).keep hf21 v9 (by decide) (by decide); have cc := ((hca.ext hX20).set4 m9).keep hf21 vc (by decide) (by decide); have cst := vst.keep ((hca.ext hX20).set4 m9) hf21; have cext := vext.fr hf21 hca.fromB; obtain ⟨t0, t1, t2, t3⟩ := c9.c4)
                    | (go_at_call 20; refine Calls.mono (do_mb g k k x2 (by omega) px j f _ (hst.ext (by repeat (first | ((with_reducible refine Ext.set1 ?_ ?_); (first | (focus (simp; done)) | (focus (simp; omega)) | (focus omega))) | (with_reducible refine Ext.alloc ?_ _) | (with_reducible exact Ext.refl _) | (refine Ext.trans ?_ (by with_reducible assumption))))) (by omega)) ?_; rintro e w20 ⟨p20, rfl, h20, hb20⟩; have m9 : Blk w20 w5.heap.size (mustO S W L px) := (by exact (by repeat (first | (with_reducible assumption) | ((with_reducible refine Blk.new ?_); (first | (focus rfl) | (focus (simp; done)) | (focus omega))) | (with_reducible apply Blk.put4) | (with_reducible apply Blk.put1) | ((with_reducible refine Blk.far4 ?_ ?_); (focus omega)) | ((with_reducible refine Blk.set1 ?_ ?_); (focus omega)) | (with_reducible refine Blk.alloc ?_) | (with_reducible refine Blk.drew ?_) | (refine Blk.ext ?_ (by with_reducible assumption))))); have mc : Blk w20 w.heap.size (.cells #[.int .i64 S, .int .i64 W, .int .i64 L] 23) := (by exact (by repeat (first | (with_reducible assumption) | ((with_reducible refine Blk.new ?_); (first | (focus rfl) | (focus (simp; done)) | (focus omega))) | (with_reducible apply Blk.put4) | (with_reducible apply Blk.put1) | ((with_reducible refine Blk.far4 ?_ ?_); (focus omega)) | ((with_reducible refine Blk.set1 ?_ ?_); (focus omega)) | (with_reducible refine Blk.alloc ?_) | (with_reducible refine Blk.drew ?_) | (refine Blk.ext ?_ (by with_reducible assumption))))); have hX20 : Ext wr w20 := (by exact (by repeat (first | ((with_reducible refine Ext.set1 ?_ ?_); (first | (focus (simp; done)) | (focus (simp; omega)) | (focus omega))) | (with_reducible refine Ext.alloc ?_ _) | (with_reducible exact Ext.refl _) | (refine Ext.trans ?_ (by with_reducible assumption))))); obtain ⟨t0, t1, t2, t3⟩ := m9.c4; obtain ⟨r0, r1, r2, r3⟩ := m9.f4; have v9 := Blk.put4 (a' := .int .i64 S) (b' := .int .i64 W) (c' := .int .i64 L) (d' := .map p20) m9; have vc := Blk.far4 (a := .int .i64 S) (b := .int .i64 W) (c := .int .i64 L) (d := .map p20) (show w.heap.size ≠ w5.heap.size by omega) mc; have vst := MB.set4 (g := w5.heap.size) (a := .int .i64 S) (b := .int .i64 W) (c := .int .i64 L) (d := .map p20) h20; have vext := Ext.set4 (a := .int .i64 S) (b := .int .i64 W) (c := .int .i64 L) (d := .map p20) (show w.heap.size ≤ w5.heap.size by omega) (hext.trans hX20); obtain ⟨s0, s1, s2⟩ := vc.c3; obtain ⟨n0, n1, n2, n3⟩ := v9.c4)
                    | (go_at_call 25; refine Calls.mono (age_mb k px j f _ (hst.ext (by repeat (first | ((with_reducible refine Ext.set1 ?_ ?_); (first | (focus (simp; done)) | (focus (simp; omega)) | (focus omega))) | (with_reducible refine Ext.alloc ?_ _) | (with_reducible exact Ext.refl _) | (refine Ext.trans ?_ (by with_reducible assumption))))) (.of (by omega) (by omega)) 0 false (by rw [HFK.out]; rfl) (by rw [HFK.out]; rfl)) ?_; rintro e w12 ⟨rfl, hb12⟩; have hz12 := hb12.size; obtain ⟨t0, t1, t2, t3⟩ := Blk.c4 (w := w12) (B := w5.heap.size) (by repeat (first | (with_reducible assumption) | ((with_reducible refine Blk.new ?_); (first | (focus rfl) | (focus (simp; done)) | (focus omega))) | (with_reducible apply Blk.put4) | (with_reducible apply Blk.put1) | ((with_reducible refine Blk.far4 ?_ ?_); (focus omega)) | ((with_reducible refine Blk.set1 ?_ ?_); (focus omega)) | (with_reducible refine Blk.alloc ?_) | (with_reducible refine Blk.drew ?_) | (refine Blk.ext ?_ (by with_reducible assumption)))); obtain ⟨r0, r1, r2⟩ := Blk.c3 (w := w12) (B := wr.heap.size) (by repeat (first | (with_reducible assumption) | ((with_reducible refine Blk.new ?_); (first | (focus rfl) | (focus (simp; done)) | (focus omega))) | (with_reducible apply Blk.put4) | (with_reducible apply Blk.put1) | ((with_reducible refine Blk.far4 ?_ ?_); (focus omega)) | ((with_reducible refine Blk.set1 ?_ ?_); (focus omega)) | (with_reducible refine Blk.alloc ?_) | (with_reducible refine Blk.drew ?_) | (refine Blk.ext ?_ (by with_reducible assumption)))); obtain ⟨s0, s1, s2⟩ := Blk.c3 (w := w12) (B := w.heap.size) (by repeat (first | (with_reducible assumption) | ((with_reducible refine Blk.new ?_); (first | (focus rfl) | (focus (simp; done)) | (focus omega))) | (with_reducible apply Blk.put4) | (with_reducible apply Blk.put1) | ((with_reducible refine Blk.far4 ?_ ?_); (focus omega)) | ((with_reducible refine Blk.set1 ?_ ?_); (focus omega)) | (with_reducible refine Blk.alloc ?_) | (with_reducible refine Blk.drew ?_) | (refine Blk.ext ?_ (by with_reducible assumption)))))
                    | (go_at_call 15; refine Calls.mono (op_line k k x2 b1 b4 b5 _) ?_; rw [hk]; rintro e w11 ⟨rfl, hb11⟩; have hz11 := hb11.size; simp at hz11; have q11 : wr.heap.size < w11.heap.size := (by omega); obtain ⟨t0, t1, t2, t3⟩ := Blk.c4 (w := w11) (B := w5.heap.size) (by repeat (first | (with_reducible assumption) | ((with_reducible refine Blk.new ?_); (first | (focus rfl) | (focus (simp; done)) | (focus omega))) | (with_reducible apply Blk.put4) | (with_reducible apply Blk.put1) | ((with_reducible refine Blk.far4 ?_ ?_); (focus omega)) | ((with_reducible refine Blk.set1 ?_ ?_); (focus omega)) | (with_reducible refine Blk.alloc ?_) | (with_reducible refine Blk.drew ?_) | (refine Blk.ext ?_ (by with_reducible assumption)))); obtain ⟨r0, r1, r2⟩ := Blk.c3 (w := w11) (B := wr.heap.size) (by repeat (first | (with_reducible assumption) | ((with_reducible refine Blk.new ?_); (first | (focus rfl) | (focus (simp; done)) | (focus omega))) | (with_reducible apply Blk.put4) | (with_reducible apply Blk.put1) | ((with_reducible refine Blk.far4 ?_ ?_); (focus omega)) | ((with_reducible refine Blk.set1 ?_ ?_); (focus omega)) | (with_reducible refine Blk.alloc ?_) | (with_reducible refine Blk.drew ?_) | (refine Blk.ext ?_ (by with_reducible assumption))))))
                  have hlen := HN2.out.1.len
                  go_region_with (first
                    | (have gq := hb31; clear gq; go_at_call 18; refine Calls.mono (must_descr g p20 (j + 1) _ _ _ _ _ (cst.ext hb31) (hrs.C rfl (by omega) (fun _ _ => rfl))) ?_; intro e w32 hh; obtain ⟨rfl, hb32⟩ := hh.yes HN2.out.2.2)
                    | (go_at_call 19; refine Calls.mono (cache_lines g (hc21.ext (Ext.drew (Ext.refl _))) HN2.out.1) ?_; rintro e w31 ⟨g31, vs31, rfl, hrs, hb31'⟩; have hb31 : Ext w21 w31 := (Ext.drew (Ext.refl _)).trans hb31'; clear hb31'; obtain ⟨u0, u1, u2, u3⟩ := (c9.ext hb31).c4))
                  all_goals
                    go_wp2
                    have hE := hb31.trans hb32
                    refine ⟨⟨j + 1, p20, _, F21, _, by go_num, by omega, ⟨c9.ext hE, cc.ext hE, cst.ext hE, hc21.ext hE, cext.trans hE⟩, HN2⟩, ?_⟩
                    simp [Go.RowKit.intOf]
                    omega
                | some a =>
                  have HFK := Lib.hid hfk
                  have HPR : Hid (0 ≤ cAge S rows k) := (cage_ok (HD.out.2.2.2 k a hfk)).1
                  clear hfk
                  go_wp2_with (first
                    | (go_at_call 16; refine Calls.mono (cache_access (base := w.heap.size) g ((hca.ext hX20).set4 m9) HD.out.1 X hX1 hX2 (by have := (hext.trans hX20).size; simpa using this)) ?_; rw [hX3]; rintro e w21 ⟨rfl, F21, hc21, hF21, hf21⟩; have c9 := ((hca.ext hX20).set4 m9).keep hf21 v9 (by decide) (by decide); have cc := ((hca.ext hX20).set4 m9).keep hf21 vc (by decide) (by decide); have cst := vst.keep ((hca.ext hX20).set4 m9) hf21; have cext := vext.fr hf21 hca.fromB; obtain ⟨t0, t1, t2, t3⟩ := c9.c4)
                    | (go_at_call 20; refine Calls.mono (do_mb g k k x2 (by omega) px j f _ (hst.ext (by repeat (first | ((with_reducible refine Ext.set1 ?_ ?_); (first | (focus (simp; done)) | (focus (simp; omega)) | (focus omega))) | (with_reducible refine Ext.alloc ?_ _) | (with_reducible exact Ext.refl _) | (refine Ext.trans ?_ (by with_reducible assumption))))) (by omega)) ?_; rintro e w20 ⟨p20, rfl, h20, hb20⟩; have m9 : Blk w20 w5.heap.size (mustO S W L px) := (by exact (by repeat (first | (with_reducible assumption) | ((with_reducible refine Blk.new ?_); (first | (focus rfl) | (focus (simp; done)) | (focus omega))) | (with_reducible apply Blk.put4) | (with_reducible apply Blk.put1) | ((with_reducible refine Blk.far4 ?_ ?_); (focus omega)) | ((with_reducible refine Blk.set1 ?_ ?_); (focus omega)) | (with_reducible refine Blk.alloc ?_) | (with_reducible refine Blk.drew ?_) | (refine Blk.ext ?_ (by with_reducible assumption))))); have mc : Blk w20 w.heap.size (.cells #[.int .i64 S, .int .i64 W, .int .i64 L] 23) := (by exact (by repeat (first | (with_reducible assumption) | ((with_reducible refine Blk.new ?_); (first | (focus rfl) | (focus (simp; done)) | (focus omega))) | (with_reducible apply Blk.put4) | (with_reducible apply Blk.put1) | ((with_reducible refine Blk.far4 ?_ ?_); (focus omega)) | ((with_reducible refine Blk.set1 ?_ ?_); (focus omega)) | (with_reducible refine Blk.alloc ?_) | (with_reducible refine Blk.drew ?_) | (refine Blk.ext ?_ (by with_reducible assumption))))); have hX20 : Ext wr w20 := (by exact (by repeat (first | ((with_reducible refine Ext.set1 ?_ ?_); (first | (focus (simp; done)) | (focus (simp; omega)) | (focus omega))) | (with_reducible refine Ext.alloc ?_ _) | (with_reducible exact Ext.refl _) | (refine Ext.trans ?_ (by with_reducible assumption))))); obtain ⟨t0, t1, t2, t3⟩ := m9.c4; obtain ⟨r0, r1, r2, r3⟩ := m9.f4; have v9 := Blk.put4 (a' := .int .i64 S) (b' := .int .i64 W) (c' := .int .i64 L) (d' := .map p20) m9; have vc := Blk.far4 (a := .int .i64 S) (b := .int .i64 W) (c := .int .i64 L) (d := .map p20) (show w.heap.size ≠ w5.heap.size by omega) mc; have vst := MB.set4 (g := w5.heap.size) (a := .int .i64 S) (b := .int .i64 W) (c := .int .i64 L) (d := .map p20) h20; have vext := Ext.set4 (a := .int .i64 S) (b := .int .i64 W) (c := .int .i64 L) (d := .map p20) (show w.heap.size ≤ w5.heap.size by omega) (hext.trans hX20); obtain ⟨s0, s1, s2⟩ := vc.c3; obtain ⟨n0, n1, n2, n3⟩ := v9.c4)
                    | (go_at_call 35; refine Calls.mono (cache_probe g (hca.ext (by repeat (first | ((with_reducible refine Ext.set1 ?_ ?_); (first | (focus (simp; done)) | (focus (simp; omega)) | (focus omega))) | (with_reducible refine Ext.alloc ?_ _) | (with_reducible exact Ext.refl _) | (refine Ext.trans ?_ (by with_reducible assumption))))) HD.out.1 X hX1 hX2) ?_; rw [hX3, decide_eq_true HPR.out]; rintro e w13 ⟨rfl, hb13⟩; obtain ⟨t0, t1, t2, t3⟩ := Blk.c4 (w := w13) (B := w5.heap.size) (by repeat (first | (with_reducible assumption) | ((with_reducible refine Blk.new ?_); (first | (focus rfl) | (focus (simp; done)) | (focus omega))) | (with_reducible apply Blk.put4) | (with_reducible apply Blk.put1) | ((with_reducible refine Blk.far4 ?_ ?_); (focus omega)) | ((with_reducible refine Blk.set1 ?_ ?_); (focus omega)) | (with_reducible refine Blk.alloc ?_) | (with_reducible refine Blk.drew ?_) | (refine Blk.ext ?_ (by with_reducible assumption)))); obtain ⟨r0, r1, r2⟩ := Blk.c3 (w := w13) (B := wr.heap.size) (by repeat (first | (with_reducible assumption) | ((with_reducible refine Blk.new ?_); (first | (focus rfl) | (focus (simp; done)) | (focus omega))) | (with_reducible apply Blk.put4) | (with_reducible apply Blk.put1) | ((with_reducible refine Blk.far4 ?_ ?_); (focus omega)) | ((with_reducible refine Blk.set1 ?_ ?_); (focus omega)) | (with_reducible refine Blk.alloc ?_) | (with_reducible refine Blk.drew ?_) | (refine Blk.ext ?_ (by with_reducible assumption)))))
                    | (go_at_call 25; refine Calls.mono (age_mb k px j f _ (hst.ext (by repeat (first | ((with_reducible refine Ext.set1 ?_ ?_); (first | (focus (simp; done)) | (focus (simp; omega)) | (focus omega))) | (with_reducible refine Ext.alloc ?_ _) | (with_reducible exact Ext.refl _) | (refine Ext.trans ?_ (by with_reducible assumption))))) (.of (by omega) (by omega)) a true (by rw [HFK.out]; rfl) (by rw [HFK.out]; rfl)) ?_; rintro e w12 ⟨rfl, hb12⟩; have hz12 := hb12.size; obtain ⟨t0, t1, t2, t3⟩ := Blk.c4 (w := w12) (B := w5.heap.size) (by repeat (first | (with_reducible assumption) | ((with_reducible refine Blk.new ?_); (first | (focus rfl) | (focus (simp; done)) | (focus omega))) | (with_reducible apply Blk.put4) | (with_reducible apply Blk.put1) | ((with_reducible refine Blk.far4 ?_ ?_); (focus omega)) | ((with_reducible refine Blk.set1 ?_ ?_); (focus omega)) | (with_reducible refine Blk.alloc ?_) | (with_reducible refine Blk.drew ?_) | (refine Blk.ext ?_ (by with_reducible assumption)))); obtain ⟨r0, r1, r2⟩ := Blk.c3 (w := w12) (B := wr.heap.size) (by repeat (first | (with_reducible assumption) | ((with_reducible refine Blk.new ?_); (first | (focus rfl) | (focus (simp; done)) | (focus omega))) | (with_reducible apply Blk.put4) | (with_reducible apply Blk.put1) | ((with_reducible refine Blk.far4 ?_ ?_); (focus omega)) | ((with_reducible refine Blk.set1 ?_ ?_); (focus omega)) | (with_reducible refine Blk.alloc ?_) | (with_reducible refine Blk.drew ?_) | (refine Blk.ext ?_ (by with_reducible assumption)))); obtain ⟨s0, s1, s2⟩ := Blk.c3 (w := w12) (B := w.heap.size) (by repeat (first | (with_reducible assumption) | ((with_reducible refine Blk.new ?_); (first | (focus rfl) | (focus (simp; done)) | (focus omega))) | (with_reducible apply Blk.put4) | (with_reducible apply Blk.put1) | ((with_reducible refine Blk.far4 ?_ ?_); (focus omega)) | ((with_reducible refine Blk.set1 ?_ ?_); (focus omega)) | (with_reducible refine Blk.alloc ?_) | (with_reducible refine Blk.drew ?_) | (refine Blk.ext ?_ (by with_reducible assumption)))))
                    | (go_at_call 15; refine Calls.mono (op_line k k x2 b1 b4 b5 _) ?_; rw [hk]; rintro e w11 ⟨rfl, hb11⟩; have hz11 := hb11.size; simp at hz11; have q11 : wr.heap.size < w11.heap.size := (by omega); obtain ⟨t0, t1, t2, t3⟩ := Blk.c4 (w := w11) (B := w5.heap.size) (by repeat (first | (with_reducible assumption) | ((with_reducible refine Blk.new ?_); (first | (focus rfl) | (focus (simp; done)) | (focus omega))) | (with_reducible apply Blk.put4) | (with_reducible apply Blk.put1) | ((with_reducible refine Blk.far4 ?_ ?_); (focus omega)) | ((with_reducible refine Blk.set1 ?_ ?_); (focus omega)) | (with_reducible refine Blk.alloc ?_) | (with_reducible refine Blk.drew ?_) | (refine Blk.ext ?_ (by with_reducible assumption)))); obtain ⟨r0, r1, r2⟩ := Blk.c3 (w := w11) (B := wr.heap.size) (by repeat (first | (with_reducible assumption) | ((with_reducible refine Blk.new ?_); (first | (focus rfl) | (focus (simp; done)) | (focus omega))) | (with_reducible apply Blk.put4) | (with_reducible apply Blk.put1) | ((with_reducible refine Blk.far4 ?_ ?_); (focus omega)) | ((with_reducible refine Blk.set1 ?_ ?_); (focus omega)) | (with_reducible refine Blk.alloc ?_) | (with_reducible refine Blk.drew ?_) | (refine Blk.ext ?_ (by with_reducible assumption))))))
                  have hlen := HN2.out.1.len
                  go_region_with (first
                    | (have gq := hb31; clear gq; go_at_call 18; refine Calls.mono (must_descr g p20 (j + 1) _ _ _ _ _ (cst.ext hb31) (hrs.C rfl (by omega) (fun _ _ => rfl))) ?_; intro e w32 hh; obtain ⟨rfl, hb32⟩ := hh.yes HN2.out.2.2)
                    | (go_at_call 19; refine Calls.mono (cache_lines g (hc21.ext (Ext.drew (Ext.refl _))) HN2.out.1) ?_; rintro e w31 ⟨g31, vs31, rfl, hrs, hb31'⟩; have hb31 : Ext w21 w31 := (Ext.drew (Ext.refl _)).trans hb31'; clear hb31'; obtain ⟨u0, u1, u2, u3⟩ := (c9.ext hb31).c4))
                  all_goals
                    go_wp2
                    have hE := hb31.trans hb32
                    refine ⟨⟨j + 1, p20, _, F21, _, by go_num, by omega, ⟨c9.ext hE, cc.ext hE, cst.ext hE, hc21.ext hE, cext.trans hE⟩, HN2⟩, ?_⟩
                    simp [Go.RowKit.intOf]
                    omega
              · have hlh2 : (x0 == x1) = false := by simpa using hlh
                clear hone
                go_wp2_with (first
                  | (go_at_call 16; refine Calls.mono (cache_access (base := w.heap.size) g ((hca.ext hX20).set4 m9) HD.out.1 X hX1 hX2 (by have := (hext.trans hX20).size; simpa using this)) ?_; rw [hX3]; rintro e w21 ⟨rfl, F21, hc21, hF21, hf21⟩; have c9 := ((hca.ext hX20).set4 m9).keep hf21 v9 (by decide) (by decide); have cc := ((hca.ext hX20).set4 m9).keep hf21 vc (by decide) (by decide); have cst := vst.keep ((hca.ext hX20).set4 m9) hf21; have cext := vext.fr hf21 hca.fromB; obtain ⟨t0, t1, t2, t3⟩ := c9.c4)
                  | (go_at_call 20; refine Calls.mono (do_mb g x0 x1 x2 (by omega) px j f _ (hst.ext (by repeat (first | ((with_reducible refine Ext.set1 ?_ ?_); (first | (focus (simp; done)) | (focus (simp; omega)) | (focus omega))) | (with_reducible refine Ext.alloc ?_ _) | (with_reducible exact Ext.refl _) | (refine Ext.trans ?_ (by with_reducible assumption))))) (by omega)) ?_; rintro e w20 ⟨p20, rfl, h20, hb20⟩; have m9 : Blk w20 w5.heap.size (mustO S W L px) := (by exact (by repeat (first | (with_reducible assumption) | ((with_reducible refine Blk.new ?_); (first | (focus rfl) | (focus (simp; done)) | (focus omega))) | (with_reducible apply Blk.put4) | (with_reducible apply Blk.put1) | ((with_reducible refine Blk.far4 ?_ ?_); (focus omega)) | ((with_reducible refine Blk.set1 ?_ ?_); (focus omega)) | (with_reducible refine Blk.alloc ?_) | (with_reducible refine Blk.drew ?_) | (refine Blk.ext ?_ (by with_reducible assumption))))); have mc : Blk w20 w.heap.size (.cells #[.int .i64 S, .int .i64 W, .int .i64 L] 23) := (by exact (by repeat (first | (with_reducible assumption) | ((with_reducible refine Blk.new ?_); (first | (focus rfl) | (focus (simp; done)) | (focus omega))) | (with_reducible apply Blk.put4) | (with_reducible apply Blk.put1) | ((with_reducible refine Blk.far4 ?_ ?_); (focus omega)) | ((with_reducible refine Blk.set1 ?_ ?_); (focus omega)) | (with_reducible refine Blk.alloc ?_) | (with_reducible refine Blk.drew ?_) | (refine Blk.ext ?_ (by with_reducible assumption))))); have hX20 : Ext wr w20 := (by exact (by repeat (first | ((with_reducible refine Ext.set1 ?_ ?_); (first | (focus (simp; done)) | (focus (simp; omega)) | (focus omega))) | (with_reducible refine Ext.alloc ?_ _) | (with_reducible exact Ext.refl _) | (refine Ext.trans ?_ (by with_reducible assumption))))); obtain ⟨t0, t1, t2, t3⟩ := m9.c4; obtain ⟨r0, r1, r2, r3⟩ := m9.f4; have v9 := Blk.put4 (a' := .int .i64 S) (b' := .int .i64 W) (c' := .int .i64 L) (d' := .map p20) m9; have vc := Blk.far4 (a := .int .i64 S) (b := .int .i64 W) (c := .int .i64 L) (d := .map p20) (show w.heap.size ≠ w5.heap.size by omega) mc; have vst := MB.set4 (g := w5.heap.size) (a := .int .i64 S) (b := .int .i64 W) (c := .int .i64 L) (d := .map p20) h20; have vext := Ext.set4 (a := .int .i64 S) (b := .int .i64 W) (c := .int .i64 L) (d := .map p20) (show w.heap.size ≤ w5.heap.size by omega) (hext.trans hX20); obtain ⟨s0, s1, s2⟩ := vc.c3; obtain ⟨n0, n1, n2, n3⟩ := v9.c4)
                  | (go_at_call 15; refine Calls.mono (op_line x0 x1 x2 b1 b4 b5 _) ?_; rw [hk]; rintro e w11 ⟨rfl, hb11⟩; have hz11 := hb11.size; simp at hz11; have q11 : wr.heap.size < w11.heap.size := (by omega); obtain ⟨t0, t1, t2, t3⟩ := Blk.c4 (w := w11) (B := w5.heap.size) (by repeat (first | (with_reducible assumption) | ((with_reducible refine Blk.new ?_); (first | (focus rfl) | (focus (simp; done)) | (focus omega))) | (with_reducible apply Blk.put4) | (with_reducible apply Blk.put1) | ((with_reducible refine Blk.far4 ?_ ?_); (focus omega)) | ((with_reducible refine Blk.set1 ?_ ?_); (focus omega)) | (with_reducible refine Blk.alloc ?_) | (with_reducible refine Blk.drew ?_) | (refine Blk.ext ?_ (by with_reducible assumption)))); obtain ⟨r0, r1, r2⟩ := Blk.c3 (w := w11) (B := wr.heap.size) (by repeat (first | (with_reducible assumption) | ((with_reducible refine Blk.new ?_); (first | (focus rfl) | (focus (simp; done)) | (focus omega))) | (with_reducible apply Blk.put4) | (with_reducible apply Blk.put1) | ((with_reducible refine Blk.far4 ?_ ?_); (focus omega)) | ((with_reducible refine Blk.set1 ?_ ?_); (focus omega)) | (with_reducible refine Blk.alloc ?_) | (with_reducible refine Blk.drew ?_) | (refine Blk.ext ?_ (by with_reducible assumption))))))
                have hlen := HN2.out.1.len
                go_region_with (first
                  | (have gq := hb31; clear gq; go_at_call 18; refine Calls.mono (must_descr g p20 (j + 1) _ _ _ _ _ (cst.ext hb31) (hrs.C rfl (by omega) (fun _ _ => rfl))) ?_; intro e w32 hh; obtain ⟨rfl, hb32⟩ := hh.yes HN2.out.2.2)
                  | (go_at_call 19; refine Calls.mono (cache_lines g (hc21.ext (Ext.drew (Ext.refl _))) HN2.out.1) ?_; rintro e w31 ⟨g31, vs31, rfl, hrs, hb31'⟩; have hb31 : Ext w21 w31 := (Ext.drew (Ext.refl _)).trans hb31'; clear hb31'; obtain ⟨u0, u1, u2, u3⟩ := (c9.ext hb31).c4))
                all_goals
                  go_wp2
                  have hE := hb31.trans hb32
                  refine ⟨⟨j + 1, p20, _, F21, _, by go_num, by omega, ⟨c9.ext hE, cc.ext hE, cst.ext hE, hc21.ext hE, cext.trans hE⟩, HN2⟩, ?_⟩
                  simp [Go.RowKit.intOf]
                  omega
          · obtain rfl : j = n2 := by omega
            obtain ⟨t0, t1, t2, t3⟩ := k9.c4
            go_wp2_with (first
              | (go_at_call 28; refine Calls.mono (must_lines S W L px _ f _ hst.1 (by omega)) ?_; rintro e w40 ⟨v40, K, ⟨rfl, hdom, hkl⟩, hh, hb40⟩; obtain ⟨A40, c40, rfl, hc40, hmx40, hK⟩ := hh.C; have HDOM := Lib.hid hdom; clear hdom hh))
            obtain ⟨kl, hkl'⟩ : ∃ kl, K.length = kl := ⟨_, rfl⟩
            rw [hkl'] at hc40 hK hkl ⊢
            have HKL := Lib.hid hkl'
            clear hkl' t0 t1 t2 t3
            have z9 := k9.ext hb40
            have zc := kc.ext hb40
            have zca := hca.ext hb40
            have zst := hst.ext hb40
            have zext := hext.trans hb40
            have hz9 := z9.lt
            have hzc := zc.lt
            clear k9 kc hst hca hext
            obtain ⟨wp2, hwp2⟩ : ∃ wp, wp = wr := ⟨wr, rfl⟩
            subst hwp2
            go_loopw [114] (fun i wz => ∃ k : Nat, i = .int .i64 k ∧ k ≤ kl ∧ Ext w40 wz) (fun i _ => kl - (Go.RowKit.intOf i).toNat)
            case atStart => exact ⟨0, rfl, Nat.zero_le _, Ext.refl _⟩
            case round =>
              obtain ⟨k, rfl, hk, hek⟩ := hrel
              by_cases hkk : k < kl
              · obtain ⟨ad, rfl, hcell⟩ := at_num (C_ext hK hek) k hkk
                have hym : K.getD k 0 ∈ K := by rw [List.getD_eq_getElem?_getD, List.getElem?_eq_getElem (by rw [HKL.out]; exact hkk)]; exact List.getElem_mem _
                obtain ⟨a, hfy⟩ := Option.isSome_iff_exists.1 ((HDOM.out.2 _).1 hym)
                obtain ⟨y, hy⟩ : ∃ y, K.getD k 0 = y := ⟨_, rfl⟩
                rw [hy] at hcell hfy
                have hhas := HD.out.2.2.2 y a hfy
                have hy0 := (zst.2 y a hfy).1
                have hy1 := HD.out.2.1 _ _ (has_mem hhas)
                obtain ⟨ha0, ha1⟩ := cage_ok hhas
                obtain ⟨ag, hag⟩ : ∃ ag, cAge S rows y = ag := ⟨_, rfl⟩
                have HAG := Lib.hid hag
                rw [hag] at ha0 ha1
                have HFY := Lib.hid hfy
                obtain ⟨hX1, hX2, hX3⟩ := mul_fits (n := y) hy0 (by omega) gl1 gl16
                obtain ⟨X, hX⟩ : ∃ X, y * L = X := ⟨_, rfl⟩
                rw [hX] at hX1 hX2 hX3
                clear hag hhas hfy hy hym
                have y9 := z9.ext hek
                have yc := zc.ext hek
                have yca := zca.ext hek
                obtain ⟨t0, t1, t2, t3⟩ := y9.c4
                go_wp2_with (first
                  | (have gq := hb43; clear gq; go_at_call 36; refine Calls.mono (cache_age g (yca.ext ((hb41.trans hb42).trans hb43)) HD.out.1 y hy0) ?_; rw [HAG.out]; rintro e w44 ⟨rfl, hb44⟩)
                  | (go_at_call 36; refine Calls.mono (cache_age g (yca.ext (hb41.trans hb42)) HD.out.1 y hy0) ?_; rw [HAG.out]; rintro e w43 ⟨rfl, hb43⟩)
                  | (go_at_call 35; refine Calls.mono (cache_probe g (yca.ext hb41) HD.out.1 X hX1 hX2) ?_; rw [hX3, HAG.out, decide_eq_true ha0]; rintro e w42 ⟨rfl, hb42⟩)
                  | (go_at_call 25; refine Calls.mono (age_mb y px _ f _ (zst.ext hek) (.of (by omega) (by omega)) a true (by rw [HFY.out]; rfl) (by rw [HFY.out]; rfl)) ?_; rintro e w41 ⟨rfl, hb41⟩; obtain ⟨s0, s1, s2⟩ := (yc.ext hb41).c3))
                refine ⟨⟨k + 1, by go_num, by omega, hek.trans (((hb41.trans hb42).trans hb43).trans hb44)⟩, ?_⟩
                simp [Go.RowKit.intOf]
                omega
              · obtain rfl : k = kl := by omega
                go_wp2
                go_ret
                exact ⟨rfl, zext.trans hek⟩
end Go.Proofs.Ytaekkfgggmighaa
