/- The walk of ontimelaw30.MustMerges. -/
import Derived.Test.YtaekkfgggmighaaMuX
import Derived.Test.YtaekkfgggmighaaMuS
import Derived.Test.YtaekkfgggmighaaOpenM
import Derived.Deep.RegionHeld3
import Derived.Deep.DrawnRows
namespace Go.Proofs.Ytaekkfgggmighaa
open Go.RowKit Go.Maps Go.Proofs.YtaekkfgggmighaaW.PrintWords Go.Proofs.Ytaekkfgggmighaa.Pgreat
set_option linter.unusedVariables false
attribute [local go_sem ↓] Go.wp_at_zero Go.wp_at_succ

/-- Two caches apart. -/
structure CaT (w : World) (base q1 q2 : Nat) (S W L : Int) (F G : Nat → Prop) (rx ry : List (List Int)) : Prop where
  x : CaB w base q1 S W L F rx
  y : CaB w base q2 S W L G ry
  dis : ∀ k, F k → ¬ G k
  gq : ¬ G q1
  fq : ¬ F q2
section
variable {w w' : World} {base q1 q2 : Nat} {S W L : Int} {F G F' G' : Nat → Prop} {rx ry r' : List (List Int)}
theorem CaT.ext (h : CaT w base q1 q2 S W L F G rx ry) (e : Ext w w') : CaT w' base q1 q2 S W L F G rx ry := ⟨h.x.ext e, h.y.ext e, h.dis, h.gq, h.fq⟩
theorem CaT.set4 {B : Nat} {S' W' L' : Int} {p : Option Nat} {a' b' c' d' : Value} (h : CaT w base q1 q2 S W L F G rx ry) (hb : Blk w B (mustO S' W' L' p)) : CaT ((((w.setCell ⟨B, 0, none⟩ a').setCell ⟨B, 1, none⟩ b').setCell ⟨B, 2, none⟩ c').setCell ⟨B, 3, none⟩ d') base q1 q2 S W L F G rx ry :=
  ⟨h.x.set4 hb, h.y.set4 hb, h.dis, h.gq, h.fq⟩
theorem CaT.left (h : CaT w base q1 q2 S W L F G rx ry) (hc : CaB w' base q1 S W L F' r') (hF : ∀ k, F' k → F k ∨ w.heap.size ≤ k) (hf : Fr F w w') : CaT w' base q1 q2 S W L F' G r' ry :=
  ⟨hc, h.y.fr hf (fun k hk hk2 => h.dis k hk2 hk) h.fq, fun k hk hk2 => by
    rcases hF k hk with h1 | h1
    · exact h.dis k h1 hk2
    · have := h.y.lt k hk2; omega, h.gq, fun hk => by
    rcases hF _ hk with h1 | h1
    · exact h.fq h1
    · have := h.y.qlt; omega⟩
theorem CaT.right (h : CaT w base q1 q2 S W L F G rx ry) (hc : CaB w' base q2 S W L G' r') (hG : ∀ k, G' k → G k ∨ w.heap.size ≤ k) (hf : Fr G w w') : CaT w' base q1 q2 S W L F G' rx r' :=
  ⟨h.x.fr hf (fun k hk hk2 => h.dis k hk hk2) h.gq, hc, fun k hk hk2 => by
    rcases hG k hk2 with h1 | h1
    · exact h.dis k hk h1
    · have := h.x.lt k hk; omega, fun hk => by
    rcases hG _ hk with h1 | h1
    · exact h.gq h1
    · have := h.x.qlt; omega, h.fq⟩
end

set_option maxHeartbeats 1000000 in
theorem merges_no (S W L : Int) (A : Option Addr) (c : Nat) (a : List S37) (B : Option Addr) (d : Nat) (b : List S37) (C : Option Addr) (n e : Nat) (w : World) (hra : k37.C w A a.length a) (hca : a.length ≤ c) (hrb : k37.C w B b.length b) (hcb : b.length ≤ d) (hno : vldB S W L = false ∨ greatB a = true ∨ greatB b = true) :
    Calls Try.prog 3 #[.agg #[.int .i64 S, .int .i64 W, .int .i64 L], .slice A a.length c, .slice B b.length d, .slice C n e] w fun e w' => e = .returned (.bool true) ∧ Ext w w' := by
  have HNO := Lib.hid hno
  clear hno
  go_enter Try.func3, Try.ntmps3
  go_wp2_with (first
    | (go_at_call 12; refine Calls.mono (states_no A c a B d b _ (C_ext hra (by exact (by repeat (first | ((with_reducible refine Ext.set1 ?_ ?_); (first | (focus (simp; done)) | (focus (simp; omega)) | (focus omega))) | (with_reducible refine Ext.alloc ?_ _) | (with_reducible exact Ext.refl _) | (refine Ext.trans ?_ (by with_reducible assumption)))))) hca (C_ext hrb (by exact (by repeat (first | ((with_reducible refine Ext.set1 ?_ ?_); (first | (focus (simp; done)) | (focus (simp; omega)) | (focus omega))) | (with_reducible refine Ext.alloc ?_ _) | (with_reducible exact Ext.refl _) | (refine Ext.trans ?_ (by with_reducible assumption)))))) hcb HNO.out) ?_; rintro e w2 ⟨S', W', L', rfl, hb2⟩)
    | (go_at_call 11; refine Calls.mono (awake_yes _) ?_; rintro e w1 ⟨rfl, hb1⟩; obtain ⟨a0, a1, a2⟩ := Blk.c3 (w := w1) (B := w.heap.size) (by repeat (first | (with_reducible assumption) | ((with_reducible refine Blk.new ?_); (first | (focus rfl) | (focus (simp; done)) | (focus omega))) | ((with_reducible refine Blk.set1 ?_ ?_); (focus omega)) | (with_reducible refine Blk.alloc ?_) | (refine Blk.ext ?_ (by with_reducible assumption))))))
  go_ret
  exact ⟨rfl, (by repeat (first | ((with_reducible refine Ext.set1 ?_ ?_); (first | (focus (simp; done)) | (focus (simp; omega)) | (focus omega))) | (with_reducible refine Ext.alloc ?_ _) | (with_reducible exact Ext.refl _) | (refine Ext.trans ?_ (by with_reducible assumption))))⟩
set_option maxHeartbeats 1000000 in
theorem merges_big {S W L : Int} (g : Geo S W L) (A : Option Addr) (c : Nat) (a : List S37) (B : Option Addr) (d : Nat) (b : List S37) (C : Option Addr) (e : Nat) (l : List S37) (w : World) (hra : k37.C w A a.length a) (hca : a.length ≤ c) (hrb : k37.C w B b.length b) (hcb : b.length ≤ d) (hrl : k37.C w C l.length l) (hcl : l.length ≤ e) (hg1 : greatB a = false) (hg2 : greatB b = false) (hg3 : greatB l = true) :
    Calls Try.prog 3 #[.agg #[.int .i64 S, .int .i64 W, .int .i64 L], .slice A a.length c, .slice B b.length d, .slice C l.length e] w fun e w' => e = .returned (.bool true) ∧ Ext w w' := by
  have HG1 := Lib.hid hg1; have HG2 := Lib.hid hg2; have HG3 := Lib.hid hg3
  clear hg1 hg2 hg3
  go_enter Try.func3, Try.ntmps3
  go_wp2_with (first
    | (go_at_call 13; refine Calls.mono (great_any C e l _ (C_ext hrl (by exact (by repeat (first | ((with_reducible refine Ext.set1 ?_ ?_); (first | (focus (simp; done)) | (focus (simp; omega)) | (focus omega))) | (with_reducible refine Ext.alloc ?_ _) | (with_reducible exact Ext.refl _) | (refine Ext.trans ?_ (by with_reducible assumption)))))) hcl) ?_; rw [HG3.out]; rintro e w3 ⟨rfl, hb3⟩)
    | (go_at_call 12; refine Calls.mono (states_yes g A c a B d b _ (C_ext hra (by exact (by repeat (first | ((with_reducible refine Ext.set1 ?_ ?_); (first | (focus (simp; done)) | (focus (simp; omega)) | (focus omega))) | (with_reducible refine Ext.alloc ?_ _) | (with_reducible exact Ext.refl _) | (refine Ext.trans ?_ (by with_reducible assumption)))))) hca (C_ext hrb (by exact (by repeat (first | ((with_reducible refine Ext.set1 ?_ ?_); (first | (focus (simp; done)) | (focus (simp; omega)) | (focus omega))) | (with_reducible refine Ext.alloc ?_ _) | (with_reducible exact Ext.refl _) | (refine Ext.trans ?_ (by with_reducible assumption)))))) hcb HG1.out HG2.out) ?_; rintro e w2 ⟨p, q, rfl, hp, hq, hb2⟩)
    | (go_at_call 11; refine Calls.mono (awake_yes _) ?_; rintro e w1 ⟨rfl, hb1⟩; obtain ⟨a0, a1, a2⟩ := Blk.c3 (w := w1) (B := w.heap.size) (by repeat (first | (with_reducible assumption) | ((with_reducible refine Blk.new ?_); (first | (focus rfl) | (focus (simp; done)) | (focus omega))) | ((with_reducible refine Blk.set1 ?_ ?_); (focus omega)) | (with_reducible refine Blk.alloc ?_) | (refine Blk.ext ?_ (by with_reducible assumption))))))
  go_ret
  exact ⟨rfl, (by repeat (first | ((with_reducible refine Ext.set1 ?_ ?_); (first | (focus (simp; done)) | (focus (simp; omega)) | (focus omega))) | (with_reducible refine Ext.alloc ?_ _) | (with_reducible exact Ext.refl _) | (refine Ext.trans ?_ (by with_reducible assumption))))⟩

set_option maxRecDepth 10000 in
set_option maxHeartbeats 8000000 in
theorem merges_walk (S W L : Int) (A : Option Addr) (c : Nat) (a : List S37) (B : Option Addr) (d : Nat) (b : List S37) (C : Option Addr) (ce : Nat) (l : List S37) (w : World) (hra : k37.C w A a.length a) (hca : a.length ≤ c) (hpa : ∀ x ∈ a, 0 ≤ x.f2 ∧ x.f2 ≤ 255) (hrb : k37.C w B b.length b) (hcb : b.length ≤ d) (hpb : ∀ x ∈ b, 0 ≤ x.f2 ∧ x.f2 ≤ 255) (hrl : k37.C w C l.length l) (hcl : l.length ≤ ce) (hpl : ∀ x ∈ l, 0 ≤ x.f2 ∧ x.f2 ≤ 255) :
    Calls Try.prog 3 #[.agg #[.int .i64 S, .int .i64 W, .int .i64 L], .slice A a.length c, .slice B b.length d, .slice C l.length ce] w fun e w' => e = .returned (.bool true) ∧ Ext w w' := by
  by_cases hno : vldB S W L = false ∨ greatB a = true ∨ greatB b = true
  · exact merges_no S W L A c a B d b C _ ce w hra hca hrb hcb hno
  have hv : vldB S W L = true := by
    cases h : vldB S W L with
    | false => exact absurd (.inl h) hno
    | true => rfl
  have hg1 : greatB a = false := by
    cases h : greatB a with
    | false => rfl
    | true => exact absurd (.inr (.inl h)) hno
  have hg2 : greatB b = false := by
    cases h : greatB b with
    | false => rfl
    | true => exact absurd (.inr (.inr h)) hno
  clear hno
  have g := (vld_iff _ _ _).1 hv
  clear hv
  cases hg3 : greatB l with
  | true => exact merges_big g A c a B d b C ce l w hra hca hrb hcb hrl hcl hg1 hg2 hg3
  | false =>
    have hsts := fun w h1 h2 => states_yes g A c a B d b w h1 hca h2 hcb hg1 hg2
    have hgr := fun w h => great_any C ce l w h hcl
    rw [hg3] at hgr
    obtain ⟨ha100, hao⟩ := great_no hg1
    obtain ⟨hb100, hbo⟩ := great_no hg2
    obtain ⟨hl100, hlo⟩ := great_no hg3
    have HO1 := Lib.hid hao; have HO2 := Lib.hid hbo; have HO3 := Lib.hid hlo
    have HP1 := Lib.hid hpa; have HP2 := Lib.hid hpb; have HP3 := Lib.hid hpl
    clear hg1 hg2 hg3 hao hbo hlo hpa hpb hpl
    have gw := g.w1
    have gs := g.s1
    have gs64 := g.s64
    have gl1 := g.l1
    have gl16 := g.l16
    obtain ⟨n1, hn1⟩ : ∃ n, a.length = n := ⟨_, rfl⟩
    rw [hn1] at hra hca ha100 hsts ⊢
    have HN1 := Lib.hid hn1
    obtain ⟨n2, hn2⟩ : ∃ n, b.length = n := ⟨_, rfl⟩
    rw [hn2] at hrb hcb hb100 hsts ⊢
    have HN2 := Lib.hid hn2
    obtain ⟨n3, hn3⟩ : ∃ n, l.length = n := ⟨_, rfl⟩
    rw [hn3] at hrl hcl hl100 hgr ⊢
    have HN3 := Lib.hid hn3
    clear hn1 hn2 hn3
    obtain ⟨fa, hfa⟩ : ∃ f, uDos S W a = f := ⟨_, rfl⟩
    obtain ⟨fb, hfb⟩ : ∃ f, uDos S W b = f := ⟨_, rfl⟩
    rw [hfa, hfb] at hsts
    have HFA := Lib.hid hfa
    have HFB := Lib.hid hfb
    clear hfa hfb
    go_enter Try.func3, Try.ntmps3
    go_wp2_with (first
      | (have gq := hb4; clear gq; go_at_call 14; refine Calls.mono (cache_new g _) ?_; rintro e w5 ⟨q2, G, rfl, hcy, hb5⟩)
      | (have gq := hb3; clear gq; go_at_call 14; refine Calls.mono (cache_new g _) ?_; rintro e w4 ⟨q1, F0, rfl, hcx, hb4⟩; obtain ⟨j0, j1, j2⟩ := Blk.c3 (w := w4) (B := w.heap.size) (by repeat (first | (with_reducible assumption) | ((with_reducible refine Blk.new ?_); (first | (focus rfl) | (focus (simp; done)) | (focus omega))) | ((with_reducible refine Blk.set1 ?_ ?_); (focus omega)) | (with_reducible refine Blk.alloc ?_) | (refine Blk.ext ?_ (by with_reducible assumption)))))
      | (go_at_call 13; refine Calls.mono (hgr _ (C_ext hrl (by exact (by repeat (first | ((with_reducible refine Ext.set1 ?_ ?_); (first | (focus (simp; done)) | (focus (simp; omega)) | (focus omega))) | (with_reducible refine Ext.alloc ?_ _) | (with_reducible exact Ext.refl _) | (refine Ext.trans ?_ (by with_reducible assumption))))))) ?_; rintro e w3 ⟨rfl, hb3⟩; obtain ⟨d0, d1, d2⟩ := Blk.c3 (w := w3) (B := w.heap.size) (by repeat (first | (with_reducible assumption) | ((with_reducible refine Blk.new ?_); (first | (focus rfl) | (focus (simp; done)) | (focus omega))) | ((with_reducible refine Blk.set1 ?_ ?_); (focus omega)) | (with_reducible refine Blk.alloc ?_) | (refine Blk.ext ?_ (by with_reducible assumption)))))
      | (go_at_call 12; refine Calls.mono (hsts _ (C_ext hra (by exact (by repeat (first | ((with_reducible refine Ext.set1 ?_ ?_); (first | (focus (simp; done)) | (focus (simp; omega)) | (focus omega))) | (with_reducible refine Ext.alloc ?_ _) | (with_reducible exact Ext.refl _) | (refine Ext.trans ?_ (by with_reducible assumption)))))) (C_ext hrb (by exact (by repeat (first | ((with_reducible refine Ext.set1 ?_ ?_); (first | (focus (simp; done)) | (focus (simp; omega)) | (focus omega))) | (with_reducible refine Ext.alloc ?_ _) | (with_reducible exact Ext.refl _) | (refine Ext.trans ?_ (by with_reducible assumption))))))) ?_; rintro e w2 ⟨p, q, rfl, hp, hq, hb2⟩; have hq2 : w.heap.size < w2.heap.size := (by have := hb2.size; have := hb1.size; simp at this; omega))
      | (go_at_call 11; refine Calls.mono (awake_yes _) ?_; rintro e w1 ⟨rfl, hb1⟩; obtain ⟨a0, a1, a2⟩ := Blk.c3 (w := w1) (B := w.heap.size) (by repeat (first | (with_reducible assumption) | ((with_reducible refine Blk.new ?_); (first | (focus rfl) | (focus (simp; done)) | (focus omega))) | ((with_reducible refine Blk.set1 ?_ ?_); (focus omega)) | (with_reducible refine Blk.alloc ?_) | (refine Blk.ext ?_ (by with_reducible assumption))))))
    have k9 : Blk w5 w2.heap.size (mustO S W L p) := (((Blk.alloc (Blk.new rfl)).ext hb3).ext hb4).ext hb5
    have k10 : Blk w5 (w2.heap.size + 1) (mustO S W L q) := (((Blk.new (by simp)).ext hb3).ext hb4).ext hb5
    have hy9 : Ext w2 w5 := (((((Ext.refl w2).alloc _).alloc _).trans hb3).trans hb4).trans hb5
    have kc : Blk w5 w.heap.size (.cells #[.int .i64 S, .int .i64 W, .int .i64 L] 23) := ((((Blk.alloc (Blk.alloc (((Blk.new rfl).ext hb1).ext hb2))).ext hb3).ext hb4)).ext hb5
    have hp5 : MB w5 W n1 fa p := hp.ext hy9
    have hq5 : MB w5 W n2 fb q := hq.ext hy9
    have hx5 : Ext w w5 := (by repeat (first | ((with_reducible refine Ext.set1 ?_ ?_); (first | (focus (simp; done)) | (focus (simp; omega)) | (focus omega))) | (with_reducible refine Ext.alloc ?_ _) | (with_reducible exact Ext.refl _) | (refine Ext.trans ?_ (by with_reducible assumption))))
    have hz3 : w.heap.size ≤ w3.heap.size := by have := hb3.size; simp at this; omega
    have hz4 : w.heap.size ≤ w4.heap.size := by have := hb4.size; omega
    have hct : CaT w5 w.heap.size q1 q2 S W L F0 G (List.replicate S.toNat []) (List.replicate S.toNat []) := by
      refine ⟨(hcx.ext hb5).lower hz3, hcy.lower hz4, fun k h1 h2 => ?_, fun h => ?_, fun h => ?_⟩
      · have := hcx.lt k h1; have := hcy.fromB k h2; omega
      · have := hcx.qlt; have := hcy.fromB _ h; omega
      · have := hcy.qlt; have := hcx.lt _ h; omega
    have HD0 : Hid (Rows S W (List.replicate S.toNat []) ∧ Top 1000 (List.replicate S.toNat []) ∧ Desc S noF (List.replicate S.toNat [])) := ⟨rows_empty gs gw, top_empty _ _, desc_no (rows_empty gs gw).len⟩
    clear hb1 hb2 hb3 hb4 hb5 a0 a1 a2 d0 d1 d2 j0 j1 j2 hp hq hcx hcy hy9 hsts hgr hz3 hz4
    obtain ⟨ry, hry⟩ : ∃ r, r = List.replicate S.toNat ([] : List Int) := ⟨_, rfl⟩
    rw [← hry] at hct HD0
    have HD0x := HD0
    have HD0y := HD0
    clear HD0
    clear hry
    go_loopw [54] (fun i wr => ∃ (j : Nat) (F : Nat → Prop) (rx : List (List Int)), i = .int .i64 j ∧ j ≤ n1 ∧ (Blk wr w.heap.size (.cells #[.int .i64 S, .int .i64 W, .int .i64 L] 23) ∧ Blk wr w2.heap.size (mustO S W L p) ∧ Blk wr (w2.heap.size + 1) (mustO S W L q) ∧ MB wr W n1 fa p ∧ MB wr W n2 fb q ∧ CaT wr w.heap.size q1 q2 S W L F G rx ry ∧ Ext w wr) ∧ Hid (Rows S W rx ∧ Top 1000 rx ∧ Desc S (uDos S W (a.take j)) rx)) (fun i _ => n1 - (Go.RowKit.intOf i).toNat)
    case atStart => exact ⟨0, _, _, rfl, Nat.zero_le _, ⟨kc, k9, k10, hp5, hq5, hct, hx5⟩, HD0x⟩
    case round =>
      clear kc k9 k10 hp5 hq5 hct hx5 HD0x
      obtain ⟨j, F, rx, rfl, hj, ⟨kc, k9, k10, hp5, hq5, hct, hx5⟩, HD⟩ := hrel
      have hlc := kc.lt
      have hl9 := k9.lt
      have hl10 := k10.lt
      have hbase : w.heap.size ≤ wr.heap.size := hx5.size
      by_cases hlt : j < n1
      · obtain ⟨bd, rfl, c0, c1', c2⟩ := at_op (C_ext hra hx5) j hlt
        have hxm : a.getD j z37 ∈ a := getD_mem37 (by rw [HN1.out]; exact hlt)
        have hb0 := HO1.out _ hxm
        have hb2 := HP1.out _ hxm
        have hnx : uDos S W (a.take (j + 1)) = uDo S W (uDos S W (a.take j)) (a.getD j z37).f0 (a.getD j z37).f1 := by
          rw [take_next (by rw [HN1.out]; exact hlt), uDos_snoc]
        obtain ⟨⟨x0, x1, x2⟩, hx⟩ : ∃ x, x = a.getD j z37 := ⟨_, rfl⟩
        rw [← hx] at c0 c1' c2 hb0 hb2 hnx
        dsimp only at c0 c1' c2 hb0 hb2 hnx
        clear hx hxm
        obtain ⟨b0, b1⟩ := hb0
        obtain ⟨b4, b5⟩ := hb2
        have HN2' : Hid (Rows S W (rowsM S W rx x0 x1 x2) ∧ Top 1000 (rowsM S W rx x0 x1 x2) ∧ Desc S (uDos S W (a.take (j + 1))) (rowsM S W rx x0 x1 x2)) :=
          ⟨rows_do gs gw HD.out.1 _ _ _, top_do gs gw HD.out.2.1 b1 (by omega) _, by rw [hnx]; exact desc_do gs gw HD.out.1 (fit_uDos gw _) HD.out.2.2 _ _ _⟩
        have hkt := lineM_top (lo := x0) (hi := x1) (pk := x2) b1 (by omega)
        have hrows : rowsM S W rx x0 x1 x2 = if lineM x0 x1 x2 < 0 then rx else cAcc S W rx (lineM x0 x1 x2) := rfl
        obtain ⟨k, hk⟩ : ∃ k, lineM x0 x1 x2 = k := ⟨_, rfl⟩
        rw [hk] at hkt hrows
        clear hnx
        by_cases hk0 : k < 0
        · rw [if_pos hk0] at hrows
          rw [hrows] at HN2'
          clear hrows hkt
          go_wp2_with (go_at_call 15; refine Calls.mono (op_line x0 x1 x2 b1 b4 b5 _) ?_; rw [hk]; rintro e w11 ⟨rfl, hb11⟩)
          have hE : Ext wr w11 := ((Ext.refl wr).alloc _).trans hb11
          refine ⟨⟨j + 1, F, rx, by go_num, by omega, ⟨kc.ext hE, k9.ext hE, k10.ext hE, hp5.ext hE, hq5.ext hE, hct.ext hE, hx5.trans hE⟩, HN2'⟩, ?_⟩
          simp [Go.RowKit.intOf]
          omega
        · rw [if_neg hk0] at hrows
          rw [hrows] at HN2'
          clear hrows
          obtain ⟨hX1, hX2, hX3⟩ := mul_fits (n := k) (by omega) (by omega) gl1 gl16
          obtain ⟨X, hX⟩ : ∃ X, k * L = X := ⟨_, rfl⟩
          rw [hX] at hX1 hX2 hX3
          go_wp2_with (first
            | (go_at_call 16; refine Calls.mono (cache_access (base := w.heap.size) g (hct.ext hE).x HD.out.1 X hX1 hX2 (hx5.trans hE).size) ?_; rw [hX3]; rintro e w14 ⟨rfl, F14, hc14, hF14, hf14⟩)
            | (go_at_call 15; refine Calls.mono (op_line x0 x1 x2 b1 b4 b5 _) ?_; rw [hk]; rintro e w11 ⟨rfl, hb11⟩; have hE : Ext wr w11 := ((Ext.refl wr).alloc _).trans hb11; obtain ⟨t0, t1, t2⟩ := (kc.ext hE).c3))
          have hh := hct.ext hE
          refine ⟨⟨j + 1, F14, _, by go_num, by omega, ⟨hh.x.keep hf14 (kc.ext hE) (by decide) (by decide), hh.x.keep hf14 (k9.ext hE) (by decide) (by decide), hh.x.keep hf14 (k10.ext hE) (by decide) (by decide), (hp5.ext hE).keep hh.x hf14, (hq5.ext hE).keep hh.x hf14, hh.left hc14 hF14 hf14, (hx5.trans hE).fr hf14 hh.x.fromB⟩, HN2'⟩, ?_⟩
          simp [Go.RowKit.intOf]
          omega
      · obtain rfl : n1 = j := by omega
        obtain ⟨wp1, hwp⟩ : ∃ wp, wp = wr := ⟨wr, rfl⟩
        subst hwp
        have etk : a.take n1 = a := List.take_of_length_le (by have := HN1.out; omega)
        rw [etk] at HD
        clear etk
        rw [HFA.out] at HD
        have HDX := HD
        clear HD
        go_wp2
        go_loopw [71] (fun i wr => ∃ (j : Nat) (G : Nat → Prop) (rz : List (List Int)), i = .int .i64 j ∧ j ≤ n2 ∧ (Blk wr w.heap.size (.cells #[.int .i64 S, .int .i64 W, .int .i64 L] 23) ∧ Blk wr w2.heap.size (mustO S W L p) ∧ Blk wr (w2.heap.size + 1) (mustO S W L q) ∧ MB wr W n1 fa p ∧ MB wr W n2 fb q ∧ CaT wr w.heap.size q1 q2 S W L F G rx rz ∧ Ext w wr) ∧ Hid (Rows S W rz ∧ Top 1000 rz ∧ Desc S (uDos S W (b.take j)) rz)) (fun i _ => n2 - (Go.RowKit.intOf i).toNat)
        case atStart => exact ⟨0, _, _, rfl, Nat.zero_le _, ⟨kc, k9, k10, hp5, hq5, hct, hx5⟩, HD0y⟩
        case round =>
          clear kc k9 k10 hp5 hq5 hct hx5 HD0y
          obtain ⟨j, G, rz, rfl, hj, ⟨kc, k9, k10, hp5, hq5, hct, hx5⟩, HD⟩ := hrel
          have hlc := kc.lt
          have hl9 := k9.lt
          have hl10 := k10.lt
          have hbase : w.heap.size ≤ wr.heap.size := hx5.size
          by_cases hlt : j < n2
          · obtain ⟨bd, rfl, c0, c1', c2⟩ := at_op (C_ext hrb hx5) j hlt
            have hxm : b.getD j z37 ∈ b := getD_mem37 (by rw [HN2.out]; exact hlt)
            have hb0 := HO2.out _ hxm
            have hb2 := HP2.out _ hxm
            have hnx : uDos S W (b.take (j + 1)) = uDo S W (uDos S W (b.take j)) (b.getD j z37).f0 (b.getD j z37).f1 := by
              rw [take_next (by rw [HN2.out]; exact hlt), uDos_snoc]
            obtain ⟨⟨x0, x1, x2⟩, hx⟩ : ∃ x, x = b.getD j z37 := ⟨_, rfl⟩
            rw [← hx] at c0 c1' c2 hb0 hb2 hnx
            dsimp only at c0 c1' c2 hb0 hb2 hnx
            clear hx hxm
            obtain ⟨b0, b1⟩ := hb0
            obtain ⟨b4, b5⟩ := hb2
            have HN2' : Hid (Rows S W (rowsM S W rz x0 x1 x2) ∧ Top 1000 (rowsM S W rz x0 x1 x2) ∧ Desc S (uDos S W (b.take (j + 1))) (rowsM S W rz x0 x1 x2)) :=
              ⟨rows_do gs gw HD.out.1 _ _ _, top_do gs gw HD.out.2.1 b1 (by omega) _, by rw [hnx]; exact desc_do gs gw HD.out.1 (fit_uDos gw _) HD.out.2.2 _ _ _⟩
            have hkt := lineM_top (lo := x0) (hi := x1) (pk := x2) b1 (by omega)
            have hrows : rowsM S W rz x0 x1 x2 = if lineM x0 x1 x2 < 0 then rz else cAcc S W rz (lineM x0 x1 x2) := rfl
            obtain ⟨k, hk⟩ : ∃ k, lineM x0 x1 x2 = k := ⟨_, rfl⟩
            rw [hk] at hkt hrows
            clear hnx
            by_cases hk0 : k < 0
            · rw [if_pos hk0] at hrows
              rw [hrows] at HN2'
              clear hrows hkt
              go_wp2_with (go_at_call 15; refine Calls.mono (op_line x0 x1 x2 b1 b4 b5 _) ?_; rw [hk]; rintro e w11 ⟨rfl, hb11⟩)
              have hE : Ext wr w11 := ((Ext.refl wr).alloc _).trans hb11
              refine ⟨⟨j + 1, G, rz, by go_num, by omega, ⟨kc.ext hE, k9.ext hE, k10.ext hE, hp5.ext hE, hq5.ext hE, hct.ext hE, hx5.trans hE⟩, HN2'⟩, ?_⟩
              simp [Go.RowKit.intOf]
              omega
            · rw [if_neg hk0] at hrows
              rw [hrows] at HN2'
              clear hrows
              obtain ⟨hX1, hX2, hX3⟩ := mul_fits (n := k) (by omega) (by omega) gl1 gl16
              obtain ⟨X, hX⟩ : ∃ X, k * L = X := ⟨_, rfl⟩
              rw [hX] at hX1 hX2 hX3
              go_wp2_with (first
                | (go_at_call 16; refine Calls.mono (cache_access (base := w.heap.size) g (hct.ext hE).y HD.out.1 X hX1 hX2 (hx5.trans hE).size) ?_; rw [hX3]; rintro e w14 ⟨rfl, F14, hc14, hF14, hf14⟩)
                | (go_at_call 15; refine Calls.mono (op_line x0 x1 x2 b1 b4 b5 _) ?_; rw [hk]; rintro e w11 ⟨rfl, hb11⟩; have hE : Ext wr w11 := ((Ext.refl wr).alloc _).trans hb11; obtain ⟨t0, t1, t2⟩ := (kc.ext hE).c3))
              have hh := hct.ext hE
              refine ⟨⟨j + 1, F14, _, by go_num, by omega, ⟨hh.y.keep hf14 (kc.ext hE) (by decide) (by decide), hh.y.keep hf14 (k9.ext hE) (by decide) (by decide), hh.y.keep hf14 (k10.ext hE) (by decide) (by decide), (hp5.ext hE).keep hh.y hf14, (hq5.ext hE).keep hh.y hf14, hh.right hc14 hF14 hf14, (hx5.trans hE).fr hf14 hh.y.fromB⟩, HN2'⟩, ?_⟩
              simp [Go.RowKit.intOf]
              omega
          · obtain rfl : n2 = j := by omega
            obtain ⟨wp2, hwp⟩ : ∃ wp, wp = wr := ⟨wr, rfl⟩
            subst hwp
            have etk : b.take n2 = b := List.take_of_length_le (by have := HN2.out; omega)
            rw [etk] at HD
            clear etk
            rw [HFB.out] at HD
            have HJ : Hid ((Rows S W rx ∧ Top 1000 rx ∧ Desc S (uJoin fa fb) rx) ∧ (Rows S W rz ∧ Top 1000 rz ∧ Desc S (uJoin fa fb) rz)) := ⟨⟨HDX.out.1, HDX.out.2.1, desc_join_l HDX.out.2.2⟩, ⟨HD.out.1, HD.out.2.1, desc_join_r HD.out.2.2⟩⟩
            obtain ⟨t0, t1, t2, t3⟩ := k9.c4
            obtain ⟨u0, u1, u2, u3⟩ := k10.c4
            go_wp2_with (go_at_call 17; refine Calls.mono (must_join S W L p _ fa q _ fb _ hp5 hq5 (by omega)) ?_; rintro e w6 ⟨p6, rfl, h6, hb6⟩)
            have y22 : Blk (w6.alloc (mustO S W L p6)) w6.heap.size (mustO S W L p6) := Blk.new rfl
            have hE6 := hb6.alloc (mustO S W L p6)
            have yc := kc.ext hE6
            have yst := h6.alloc (mustO S W L p6)
            have yct := hct.ext hE6
            have yx := hx5.trans hE6
            have hq6 : w.heap.size < w6.heap.size := by have := hb6.size; omega
            clear kc k9 k10 hp5 hq5 hct hx5 hl9 hl10 hlc hbase t0 t1 t2 t3 u0 u1 u2 u3 hb6 hE6 h6
            obtain ⟨w7, hw7⟩ : ∃ w7, w7 = w6.alloc (mustO S W L p6) := ⟨_, rfl⟩
            rw [← hw7] at y22 yc yst yct yx ⊢
            clear hw7
            go_loopw [91] (fun i wr => ∃ (m : Nat) (px : Option Nat) (f : FM) (F G : Nat → Prop) (sx sy : List (List Int)), i = .int .i64 m ∧ m ≤ n3 ∧ (Blk wr w6.heap.size (mustO S W L px) ∧ Blk wr w.heap.size (.cells #[.int .i64 S, .int .i64 W, .int .i64 L] 23) ∧ MB wr W (100 + m) f px ∧ CaT wr w.heap.size q1 q2 S W L F G sx sy ∧ Ext w wr) ∧ Hid ((Rows S W sx ∧ Top 1000 sx ∧ Desc S f sx) ∧ (Rows S W sy ∧ Top 1000 sy ∧ Desc S f sy))) (fun i _ => n3 - (Go.RowKit.intOf i).toNat)
            case atStart => exact ⟨0, p6, _, _, _, _, _, rfl, Nat.zero_le _, ⟨y22, yc, yst.mono (by omega), yct, yx⟩, HJ⟩
            case round =>
              clear y22 yc yst yct yx HJ
              obtain ⟨m, px, f, F, G, sx, sy, rfl, hm, ⟨y22, yc, yst, yct, yx⟩, HJ⟩ := hrel
              have hl22 := y22.lt
              have hlc := yc.lt
              have hsx := HJ.out.1.1.len
              have hsy := HJ.out.2.1.len
              by_cases hlt : m < n3
              · obtain ⟨bd, rfl, c0, c1', c2⟩ := at_op (C_ext hrl yx) m hlt
                have hxm : l.getD m z37 ∈ l := getD_mem37 (by rw [HN3.out]; exact hlt)
                have hb0 := HO3.out _ hxm
                have hb2 := HP3.out _ hxm
                obtain ⟨⟨x0, x1, x2⟩, hx⟩ : ∃ x, x = l.getD m z37 := ⟨_, rfl⟩
                rw [← hx] at c0 c1' c2 hb0 hb2
                dsimp only at c0 c1' c2 hb0 hb2
                clear hx hxm
                obtain ⟨b0, b1⟩ := hb0
                obtain ⟨b4, b5⟩ := hb2
                have hkt := lineM_top (lo := x0) (hi := x1) (pk := x2) b1 (by omega)
                have HNX : Hid ((Rows S W (rowsM S W sx x0 x1 x2) ∧ Top 1000 (rowsM S W sx x0 x1 x2) ∧ Desc S (uDo S W f x0 x1) (rowsM S W sx x0 x1 x2)) ∧ (Rows S W (rowsM S W sy x0 x1 x2) ∧ Top 1000 (rowsM S W sy x0 x1 x2) ∧ Desc S (uDo S W f x0 x1) (rowsM S W sy x0 x1 x2))) :=
                  ⟨⟨rows_do gs gw HJ.out.1.1 _ _ _, top_do gs gw HJ.out.1.2.1 b1 (by omega) _, desc_do gs gw HJ.out.1.1 yst.2 HJ.out.1.2.2 _ _ _⟩, ⟨rows_do gs gw HJ.out.2.1 _ _ _, top_do gs gw HJ.out.2.2.1 b1 (by omega) _, desc_do gs gw HJ.out.2.1 yst.2 HJ.out.2.2.2 _ _ _⟩⟩
                have hrx : rowsM S W sx x0 x1 x2 = if lineM x0 x1 x2 < 0 then sx else cAcc S W sx (lineM x0 x1 x2) := rfl
                have hry : rowsM S W sy x0 x1 x2 = if lineM x0 x1 x2 < 0 then sy else cAcc S W sy (lineM x0 x1 x2) := rfl
                obtain ⟨k, hk⟩ : ∃ k, lineM x0 x1 x2 = k := ⟨_, rfl⟩
                rw [hk] at hkt hrx hry
                have y22o : Blk (wr.alloc (.cells #[.int .i64 x0, .int .i64 x1, .int .u8 x2] 37)) w6.heap.size (mustO S W L px) := y22.alloc
                have yoo : Blk (wr.alloc (.cells #[.int .i64 x0, .int .i64 x1, .int .u8 x2] 37)) wr.heap.size (.cells #[.int .i64 x0, .int .i64 x1, .int .u8 x2] 37) := Blk.new rfl
                have hEo : Ext wr (wr.alloc (.cells #[.int .i64 x0, .int .i64 x1, .int .u8 x2] 37)) := (Ext.refl wr).alloc _
                go_wp2
                obtain ⟨wo, hwo⟩ : ∃ wo, wo = wr.alloc (.cells #[.int .i64 x0, .int .i64 x1, .int .u8 x2] 37) := ⟨_, rfl⟩
                rw [← hwo] at y22o yoo hEo ⊢
                clear hwo
                have ycto := yct.ext hEo
                have ysto := yst.ext hEo
                obtain ⟨t0, t1, t2, t3⟩ := y22o.c4
                go_region_held3 (fun w' => w'.cell? ⟨w6.heap.size, 0, none⟩ = some (.int .i64 S) ∧ w'.cell? ⟨w6.heap.size, 1, none⟩ = some (.int .i64 W) ∧ w'.cell? ⟨w6.heap.size, 2, none⟩ = some (.int .i64 L) ∧ w'.cell? ⟨w6.heap.size, 3, none⟩ = some (.map px)) (go_keep)
                  (first
                    | (have gq := hb33; clear gq; go_at_call 18; refine Calls.mono (must_descr g px (100 + m) f _ _ _ _ (ysto.ext hb33) (hrs3.C rfl (by omega) (fun _ _ => rfl))) ?_; intro e w34 hh; obtain ⟨rfl, hb34'⟩ := hh.yes HJ.out.2.2.2; have hb34 := hb33.trans hb34'; obtain ⟨u0, u1, u2, u3⟩ := (y22o.ext hb34).c4)
                    | (have gq := hb32; clear gq; go_at_call 19; refine Calls.mono (cache_lines g (ycto.ext hb32).y HJ.out.2.1) ?_; rintro e w33 ⟨g33, vs33, rfl, hrs3, hb33'⟩; have hb33 := hb32.trans hb33'; obtain ⟨u0, u1, u2, u3⟩ := (y22o.ext hb33).c4)
                    | (have gq := hb31; clear gq; go_at_call 18; refine Calls.mono (must_descr g px (100 + m) f _ _ _ _ (ysto.ext hb31) (hrs.C rfl (by omega) (fun _ _ => rfl))) ?_; intro e w32 hh; obtain ⟨rfl, hb32'⟩ := hh.yes HJ.out.1.2.2; have hb32 := hb31.trans hb32'; obtain ⟨u0, u1, u2, u3⟩ := (y22o.ext hb32).c4)
                    | (go_at_call 19; refine Calls.mono (cache_lines g (ycto.ext (Ext.drew (Ext.refl _))).x HJ.out.1.1) ?_; rintro e w31 ⟨g31, vs31, rfl, hrs, hb31'⟩; have hb31 : Ext wo w31 := (Ext.drew (Ext.refl _)).trans hb31'; clear hb31'; obtain ⟨u0, u1, u2, u3⟩ := (y22o.ext hb31).c4))
                all_goals
                  have y9 := y22o.ext hb34
                  have yo := yoo.ext hb34
                  have yc2 := (yc.ext hEo).ext hb34
                  have yst2 := ysto.ext hb34
                  have yct2 := ycto.ext hb34
                  have yx2 := (yx.trans hEo).trans hb34
                  obtain ⟨n0, n1', n2', n3'⟩ := y9.c4
                  obtain ⟨o0, o1, o2⟩ := yo.c3
                  clear t0 t1 t2 t3
                  by_cases hk0 : k < 0
                  · rw [if_pos hk0] at hrx hry
                    rw [hrx, hry] at HNX
                    clear hrx hry
                    go_wp2_with (first
                      | (go_at_call 15; refine Calls.mono (op_line x0 x1 x2 b1 b4 b5 _) ?_; rw [hk]; rintro e w41 ⟨rfl, hb41⟩)
                      | (go_at_call 20; refine Calls.mono (do_mb g x0 x1 x2 (by omega) px (100 + m) f _ yst2 (by omega)) ?_; rintro e w20 ⟨p20, rfl, h20, hb20⟩; have m9 := y9.ext hb20; have mo := yo.ext hb20; have mc := yc2.ext hb20; obtain ⟨t0, t1, t2, t3⟩ := m9.c4; obtain ⟨r0, r1, r2, r3⟩ := m9.f4; have v9 := Blk.put4 (a' := .int .i64 S) (b' := .int .i64 W) (c' := .int .i64 L) (d' := .map p20) m9; have vc := Blk.far4 (a := .int .i64 S) (b := .int .i64 W) (c := .int .i64 L) (d := .map p20) (show w.heap.size ≠ w6.heap.size by omega) mc; have vo := Blk.far4 (a := .int .i64 S) (b := .int .i64 W) (c := .int .i64 L) (d := .map p20) (show wr.heap.size ≠ w6.heap.size by omega) mo; have vst := MB.set4 (g := w6.heap.size) (a := .int .i64 S) (b := .int .i64 W) (c := .int .i64 L) (d := .map p20) h20; have vct := (yct2.ext hb20).set4 (a' := .int .i64 S) (b' := .int .i64 W) (c' := .int .i64 L) (d' := .map p20) m9; have vext := Ext.set4 (a := .int .i64 S) (b := .int .i64 W) (c := .int .i64 L) (d := .map p20) (show w.heap.size ≤ w6.heap.size by omega) (yx2.trans hb20); obtain ⟨u0, u1, u2⟩ := vo.c3))
                    refine ⟨⟨m + 1, p20, _, F, G, sx, sy, by go_num, by omega, ⟨v9.ext hb41, vc.ext hb41, vst.ext hb41, vct.ext hb41, vext.trans hb41⟩, HNX⟩, ?_⟩
                    simp [Go.RowKit.intOf]
                    omega
                  · rw [if_neg hk0] at hrx hry
                    rw [hrx, hry] at HNX
                    clear hrx hry
                    obtain ⟨hX1, hX2, hX3⟩ := mul_fits (n := k) (by omega) (by omega) gl1 gl16
                    obtain ⟨X, hX⟩ : ∃ X, k * L = X := ⟨_, rfl⟩
                    rw [hX] at hX1 hX2 hX3
                    go_wp2_with (first
                      | (have gq := hf42; clear gq; go_at_call 16; refine Calls.mono (cache_access (base := w.heap.size) g vct42.y HJ.out.2.1 X hX1 hX2 vx42.size) ?_; rw [hX3]; rintro e w43 ⟨rfl, F43, hc43, hF43, hf43⟩)
                      | (go_at_call 16; refine Calls.mono (cache_access (base := w.heap.size) g (vct.ext hb41).x HJ.out.1.1 X hX1 hX2 (vext.trans hb41).size) ?_; rw [hX3]; rintro e w42 ⟨rfl, F42, hc42, hF42, hf42⟩; have vct42 := (vct.ext hb41).left hc42 hF42 hf42; have v942 := (vct.ext hb41).x.keep hf42 (v9.ext hb41) (by decide) (by decide); have vc42 := (vct.ext hb41).x.keep hf42 (vc.ext hb41) (by decide) (by decide); have vst42 := (vst.ext hb41).keep (vct.ext hb41).x hf42; have vx42 := (vext.trans hb41).fr hf42 (vct.ext hb41).x.fromB; obtain ⟨s0, s1, s2⟩ := vc42.c3)
                      | (go_at_call 15; refine Calls.mono (op_line x0 x1 x2 b1 b4 b5 _) ?_; rw [hk]; rintro e w41 ⟨rfl, hb41⟩; obtain ⟨s0, s1, s2⟩ := (vc.ext hb41).c3)
                      | (go_at_call 20; refine Calls.mono (do_mb g x0 x1 x2 (by omega) px (100 + m) f _ yst2 (by omega)) ?_; rintro e w20 ⟨p20, rfl, h20, hb20⟩; have m9 := y9.ext hb20; have mo := yo.ext hb20; have mc := yc2.ext hb20; obtain ⟨t0, t1, t2, t3⟩ := m9.c4; obtain ⟨r0, r1, r2, r3⟩ := m9.f4; have v9 := Blk.put4 (a' := .int .i64 S) (b' := .int .i64 W) (c' := .int .i64 L) (d' := .map p20) m9; have vc := Blk.far4 (a := .int .i64 S) (b := .int .i64 W) (c := .int .i64 L) (d := .map p20) (show w.heap.size ≠ w6.heap.size by omega) mc; have vo := Blk.far4 (a := .int .i64 S) (b := .int .i64 W) (c := .int .i64 L) (d := .map p20) (show wr.heap.size ≠ w6.heap.size by omega) mo; have vst := MB.set4 (g := w6.heap.size) (a := .int .i64 S) (b := .int .i64 W) (c := .int .i64 L) (d := .map p20) h20; have vct := (yct2.ext hb20).set4 (a' := .int .i64 S) (b' := .int .i64 W) (c' := .int .i64 L) (d' := .map p20) m9; have vext := Ext.set4 (a := .int .i64 S) (b := .int .i64 W) (c := .int .i64 L) (d := .map p20) (show w.heap.size ≤ w6.heap.size by omega) (yx2.trans hb20); obtain ⟨u0, u1, u2⟩ := vo.c3))
                    refine ⟨⟨m + 1, p20, _, F42, F43, _, _, by go_num, by omega, ⟨vct42.y.keep hf43 v942 (by decide) (by decide), vct42.y.keep hf43 vc42 (by decide) (by decide), vst42.keep vct42.y hf43, vct42.right hc43 hF43 hf43, vx42.fr hf43 vct42.y.fromB⟩, HNX⟩, ?_⟩
                    simp [Go.RowKit.intOf]
                    omega
              · obtain rfl : n3 = m := by omega
                obtain ⟨t0, t1, t2, t3⟩ := y22.c4
                go_wp2
                go_region_held3 (fun w' => w'.cell? ⟨w6.heap.size, 0, none⟩ = some (.int .i64 S) ∧ w'.cell? ⟨w6.heap.size, 1, none⟩ = some (.int .i64 W) ∧ w'.cell? ⟨w6.heap.size, 2, none⟩ = some (.int .i64 L) ∧ w'.cell? ⟨w6.heap.size, 3, none⟩ = some (.map px)) (go_keep)
                  (first
                    | (have gq := hb33; clear gq; go_at_call 18; refine Calls.mono (must_descr g px (100 + n3) f _ _ _ _ (yst.ext hb33) (hrs3.C rfl (by omega) (fun _ _ => rfl))) ?_; intro e w34 hh; obtain ⟨rfl, hb34'⟩ := hh.yes HJ.out.2.2.2; have hb34 := hb33.trans hb34'; obtain ⟨u0, u1, u2, u3⟩ := (y22.ext hb34).c4)
                    | (have gq := hb32; clear gq; go_at_call 19; refine Calls.mono (cache_lines g (yct.ext hb32).y HJ.out.2.1) ?_; rintro e w33 ⟨g33, vs33, rfl, hrs3, hb33'⟩; have hb33 := hb32.trans hb33'; obtain ⟨u0, u1, u2, u3⟩ := (y22.ext hb33).c4)
                    | (have gq := hb31; clear gq; go_at_call 18; refine Calls.mono (must_descr g px (100 + n3) f _ _ _ _ (yst.ext hb31) (hrs.C rfl (by omega) (fun _ _ => rfl))) ?_; intro e w32 hh; obtain ⟨rfl, hb32'⟩ := hh.yes HJ.out.1.2.2; have hb32 := hb31.trans hb32'; obtain ⟨u0, u1, u2, u3⟩ := (y22.ext hb32).c4)
                    | (go_at_call 19; refine Calls.mono (cache_lines g (yct.ext (Ext.drew (Ext.refl _))).x HJ.out.1.1) ?_; rintro e w31 ⟨g31, vs31, rfl, hrs, hb31'⟩; have hb31 : Ext wr w31 := (Ext.drew (Ext.refl _)).trans hb31'; clear hb31'; obtain ⟨u0, u1, u2, u3⟩ := (y22.ext hb31).c4))
                all_goals
                  go_wp2
                  go_ret
                  exact ⟨rfl, yx.trans hb34⟩
end Go.Proofs.Ytaekkfgggmighaa
