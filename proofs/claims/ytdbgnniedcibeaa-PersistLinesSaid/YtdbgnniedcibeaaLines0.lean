/- The walk of ontimelaw32.PersistLines. -/
import Derived.Test.YtdbgnniedcibeaaRl1
import Derived.Deep.RegionHeld3
import Derived.Deep.DrawnRows
namespace Go.Proofs.Ytdbgnniedcibeaa
open Go.RowKit Go.Maps Go.BigFrame Go.Proofs.YtdbgnniedcibeaaW.PrintWords Go.Proofs.Ytdbgnniedcibeaa.Pusable
set_option linter.unusedVariables false

theorem valid_no {S W L : Int} (h : vldB S W L = false) (w : World) :
    Calls Try.prog 17 #[.agg #[.int .i64 S, .int .i64 W, .int .i64 L]] w fun e w' => e = .returned (.bool false) ∧ Ext w w' := by
  have := valid_any S W L w
  rw [h] at this
  exact this
set_option maxHeartbeats 400000 in
theorem conflicts_inv {S W L : Int} (h : vldB S W L = false) (A : Option Addr) (n c : Nat) (w : World) :
    Calls Try.prog 14 #[.agg #[.int .i64 S, .int .i64 W, .int .i64 L], .slice A n c] w fun e w' => e = .returned (.slice none 0 0) ∧ Ext w w' := by
  have H := Lib.hid h; clear h
  go_enter Try.func14, Try.ntmps14
  go_wp2_with (go_at_call 17; refine (valid_no H.out _).mono ?_; rintro e w1 ⟨rfl, hb1⟩)
  go_ret
  exact ⟨rfl, (by repeat (first | ((with_reducible refine Ext.set1 ?_ ?_); (first | (focus (simp; done)) | (focus (simp; omega)) | (focus omega))) | (with_reducible refine Ext.alloc ?_ _) | (with_reducible exact Ext.refl _) | (refine Ext.trans ?_ (by with_reducible assumption))))⟩
set_option maxHeartbeats 400000 in
theorem flush_inv {S W L : Int} (h : vldB S W L = false) (w : World) :
    Calls Try.prog 18 #[.agg #[.int .i64 S, .int .i64 W, .int .i64 L]] w fun e w' => e = .returned (.int .i64 0) ∧ Ext w w' := by
  have H := Lib.hid h; clear h
  go_enter Try.func18, Try.ntmps18
  go_wp2_with (go_at_call 17; refine (valid_no H.out _).mono ?_; rintro e w1 ⟨rfl, hb1⟩)
  go_ret
  exact ⟨rfl, (by repeat (first | ((with_reducible refine Ext.set1 ?_ ?_); (first | (focus (simp; done)) | (focus (simp; omega)) | (focus omega))) | (with_reducible refine Ext.alloc ?_ _) | (with_reducible exact Ext.refl _) | (refine Ext.trans ?_ (by with_reducible assumption))))⟩
set_option maxHeartbeats 2000000 in
theorem persistent_inv {S W L : Int} (h : vldB S W L = false) (A : Option Addr) (c : Nat) (l : List S44) (w : World) (hr : k44.C w A l.length l) (hl : l.length ≤ 100) (hh : ∀ r ∈ l, r.f1 ≤ 3000) :
    Calls Try.prog 15 #[.agg #[.int .i64 S, .int .i64 W, .int .i64 L], .slice A l.length c] w fun e w' => e = .returned (.slice none 0 0) ∧ Ext w w' := by
  have H := Lib.hid h; clear h
  go_enter Try.func15, Try.ntmps15
  go_wp2_with (first
    | (go_at_call 31; refine Calls.mono (lines_at A c l _ (C_ext hr (by repeat (first | ((with_reducible refine Ext.set1 ?_ ?_); (first | (focus (simp; done)) | (focus (simp; omega)) | (focus omega))) | (with_reducible refine Ext.alloc ?_ _) | (with_reducible exact Ext.refl _) | (refine Ext.trans ?_ (by with_reducible assumption))))) hl hh) ?_; rintro e w3 ⟨A3, c3, L3, rfl, hL3, hl3, hM3, hb3⟩)
    | (go_at_call 14; refine Calls.mono (conflicts_inv H.out A _ c _) ?_; rintro e w2 ⟨rfl, hb2⟩))
  have hx3 : Ext w w3 := (by repeat (first | ((with_reducible refine Ext.set1 ?_ ?_); (first | (focus (simp; done)) | (focus (simp; omega)) | (focus omega))) | (with_reducible refine Ext.alloc ?_ _) | (with_reducible exact Ext.refl _) | (refine Ext.trans ?_ (by with_reducible assumption))))
  obtain ⟨A9, c9, e9, hc9, hC⟩ := hM3.C
  cases e9
  obtain ⟨n, hn⟩ : ∃ n, L3.length = n := ⟨_, rfl⟩
  rw [hn] at hC hl3 hc9 ⊢
  clear hn hM3 hb2 hb3 hL3
  go_loopw [6, 15] (fun v i wr => ∃ j : Nat, i = .int .i64 j ∧ j ≤ n ∧ v = .slice none 0 0 ∧ Ext w3 wr) (fun _ i _ => n - (Go.RowKit.intOf i).toNat)
  case atStart => exact ⟨0, rfl, Nat.zero_le _, rfl, Ext.refl _⟩
  case round =>
    obtain ⟨j, rfl, hj, rfl, hext⟩ := hrel
    by_cases hlt : j < n
    · obtain ⟨ad, rfl, hcell⟩ := at_num (C_ext hC hext) j hlt
      go_wp2
      refine wp_region_e (by kernel_rfl) ?_
      repeat (
        first
          | go_big_quiet_skip
          | (go_big_quiet_want
             go_big_quiet_op
             go_big_quiet_on)
          | (refine wpQuiet_step (fun K hK => ?_)
             go_simp
             first
               | (refine hK _ ?_; clear hK K)
               | (apply Exists.intro
                  refine ⟨fun w' hw' => ?_, hK _ ?_⟩
                  · (go_simp; rfl)
                  clear hK K)))
      refine wpQuiet_nil ?_
      intro w5 hb5
      go_wp2
      refine ⟨⟨j + 1, by go_num, by omega, rfl, hext.trans hb5⟩, ?_⟩
      simp [Go.RowKit.intOf]
      omega
    · obtain rfl : j = n := by omega
      go_wp2
      go_ret
      exact ⟨rfl, hx3.trans hext⟩
set_option maxHeartbeats 400000 in
theorem misses_inv {S W L : Int} (h : vldB S W L = false) (A : Option Addr) (c : Nat) (l : List S44) (w : World) (hr : k44.C w A l.length l) (hl : l.length ≤ 100) (hh : ∀ r ∈ l, r.f1 ≤ 3000) :
    Calls Try.prog 16 #[.agg #[.int .i64 S, .int .i64 W, .int .i64 L], .slice A l.length c] w fun e w' => e = .returned (.int .i64 0) ∧ Ext w w' := by
  have H := Lib.hid h; clear h
  go_enter Try.func16, Try.ntmps16
  go_wp2_with (go_at_call 15; refine Calls.mono (persistent_inv H.out A c l _ (C_ext hr (by repeat (first | ((with_reducible refine Ext.set1 ?_ ?_); (first | (focus (simp; done)) | (focus (simp; omega)) | (focus omega))) | (with_reducible refine Ext.alloc ?_ _) | (with_reducible exact Ext.refl _) | (refine Ext.trans ?_ (by with_reducible assumption))))) hl hh) ?_; rintro e w2 ⟨rfl, hb2⟩)
  go_ret
  exact ⟨rfl, (by repeat (first | ((with_reducible refine Ext.set1 ?_ ?_); (first | (focus (simp; done)) | (focus (simp; omega)) | (focus omega))) | (with_reducible refine Ext.alloc ?_ _) | (with_reducible exact Ext.refl _) | (refine Ext.trans ?_ (by with_reducible assumption))))⟩
/-- Most, at references of which all are low, or not. -/
theorem most_at (l : List S44) (hl : l.length < 50000) : ∃ v : Int, (∀ (A : Option Addr) (c n : Nat) (w : World), l.length = n → k56.C w A n (l.map toRef) → n ≤ c → Calls Try.prog 12 #[.slice A n c] w fun e w' => e = .returned (.int .i64 v) ∧ Ext w w') ∧ (v ≤ 3000 ↔ ∀ r ∈ l, r.f1 ≤ 3000) := by
  obtain ⟨v, h1, h2⟩ := most_l0 (l.map toRef) (by simp; omega) (l.map toRef) [] (-1) (l.length + 1) rfl (by simp)
  refine ⟨v, fun A c n w hn hC hc => ?_, h2.trans ⟨fun h r hr => h.2 (toRef r) (List.mem_map_of_mem hr), fun h => ⟨by omega, fun x hx => ?_⟩⟩⟩
  · subst hn
    have hml : (l.map toRef).length = l.length := List.length_map _
    have := ontimeref32_Most.calls (l.length + 1) A c (l.map toRef) v w (by rw [hml]; exact hC) (by rw [hml]; exact hc) h1
    rw [hml] at this
    exact this.mono fun e w' ⟨he, hd⟩ => ⟨he, hd.below⟩
  · obtain ⟨r, hr, rfl⟩ := List.mem_map.1 hx
    exact h r hr

set_option maxHeartbeats 1000000 in
theorem lines_long (S W Ln : Int) (A : Option Addr) (c : Nat) (l : List S44) (w : World) (hl : l.length ≤ 9223372036854775807) (hn : 12 < l.length) :
    Calls Try.prog 3 #[.agg #[.int .i64 S, .int .i64 W, .int .i64 Ln], .slice A l.length c] w fun e w' => e = .returned (.bool true) ∧ Ext w w' := by
  go_enter Try.func3, Try.ntmps3
  go_wp2_with (first
    | (go_at_call 11; refine Calls.mono (awake_yes _) ?_; rintro e w1 ⟨rfl, hb1⟩))
  go_ret
  exact ⟨rfl, (by repeat (first | ((with_reducible refine Ext.set1 ?_ ?_); (first | (focus (simp; done)) | (focus (simp; omega)) | (focus omega))) | (with_reducible refine Ext.alloc ?_ _) | (with_reducible exact Ext.refl _) | (refine Ext.trans ?_ (by with_reducible assumption))))⟩

set_option maxRecDepth 10000 in
set_option maxHeartbeats 8000000 in
theorem lines_walk (S W Ln : Int) (A : Option Addr) (c : Nat) (l : List S44) (w : World) (hr : k44.C w A l.length l) (hc : l.length ≤ c) :
    Calls Try.prog 3 #[.agg #[.int .i64 S, .int .i64 W, .int .i64 Ln], .slice A l.length c] w fun e w' => e = .returned (.bool true) ∧ Ext w w' := by
  by_cases hn12 : 12 < l.length
  · exact lines_long S W Ln A c l w (C_max hr) hn12
  obtain ⟨v, hmo, hv⟩ := most_at l (by omega)
  obtain ⟨n, hn⟩ : ∃ n, l.length = n := ⟨_, rfl⟩
  have hcv := fun (hh : ∀ r ∈ l, r.f1 ≤ 3000) (g : Geo S W Ln) (L : List Int) (hL : IsLines l L) => (⟨fun w h => conflicts_at g A c l L hL w h (by omega) hh, fun w h => persistent_at g A c l L hL w h (by omega) hh, fun w h => misses_at g A c l L hL w h (by omega) hh⟩ : (∀ w, k44.C w A l.length l → _) ∧ (∀ w, k44.C w A l.length l → _) ∧ (∀ w, k44.C w A l.length l → _))
  have hci := fun (hh : ∀ r ∈ l, r.f1 ≤ 3000) (h : vldB S W Ln = false) => (⟨fun w => conflicts_inv h A l.length c w, fun w hC => persistent_inv h A c l w hC (by omega) hh, fun w hC => misses_inv h A c l w hC (by omega) hh⟩ : (∀ w : World, _) ∧ (∀ w, k44.C w A l.length l → _) ∧ (∀ w, k44.C w A l.length l → _))
  rw [hn] at hr hc hn12 hcv hci ⊢
  have hmost := fun A c w h h2 => hmo A c n w hn h h2
  have HV := Lib.hid hv
  clear hmo hn hv
  by_cases hv3 : v ≤ 3000
  case neg =>
    go_enter Try.func3, Try.ntmps3
    go_wp2_with (first
      | (go_at_call 12; refine Calls.mono (hmost A2 c2 _ hP2 hc2) ?_; rintro e w3 ⟨rfl, hb3⟩)
      | (go_at_call 13; refine Calls.mono (plain_at A c n l _ (C_ext hr (by exact (by repeat (first | ((with_reducible refine Ext.set1 ?_ ?_); (first | (focus (simp; done)) | (focus (simp; omega)) | (focus omega))) | (with_reducible refine Ext.alloc ?_ _) | (with_reducible exact Ext.refl _) | (refine Ext.trans ?_ (by with_reducible assumption)))))) hc (by omega)) ?_; rintro e w2 ⟨A2, c2, rfl, hc2, hP2, hR2, hb2⟩)
      | (go_at_call 11; refine Calls.mono (awake_yes _) ?_; rintro e w1 ⟨rfl, hb1⟩; obtain ⟨a0, a1, a2⟩ := Blk.c3 (w := w1) (B := w.heap.size) (by repeat (first | (with_reducible assumption) | ((with_reducible refine Blk.new ?_); (first | (focus rfl) | (focus (simp; done)) | (focus omega))) | ((with_reducible refine Blk.set1 ?_ ?_); (focus omega)) | (with_reducible refine Blk.alloc ?_) | (refine Blk.ext ?_ (by with_reducible assumption))))))
    go_ret
    exact ⟨rfl, (by repeat (first | ((with_reducible refine Ext.set1 ?_ ?_); (first | (focus (simp; done)) | (focus (simp; omega)) | (focus omega))) | (with_reducible refine Ext.alloc ?_ _) | (with_reducible exact Ext.refl _) | (refine Ext.trans ?_ (by with_reducible assumption))))⟩
  case pos =>
    have HH := Lib.hid (HV.out.1 hv3)
    cases hvl : vldB S W Ln with
    | false =>
      obtain ⟨hcf, hpe, hmi⟩ := hci HH.out hvl
      have HVL := Lib.hid hvl
      clear hvl hcv hci
      go_enter Try.func3, Try.ntmps3
      go_wp2_with (first
        | (go_at_call 12; refine Calls.mono (hmost A2 c2 _ hP2 hc2) ?_; rintro e w3 ⟨rfl, hb3⟩)
        | (go_at_call 13; refine Calls.mono (plain_at A c n l _ (C_ext hr (by exact (by repeat (first | ((with_reducible refine Ext.set1 ?_ ?_); (first | (focus (simp; done)) | (focus (simp; omega)) | (focus omega))) | (with_reducible refine Ext.alloc ?_ _) | (with_reducible exact Ext.refl _) | (refine Ext.trans ?_ (by with_reducible assumption)))))) hc (by omega)) ?_; rintro e w2 ⟨A2, c2, rfl, hc2, hP2, hR2, hb2⟩)
        | (go_at_call 11; refine Calls.mono (awake_yes _) ?_; rintro e w1 ⟨rfl, hb1⟩; obtain ⟨a0, a1, a2⟩ := Blk.c3 (w := w1) (B := w.heap.size) (by repeat (first | (with_reducible assumption) | ((with_reducible refine Blk.new ?_); (first | (focus rfl) | (focus (simp; done)) | (focus omega))) | ((with_reducible refine Blk.set1 ?_ ?_); (focus omega)) | (with_reducible refine Blk.alloc ?_) | (refine Blk.ext ?_ (by with_reducible assumption))))))
      have kc : Blk w3 w.heap.size (.cells #[.int .i64 S, .int .i64 W, .int .i64 Ln] 23) := (by repeat (first | (with_reducible assumption) | ((with_reducible refine Blk.new ?_); (first | (focus rfl) | (focus (simp; done)) | (focus omega))) | ((with_reducible refine Blk.set1 ?_ ?_); (focus omega)) | (with_reducible refine Blk.alloc ?_) | (refine Blk.ext ?_ (by with_reducible assumption))))
      have hx3 : Ext w w3 := (by repeat (first | ((with_reducible refine Ext.set1 ?_ ?_); (first | (focus (simp; done)) | (focus (simp; omega)) | (focus omega))) | (with_reducible refine Ext.alloc ?_ _) | (with_reducible exact Ext.refl _) | (refine Ext.trans ?_ (by with_reducible assumption))))
      clear hb1 hb2 hb3 a0 a1 a2
      have hr3 := C_ext hr hx3
      refine wp_region_e (by kernel_rfl) ?_
      repeat (
        first
          | go_big_quiet_skip
          | (go_big_quiet_want
             go_big_quiet_op
             first
               | go_big_quiet_on
               | (apply Exists.intro
                  refine ⟨fun w' hw' => ?_, ?_⟩
                  · (first
                    | (go_at_call 14; refine Calls.mono (hcf w') ?_; rintro e w'' ⟨rfl, hx⟩; exact ⟨rfl, hw'.trans hx⟩)
                    | (go_at_call 15; refine Calls.mono (hpe w' (C_ext hr3 hw')) ?_; rintro e w'' ⟨rfl, hx⟩; exact ⟨rfl, hw'.trans hx⟩)
                    | (go_at_call 16; refine Calls.mono (hmi w' (C_ext hr3 hw')) ?_; rintro e w'' ⟨rfl, hx⟩; exact ⟨rfl, hw'.trans hx⟩)
                    | (obtain ⟨q0, q1, q2⟩ := (kc.ext hw').c3; go_simp; rfl))
                  go_big_quiet_on)))
      refine wpQuiet_nil ?_
      intro w4 hb4
      have kc4 := kc.ext hb4
      obtain ⟨a0, a1, a2⟩ := kc4.c3
      go_wp2_with (first
        | (go_at_call 18; refine Calls.mono (flush_inv HVL.out _) ?_; rintro e w6 ⟨rfl, hb6⟩)
        | (go_at_call 17; refine Calls.mono (valid_no HVL.out _) ?_; rintro e w5 ⟨rfl, hb5⟩; obtain ⟨d0, d1, d2⟩ := (kc4.ext hb5).c3))
      go_ret
      exact ⟨rfl, hx3.trans (hb4.trans (hb5.trans hb6))⟩
    | true =>
      have g := (vld_iff _ _ _).1 hvl
      obtain ⟨L, hL⟩ := exists_lines l
      obtain ⟨hcf, hpe, hmi⟩ := hcv HH.out g L hL
      have HL := Lib.hid hL
      clear hvl hcv hci hL
      have hs1 := g.s1
      have hs64 := g.s64
      have hw1 := g.w1
      have hw8 := g.w8
      have hX1 : S * W ≤ 64 * 8 := Int.mul_le_mul hs64 hw8 (by omega) (by omega)
      have hX0 : 0 ≤ S * W := Int.mul_nonneg (by omega) (by omega)
      have hfl := fun w => flush_at g w
      obtain ⟨X, hX⟩ : ∃ X, S * W = X := ⟨_, rfl⟩
      rw [hX] at hX0 hX1 hfl
      go_enter Try.func3, Try.ntmps3
      go_wp2_with (first
        | (go_at_call 12; refine Calls.mono (hmost A2 c2 _ hP2 hc2) ?_; rintro e w3 ⟨rfl, hb3⟩)
        | (go_at_call 13; refine Calls.mono (plain_at A c n l _ (C_ext hr (by exact (by repeat (first | ((with_reducible refine Ext.set1 ?_ ?_); (first | (focus (simp; done)) | (focus (simp; omega)) | (focus omega))) | (with_reducible refine Ext.alloc ?_ _) | (with_reducible exact Ext.refl _) | (refine Ext.trans ?_ (by with_reducible assumption)))))) hc (by omega)) ?_; rintro e w2 ⟨A2, c2, rfl, hc2, hP2, hR2, hb2⟩)
        | (go_at_call 11; refine Calls.mono (awake_yes _) ?_; rintro e w1 ⟨rfl, hb1⟩; obtain ⟨a0, a1, a2⟩ := Blk.c3 (w := w1) (B := w.heap.size) (by repeat (first | (with_reducible assumption) | ((with_reducible refine Blk.new ?_); (first | (focus rfl) | (focus (simp; done)) | (focus omega))) | ((with_reducible refine Blk.set1 ?_ ?_); (focus omega)) | (with_reducible refine Blk.alloc ?_) | (refine Blk.ext ?_ (by with_reducible assumption))))))
      have kc : Blk w3 w.heap.size (.cells #[.int .i64 S, .int .i64 W, .int .i64 Ln] 23) := (by repeat (first | (with_reducible assumption) | ((with_reducible refine Blk.new ?_); (first | (focus rfl) | (focus (simp; done)) | (focus omega))) | ((with_reducible refine Blk.set1 ?_ ?_); (focus omega)) | (with_reducible refine Blk.alloc ?_) | (refine Blk.ext ?_ (by with_reducible assumption))))
      have hx3 : Ext w w3 := (by repeat (first | ((with_reducible refine Ext.set1 ?_ ?_); (first | (focus (simp; done)) | (focus (simp; omega)) | (focus omega))) | (with_reducible refine Ext.alloc ?_ _) | (with_reducible exact Ext.refl _) | (refine Ext.trans ?_ (by with_reducible assumption))))
      clear hb1 hb2 hb3 a0 a1 a2
      have hr3 := C_ext hr hx3
      obtain ⟨a0, a1, a2⟩ := kc.c3
      go_region_held3 (fun w' => w'.cell? ⟨w.heap.size, 0, none⟩ = some (.int .i64 S) ∧ w'.cell? ⟨w.heap.size, 1, none⟩ = some (.int .i64 W) ∧ w'.cell? ⟨w.heap.size, 2, none⟩ = some (.int .i64 Ln)) (go_keep)
        (first
          | (have gq := hE32; clear gq; go_at_call 16; (with_reducible refine Calls.mono (hmi _ (C_ext hr3 hE32)) ?_); rintro e w33 ⟨rfl, hb33⟩; have hE33 := hE32.trans hb33; obtain ⟨u0, u1, u2⟩ := (kc.ext hE33).c3)
          | (have gq := hE31; clear gq; go_at_call 15; (with_reducible refine Calls.mono (hpe _ (C_ext hr3 hE31)) ?_); rintro e w32 ⟨A32, c32, rfl, hR32, hb32⟩; obtain ⟨A9, c9, e9, _, hC32⟩ := hR32.C; cases e9; have hE32 := hE31.trans hb32; obtain ⟨u0, u1, u2⟩ := (kc.ext hE32).c3)
          | (go_at_call 14; (with_reducible refine Calls.mono (hcf _ (C_ext hr3 (Ext.drew (Ext.refl _)))) ?_); rintro e w31 ⟨A31, c31, rfl, hmc31, hR31, _, hb31⟩; obtain ⟨A9, c9, e9, _, hC31⟩ := hR31.C; rw [confs_len] at hC31 e9; cases e9; have hE31 : Ext w3 w31 := (Ext.drew (Ext.refl _)).trans hb31; obtain ⟨u0, u1, u2⟩ := (kc.ext hE31).c3))
      all_goals
        have kc4 := kc.ext hE33
        have hr4 := C_ext hr3 hE33
        have hC31' := C_ext hC31 (hb32.trans hb33)
        have hC32' := C_ext hC32 hb33
        clear hmi hcf hpe a0 a1 a2
        obtain ⟨a0, a1, a2⟩ := kc4.c3
        go_wp2_with (first
          | (go_at_call 17; refine Calls.mono (valid_yes g _) ?_; rintro e w34 ⟨rfl, hb34⟩))
        have kc5 := kc4.ext hb34
        have hr5 := C_ext hr4 hb34
        obtain ⟨d0, d1, d2⟩ := kc5.c3
        have hC31 := C_ext hC31' hb34
        have hC32 := C_ext hC32' hb34
        have hx5 : Ext w w34 := hx3.trans (hE33.trans hb34)
        clear hC31' hC32' hr3 hr4 kc kc4 a0 a1 a2 hE31 hE32 hE33 hb31 hb32 hb33 hb34 hR31 hR32 hR2 hP2
        go_region_held3 (fun w' => w'.cell? ⟨w.heap.size, 0, none⟩ = some (.int .i64 S) ∧ w'.cell? ⟨w.heap.size, 1, none⟩ = some (.int .i64 W) ∧ w'.cell? ⟨w.heap.size, 2, none⟩ = some (.int .i64 Ln)) (go_keep)
          (first
            | (go_at_call 19; (with_reducible refine Calls.mono (persR_at g A41 c41 n l L HL.out _ hR41 hc41 (by omega) HH.out) ?_); rintro e w42 ⟨A42, c42, rfl, hC42, hb42⟩; have hE42 := hE41.trans hb42; obtain ⟨u0, u1, u2⟩ := (kc5.ext hE42).c3)
            | (go_at_call 13; (with_reducible refine Calls.mono (plain_at A c n l _ (C_ext hr5 (Ext.drew (Ext.refl _))) hc (by omega)) ?_); rintro e w41 ⟨A41, c41, rfl, hc41, hP41, hR41, hb41⟩; have hE41 : Ext w34 w41 := (Ext.drew (Ext.refl _)).trans hb41; obtain ⟨u0, u1, u2⟩ := (kc5.ext hE41).c3))
        all_goals
          have kc6 := kc5.ext hE42
          have hr6 := C_ext hr5 hE42
          have hC31x := C_ext hC31 hE42
          have hC32x := C_ext hC32 hE42
          have hx6 := hx5.trans hE42
          clear d0 d1 d2 hC31 hC32 hr5 kc5 hE41 hP41 hR41
          obtain ⟨d0, d1, d2⟩ := kc6.c3
          have hwr : IntKind.i64.wrap (S * W) = X := by rw [hX]; exact IntWalk.i64_in _ (by omega)
          go_wp2
          go_region_held3 (fun w' => w'.cell? ⟨w.heap.size, 0, none⟩ = some (.int .i64 S) ∧ w'.cell? ⟨w.heap.size, 1, none⟩ = some (.int .i64 W) ∧ w'.cell? ⟨w.heap.size, 2, none⟩ = some (.int .i64 Ln)) (go_keep)
            (first
              | (have gq := hE54; clear gq; go_at_call 18; (with_reducible refine Calls.mono (hfl _) ?_); rintro e w55 ⟨rfl, hb55⟩; have hE55 := hE54.trans hb55; obtain ⟨u0, u1, u2⟩ := (kc6.ext hE55).c3)
              | (have gq := hE53; clear gq; go_at_call 20; (with_reducible refine Calls.mono (ints_yes _ _ _ _ _ (pers W S.toNat L) _ (C_ext hC32x hE53) (C_ext hC42 hE53)) ?_); rintro e w54 ⟨rfl, hb54⟩; have hE54 := hE53.trans hb54; obtain ⟨u0, u1, u2⟩ := (kc6.ext hE54).c3)
              | (have gq := hE52; clear gq; go_at_call 20; (with_reducible refine Calls.mono (ints_yes _ _ _ _ _ (confs S.toNat L) _ (C_ext hC31x hE52) hC52) ?_); rintro e w53 ⟨rfl, hb53⟩; have hE53 := hE52.trans hb53; obtain ⟨u0, u1, u2⟩ := (kc6.ext hE53).c3)
              | (go_at_call 21; (with_reducible refine Calls.mono (conflR_at g A51 c51 n l L HL.out _ hR51 hc51 (by omega) HH.out) ?_); rintro e w52 ⟨A52, c52, rfl, hc52, hC52, hb52⟩; have hE52 := hE51.trans hb52; obtain ⟨u0, u1, u2⟩ := (kc6.ext hE52).c3)
              | (go_at_call 13; (with_reducible refine Calls.mono (plain_at A c n l _ (C_ext hr6 (Ext.drew (Ext.refl _))) hc (by omega)) ?_); rintro e w51 ⟨A51, c51, rfl, hc51, hP51, hR51, hb51⟩; have hE51 : Ext w42 w51 := (Ext.drew (Ext.refl _)).trans hb51; obtain ⟨u0, u1, u2⟩ := (kc6.ext hE51).c3))
          all_goals
            go_wp2
            go_ret
            exact ⟨by simp; exact (IntWalk.i64_in X (by omega)).symm, hx6.trans hE55⟩
end Go.Proofs.Ytdbgnniedcibeaa
