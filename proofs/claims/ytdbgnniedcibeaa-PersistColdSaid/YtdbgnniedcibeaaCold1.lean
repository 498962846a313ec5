/- The walk of ontimelaw32.PersistCold. -/
import Derived.Test.YtdbgnniedcibeaaCold0
import Derived.Test.YtdbgnniedcibeaaCacheF
namespace Go.Proofs.Ytdbgnniedcibeaa
open Go.RowKit Go.Maps Go.Proofs.YtdbgnniedcibeaaW.PrintWords Go.Proofs.Ytdbgnniedcibeaa.Pusable
set_option linter.unusedVariables false

abbrev KU : Kd Int := Kd.int .u16
theorem at_u16 {w : World} {A : Option Addr} {n : Nat} {xs : List Int} (h : KU.C w A n xs) (k : Nat) (hk : k < n) : ∃ ad, A = some ad ∧ w.cell? (ad.add k) = some (.int .u16 (xs.getD k 0)) := by
  obtain ⟨ad, e, hc⟩ := Kd.at_int h (k : Int) (by omega) (by omega)
  exact ⟨ad, e, by simpa [rd] using hc⟩
theorem valid_no {S W L : Int} (h : vldB S W L = false) (w : World) :
    Calls Try.prog 17 #[.agg #[.int .i64 S, .int .i64 W, .int .i64 L]] w fun e w' => e = .returned (.bool false) ∧ Ext w w' := by
  have := valid_any S W L w
  rw [h] at this
  exact this

set_option maxHeartbeats 1000000 in
theorem cold_no (S W Ln : Int) (A : Option Addr) (c : Nat) (l : List Int) (B : Option Addr) (d : Nat) (k : List Int) (w : World) (hl : l.length ≤ 9223372036854775807) (hk : k.length ≤ 9223372036854775807) (hno : ¬ (vldB S W Ln = true ∧ l.length ≤ 100 ∧ k.length ≤ 100)) :
    Calls Try.prog 10 #[.agg #[.int .i64 S, .int .i64 W, .int .i64 Ln], .slice A l.length c, .slice B k.length d] w fun e w' => e = .returned (.bool true) ∧ Ext w w' := by
  cases hv : vldB S W Ln with
  | false =>
    have HV := Lib.hid hv
    clear hv hno
    go_enter Try.func10, Try.ntmps10
    go_wp2_with (first
      | (go_at_call 17; refine Calls.mono (valid_no HV.out _) ?_; rintro e w2 ⟨rfl, hb2⟩)
      | (go_at_call 11; refine Calls.mono (awake_yes _) ?_; rintro e w1 ⟨rfl, hb1⟩; obtain ⟨a0, a1, a2⟩ := Blk.c3 (w := w1) (B := w.heap.size) (by repeat (first | (with_reducible assumption) | ((with_reducible refine Blk.new ?_); (first | (focus rfl) | (focus (simp; done)) | (focus omega))) | ((with_reducible refine Blk.set1 ?_ ?_); (focus omega)) | (with_reducible refine Blk.alloc ?_) | (refine Blk.ext ?_ (by with_reducible assumption))))))
    go_ret
    exact ⟨rfl, (by repeat (first | ((with_reducible refine Ext.set1 ?_ ?_); (first | (focus (simp; done)) | (focus (simp; omega)) | (focus omega))) | (with_reducible refine Ext.alloc ?_ _) | (with_reducible exact Ext.refl _) | (refine Ext.trans ?_ (by with_reducible assumption))))⟩
  | true =>
    have g := (vld_iff _ _ _).1 hv
    by_cases h1 : l.length ≤ 100
    · have h2 : 100 < k.length := by
        by_cases h : k.length ≤ 100
        · exact absurd ⟨hv, h1, h⟩ hno
        · omega
      clear hv hno
      go_enter Try.func10, Try.ntmps10
      go_wp2_with (first
        | (go_at_call 17; refine Calls.mono (valid_yes g _) ?_; rintro e w2 ⟨rfl, hb2⟩)
        | (go_at_call 11; refine Calls.mono (awake_yes _) ?_; rintro e w1 ⟨rfl, hb1⟩; obtain ⟨a0, a1, a2⟩ := Blk.c3 (w := w1) (B := w.heap.size) (by repeat (first | (with_reducible assumption) | ((with_reducible refine Blk.new ?_); (first | (focus rfl) | (focus (simp; done)) | (focus omega))) | ((with_reducible refine Blk.set1 ?_ ?_); (focus omega)) | (with_reducible refine Blk.alloc ?_) | (refine Blk.ext ?_ (by with_reducible assumption))))))
      go_ret
      exact ⟨rfl, (by repeat (first | ((with_reducible refine Ext.set1 ?_ ?_); (first | (focus (simp; done)) | (focus (simp; omega)) | (focus omega))) | (with_reducible refine Ext.alloc ?_ _) | (with_reducible exact Ext.refl _) | (refine Ext.trans ?_ (by with_reducible assumption))))⟩
    · have h2 : 100 < l.length := by omega
      clear hv hno h1
      go_enter Try.func10, Try.ntmps10
      go_wp2_with (first
        | (go_at_call 17; refine Calls.mono (valid_yes g _) ?_; rintro e w2 ⟨rfl, hb2⟩)
        | (go_at_call 11; refine Calls.mono (awake_yes _) ?_; rintro e w1 ⟨rfl, hb1⟩; obtain ⟨a0, a1, a2⟩ := Blk.c3 (w := w1) (B := w.heap.size) (by repeat (first | (with_reducible assumption) | ((with_reducible refine Blk.new ?_); (first | (focus rfl) | (focus (simp; done)) | (focus omega))) | ((with_reducible refine Blk.set1 ?_ ?_); (focus omega)) | (with_reducible refine Blk.alloc ?_) | (refine Blk.ext ?_ (by with_reducible assumption))))))
      go_ret
      exact ⟨rfl, (by repeat (first | ((with_reducible refine Ext.set1 ?_ ?_); (first | (focus (simp; done)) | (focus (simp; omega)) | (focus omega))) | (with_reducible refine Ext.alloc ?_ _) | (with_reducible exact Ext.refl _) | (refine Ext.trans ?_ (by with_reducible assumption))))⟩

set_option maxHeartbeats 2000000 in
theorem cold_walk (S W Ln : Int) (A : Option Addr) (c : Nat) (l : List Int) (B : Option Addr) (d : Nat) (k : List Int) (w : World) (hr : KU.C w A l.length l) (hc : l.length ≤ c) (hp : ∀ x ∈ l, 0 ≤ x ∧ x ≤ 65535) (hr2 : KU.C w B k.length k) (hc2 : k.length ≤ d) (hp2 : ∀ x ∈ k, 0 ≤ x ∧ x ≤ 65535) :
    Calls Try.prog 10 #[.agg #[.int .i64 S, .int .i64 W, .int .i64 Ln], .slice A l.length c, .slice B k.length d] w fun e w' => e = .returned (.bool true) ∧ Ext w w' := by
  by_cases hall : vldB S W Ln = true ∧ l.length ≤ 100 ∧ k.length ≤ 100
  case neg => exact cold_no S W Ln A c l B d k w (C_max hr) (C_max hr2) hall
  case pos =>
    obtain ⟨hv, hn1, hn2⟩ := hall
    have g := (vld_iff _ _ _).1 hv
    clear hv
    have hs1 := g.s1
    have hs64 := g.s64
    have hw1 := g.w1
    have hl1 := g.l1
    obtain ⟨m, rfl⟩ : ∃ m : Nat, S = m := ⟨S.toNat, by omega⟩
    have hm0 : 0 < m := by omega
    obtain ⟨n, hn⟩ : ∃ n, l.length = n := ⟨_, rfl⟩
    rw [hn] at hr hc hn1 ⊢
    have HN := Lib.hid hn
    have HP := Lib.hid hp
    clear hn hp
    obtain ⟨n2, hn'⟩ : ∃ n, k.length = n := ⟨_, rfl⟩
    rw [hn'] at hr2 hc2 hn2 ⊢
    have HN2 := Lib.hid hn'
    have HP2 := Lib.hid hp2
    clear hn' hp2
    go_enter Try.func10, Try.ntmps10
    go_wp2_with (first
      | (go_at_call 25; refine Calls.mono (cache_new g _) ?_; rintro e w4 ⟨q, F0, rfl, hca, hb4⟩)
      | (go_at_call 17; refine Calls.mono (valid_yes g _) ?_; rintro e w2 ⟨rfl, hb2⟩; obtain ⟨d0, d1, d2⟩ := Blk.c3 (w := w2) (B := w.heap.size) (by repeat (first | (with_reducible assumption) | ((with_reducible refine Blk.new ?_); (first | (focus rfl) | (focus (simp; done)) | (focus omega))) | ((with_reducible refine Blk.set1 ?_ ?_); (focus omega)) | (with_reducible refine Blk.alloc ?_) | (refine Blk.ext ?_ (by with_reducible assumption)))))
      | (go_at_call 11; refine Calls.mono (awake_yes _) ?_; rintro e w1 ⟨rfl, hb1⟩; obtain ⟨a0, a1, a2⟩ := Blk.c3 (w := w1) (B := w.heap.size) (by repeat (first | (with_reducible assumption) | ((with_reducible refine Blk.new ?_); (first | (focus rfl) | (focus (simp; done)) | (focus omega))) | ((with_reducible refine Blk.set1 ?_ ?_); (focus omega)) | (with_reducible refine Blk.alloc ?_) | (refine Blk.ext ?_ (by with_reducible assumption))))))
    have kc : Blk w4 w.heap.size (.cells #[.int .i64 (m : Int), .int .i64 W, .int .i64 Ln] 23) := (by repeat (first | (with_reducible assumption) | ((with_reducible refine Blk.new ?_); (first | (focus rfl) | (focus (simp; done)) | (focus omega))) | ((with_reducible refine Blk.set1 ?_ ?_); (focus omega)) | (with_reducible refine Blk.alloc ?_) | (refine Blk.ext ?_ (by with_reducible assumption))))
    have hx4 : Ext w w4 := (by repeat (first | ((with_reducible refine Ext.set1 ?_ ?_); (first | (focus (simp; done)) | (focus (simp; omega)) | (focus omega))) | (with_reducible refine Ext.alloc ?_ _) | (with_reducible exact Ext.refl _) | (refine Ext.trans ?_ (by with_reducible assumption))))
    have zca : CaB w4 w.heap.size q (m : Int) W Ln F0 (List.replicate (m : Int).toNat []) := hca.lower (by have := hb2.size; have := hb1.size; simp at this; omega)
    have HD0 : Hid (Rows (m : Int) W (List.replicate (m : Int).toNat [])) := rows_empty hs1 hw1
    clear hca hb1 hb2 hb4 a0 a1 a2 d0 d1 d2
    go_loopw [40] (fun i wr => ∃ (j : Nat) (F : Nat → Prop) (rows : List (List Int)), i = .int .i64 j ∧ j ≤ n ∧ (CaB wr w.heap.size q (m : Int) W Ln F rows ∧ Blk wr w.heap.size (.cells #[.int .i64 (m : Int), .int .i64 W, .int .i64 Ln] 23) ∧ Ext w wr) ∧ Hid (Rows (m : Int) W rows)) (fun i _ => n - (Go.RowKit.intOf i).toNat)
    case atStart => exact ⟨0, F0, _, rfl, Nat.zero_le _, ⟨zca, kc, hx4⟩, HD0⟩
    case round =>
      clear zca kc hx4 HD0
      obtain ⟨j, F, rows, rfl, hj, ⟨hca, kc, hext⟩, HD⟩ := hrel
      have hbw := hext.size
      by_cases hlt : j < n
      · obtain ⟨ad, rfl, hcell⟩ := at_u16 (C_ext hr hext) j hlt
        have hxb := HP.out (l.getD j 0) (by rw [List.getD_eq_getElem?_getD, List.getElem?_eq_getElem (by rw [HN.out]; exact hlt)]; exact List.getElem_mem _)
        obtain ⟨a, hx⟩ : ∃ x, x = l.getD j 0 := ⟨_, rfl⟩
        rw [← hx] at hcell hxb
        clear hx
        obtain ⟨b0, b1⟩ := hxb
        have hX1 := Int.emod_nonneg a (show (400 : Int) ≠ 0 by omega)
        have hX2 := Int.emod_lt_of_pos a (show (0 : Int) < 400 by omega)
        obtain ⟨X, hX⟩ : ∃ X, a % 400 = X := ⟨_, rfl⟩
        rw [hX] at hX1 hX2
        go_wp2_with (go_at_call 27; refine Calls.mono (cache_access (base := w.heap.size) g hca HD.out X hX1 (by omega) hbw) ?_; rintro e w5 ⟨rfl, F5, hc5, hF5, hf5⟩)
        refine ⟨⟨j + 1, F5, _, by go_num, by omega, ⟨hc5, hca.keep hf5 kc (by decide) (by decide), hext.fr hf5 hca.fromB⟩, HD.out.acc hs1 hw1 (Int.ediv_nonneg hX1 (by omega))⟩, ?_⟩
        simp [Go.RowKit.intOf]
        omega
      · obtain rfl : j = n := by omega
        obtain ⟨wp, hwp⟩ : ∃ wp, wp = wr := ⟨wr, rfl⟩
        subst hwp
        go_wp2_with (first
          | (go_at_call 28; refine Calls.mono (cache_flush g hcl) ?_; rintro e w6 ⟨rfl, g6, hc6, hg6, hf6⟩)
          | (go_at_call 30; refine Calls.mono (cache_clone g hca HD.out) ?_; rintro e w5 ⟨q2, G5, rfl, hcl, hb5⟩))
        have hq2 := hcl.qlt
        have hz5 := hb5.size
        have hq := hca.qlt
        have hFl := hca.lt
        have xca : CaB w6 w.heap.size q (m : Int) W Ln F rows := (hca.ext hb5).fr hf6 (fun k hk e => by have := hFl k hk; omega) (by omega)
        have yca : CaB w6 w.heap.size q2 (m : Int) W Ln (fun k => k = g6) (List.replicate (m : Int).toNat []) := hc6.lower hbw
        have kc6 := (kc.ext hb5).fr hf6 (show ¬ w.heap.size = q2 by have := kc.lt; omega)
        have hx6 : Ext w w6 := (hext.trans hb5).fr hf6 (fun k e => by omega)
        have HD6 : Hid (Rows (m : Int) W rows ∧ Rows (m : Int) W (List.replicate (m : Int).toNat []) ∧ Pre rows (List.replicate (m : Int).toNat []) ∧ 0 ≤ 0 ∧ 0 ≤ 0 + tot m (List.replicate (m : Int).toNat [])) := ⟨HD.out, rows_empty hs1 hw1, pre_start _, Nat.le_refl _, Nat.zero_le _⟩
        have hdis0 : ∀ k, F k → ¬ k = g6 := fun k hk e => by have := hFl k hk; omega
        have hng0 : ¬ q = g6 := by omega
        have hnf0 : ¬ F q2 := fun h => by have := hFl q2 h; omega
        clear hcl hca kc hext HD hb5 hc6 hf6 hFl
        go_loopw [12, 13, 58] (fun mv nv i wr => ∃ (j : Nat) (F G : Nat → Prop) (rx ry : List (List Int)) (mm nn : Nat), i = .int .i64 j ∧ mv = .int .i64 mm ∧ nv = .int .i64 nn ∧ j ≤ n2 ∧ mm ≤ j ∧ nn ≤ j ∧ (CaB wr w.heap.size q (m : Int) W Ln F rx ∧ CaB wr w.heap.size q2 (m : Int) W Ln G ry ∧ (∀ k, F k → ¬ G k) ∧ ¬ G q ∧ ¬ F q2 ∧ Blk wr w.heap.size (.cells #[.int .i64 (m : Int), .int .i64 W, .int .i64 Ln] 23) ∧ Ext w wr) ∧
            Hid (Rows (m : Int) W rx ∧ Rows (m : Int) W ry ∧ Pre rx ry ∧ mm ≤ nn ∧ nn ≤ mm + tot m ry)) (fun _ _ i _ => n2 - (Go.RowKit.intOf i).toNat)
        case atStart => exact ⟨0, F, _, rows, _, 0, 0, rfl, rfl, rfl, Nat.zero_le _, Nat.le_refl _, Nat.le_refl _, ⟨xca, yca, hdis0, hng0, hnf0, kc6, hx6⟩, HD6⟩
        case round =>
          clear xca yca kc6 hx6 HD6 hdis0 hng0 hnf0
          obtain ⟨j, F, G, rx, ry, mm, nn, rfl, rfl, rfl, hj2, hmj, hnj, ⟨xca, yca, hdis, hng, hnf, kc, hext2⟩, HD2⟩ := hrel
          have hbw2 := hext2.size
          by_cases hlt2 : j < n2
          · obtain ⟨ad, rfl, hcell⟩ := at_u16 (C_ext hr2 hext2) j hlt2
            have hxb := HP2.out (k.getD j 0) (by rw [List.getD_eq_getElem?_getD, List.getElem?_eq_getElem (by rw [HN2.out]; exact hlt2)]; exact List.getElem_mem _)
            obtain ⟨a, hx⟩ : ∃ x, x = k.getD j 0 := ⟨_, rfl⟩
            rw [← hx] at hcell hxb
            clear hx
            obtain ⟨b0, b1⟩ := hxb
            have hX1 := Int.emod_nonneg a (show (400 : Int) ≠ 0 by omega)
            have hX2 := Int.emod_lt_of_pos a (show (0 : Int) < 400 by omega)
            obtain ⟨X, hX⟩ : ∃ X, a % 400 = X := ⟨_, rfl⟩
            rw [hX] at hX1 hX2
            have hY0 : 0 ≤ X / Ln := Int.ediv_nonneg hX1 (by omega)
            obtain ⟨Y, hY⟩ : ∃ Y, X / Ln = Y := ⟨_, rfl⟩
            rw [hY] at hY0
            obtain ⟨st1, st2, st3, st4⟩ := cold_step hm0 hw1 HD2.out.1 HD2.out.2.1 HD2.out.2.2.1 hY0
            have ST2 := Lib.hid st2
            have ST3 := Lib.hid st3
            have ST4 := Lib.hid st4
            clear st2 st3 st4
            have HLO : Hid (mm ≤ nn ∧ nn ≤ mm + tot m ry) := HD2.out.2.2.2
            by_cases c2 : Y ∈ rx.getD (Y % (m : Int)).toNat []
            · by_cases c1 : Y ∈ ry.getD (Y % (m : Int)).toNat []
              · go_wp2_with (first
                  | (have gq := hf8; clear gq; go_at_call 27; refine Calls.mono (cache_access (base := w.heap.size) (q := q2) g (yca.fr hf8 (fun k hk hF => hdis k hF hk) hnf) HD2.out.2.1 X hX1 (by omega) (by have := hf8.size; omega)) ?_; rw [hY, decide_eq_true c1]; rintro e w9 ⟨rfl, G9, hc9, hG9, hf9⟩)
                  | (go_at_call 27; refine Calls.mono (cache_access (base := w.heap.size) (q := q) g xca HD2.out.1 X hX1 (by omega) hbw2) ?_; rw [hY, decide_eq_true c2]; rintro e w8 ⟨rfl, F8, hc8, hF8, hf8⟩))
                have hz8 := hf8.size
                have hz9 := hf9.size
                have hd8 : ∀ k, F8 k → ¬ G k := fun k hk hg => by
                  rcases hF8 k hk with h | h
                  · exact hdis k h hg
                  · have := yca.lt k hg; omega
                have xca9 := hc8.fr hf9 hd8 hng
                refine ⟨⟨j + 1, F8, G9, _, _, mm, nn, by go_num, by go_num, by go_num, by omega, by omega, by omega, ⟨xca9, hc9, fun k hk hg => ?_, fun h => ?_, fun h => ?_, ((xca.keep hf8 kc (by decide) (by decide)).fr hf9 fun h => ?_), (hext2.fr hf8 xca.fromB).fr hf9 yca.fromB⟩, HD2.out.1.acc hs1 hw1 hY0, HD2.out.2.1.acc hs1 hw1 hY0, st1, HLO.out.1, by have := HLO.out.2; have := ST3.out; omega⟩, ?_⟩
                · rcases hG9 k hg with h | h
                  · exact hd8 k hk h
                  · have := hc8.lt k hk; omega
                · rcases hG9 q h with h | h
                  · exact hng h
                  · have := xca.qlt.2; omega
                · rcases hF8 q2 h with h | h
                  · exact hnf h
                  · have := yca.qlt.2; omega
                · exact yca.out kc (cells_ne (by decide) (by decide)) h
                · simp [Go.RowKit.intOf]
                  omega
              · go_wp2_with (first
                  | (have gq := hf8; clear gq; go_at_call 27; refine Calls.mono (cache_access (base := w.heap.size) (q := q2) g (yca.fr hf8 (fun k hk hF => hdis k hF hk) hnf) HD2.out.2.1 X hX1 (by omega) (by have := hf8.size; omega)) ?_; rw [hY, decide_eq_false c1]; rintro e w9 ⟨rfl, G9, hc9, hG9, hf9⟩)
                  | (go_at_call 27; refine Calls.mono (cache_access (base := w.heap.size) (q := q) g xca HD2.out.1 X hX1 (by omega) hbw2) ?_; rw [hY, decide_eq_true c2]; rintro e w8 ⟨rfl, F8, hc8, hF8, hf8⟩))
                have hz8 := hf8.size
                have hz9 := hf9.size
                have hd8 : ∀ k, F8 k → ¬ G k := fun k hk hg => by
                  rcases hF8 k hk with h | h
                  · exact hdis k h hg
                  · have := yca.lt k hg; omega
                have xca9 := hc8.fr hf9 hd8 hng
                refine ⟨⟨j + 1, F8, G9, _, _, mm, nn + 1, by go_num, by go_num, by go_num, by omega, by omega, by omega, ⟨xca9, hc9, fun k hk hg => ?_, fun h => ?_, fun h => ?_, ((xca.keep hf8 kc (by decide) (by decide)).fr hf9 fun h => ?_), (hext2.fr hf8 xca.fromB).fr hf9 yca.fromB⟩, HD2.out.1.acc hs1 hw1 hY0, HD2.out.2.1.acc hs1 hw1 hY0, st1, by have := HLO.out.1; omega, by have := HLO.out.2; have := ST4.out c1 c2; omega⟩, ?_⟩
                · rcases hG9 k hg with h | h
                  · exact hd8 k hk h
                  · have := hc8.lt k hk; omega
                · rcases hG9 q h with h | h
                  · exact hng h
                  · have := xca.qlt.2; omega
                · rcases hF8 q2 h with h | h
                  · exact hnf h
                  · have := yca.qlt.2; omega
                · exact yca.out kc (cells_ne (by decide) (by decide)) h
                · simp [Go.RowKit.intOf]
                  omega
            · have c1 : ¬ Y ∈ ry.getD (Y % (m : Int)).toNat [] := fun h => c2 (ST2.out h)
              go_wp2_with (first
                | (have gq := hf8; clear gq; go_at_call 27; refine Calls.mono (cache_access (base := w.heap.size) (q := q2) g (yca.fr hf8 (fun k hk hF => hdis k hF hk) hnf) HD2.out.2.1 X hX1 (by omega) (by have := hf8.size; omega)) ?_; rw [hY, decide_eq_false c1]; rintro e w9 ⟨rfl, G9, hc9, hG9, hf9⟩)
                | (go_at_call 27; refine Calls.mono (cache_access (base := w.heap.size) (q := q) g xca HD2.out.1 X hX1 (by omega) hbw2) ?_; rw [hY, decide_eq_false c2]; rintro e w8 ⟨rfl, F8, hc8, hF8, hf8⟩))
              have hz8 := hf8.size
              have hz9 := hf9.size
              have hd8 : ∀ k, F8 k → ¬ G k := fun k hk hg => by
                rcases hF8 k hk with h | h
                · exact hdis k h hg
                · have := yca.lt k hg; omega
              have xca9 := hc8.fr hf9 hd8 hng
              refine ⟨⟨j + 1, F8, G9, _, _, mm + 1, nn + 1, by go_num, by go_num, by go_num, by omega, by omega, by omega, ⟨xca9, hc9, fun k hk hg => ?_, fun h => ?_, fun h => ?_, ((xca.keep hf8 kc (by decide) (by decide)).fr hf9 fun h => ?_), (hext2.fr hf8 xca.fromB).fr hf9 yca.fromB⟩, HD2.out.1.acc hs1 hw1 hY0, HD2.out.2.1.acc hs1 hw1 hY0, st1, by have := HLO.out.1; omega, by have := HLO.out.2; have := ST3.out; omega⟩, ?_⟩
              · rcases hG9 k hg with h | h
                · exact hd8 k hk h
                · have := hc8.lt k hk; omega
              · rcases hG9 q h with h | h
                · exact hng h
                · have := xca.qlt.2; omega
              · rcases hF8 q2 h with h | h
                · exact hnf h
                · have := yca.qlt.2; omega
              · exact yca.out kc (cells_ne (by decide) (by decide)) h
              · simp [Go.RowKit.intOf]
                omega
          · obtain rfl : j = n2 := by omega
            have hflu := fun (w' : World) => flush_at g w'
            obtain ⟨h1, h2⟩ := HD2.out.2.2.2
            have h3 := tot_le (m := m) HD2.out.2.1 (show 0 ≤ W by omega)
            obtain ⟨X, hX⟩ : ∃ X, (m : Int) * W = X := ⟨_, rfl⟩
            rw [hX] at hflu h3
            clear hX
            obtain ⟨s0, s1, s2⟩ := kc.c3
            go_wp2_with (go_at_call 18; refine Calls.mono (hflu _) ?_; rintro e w9 ⟨rfl, hb9⟩)
            go_ret
            exact ⟨by simp; omega, hext2.trans hb9⟩
end Go.Proofs.Ytdbgnniedcibeaa
