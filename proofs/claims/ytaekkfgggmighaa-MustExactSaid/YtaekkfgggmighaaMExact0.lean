/- The walk of ontimelaw30.MustExact. -/
import Derived.Test.YtaekkfgggmighaaMuX
import Derived.Test.YtaekkfgggmighaaOpenM
import Derived.Deep.RegionHeld3
import Derived.Deep.DeepCutAuto
import Derived.Deep.CutRange
import Derived.Deep.DrawnRows
namespace Go.Proofs.Ytaekkfgggmighaa
open Go.RowKit Go.Maps Go.Proofs.YtaekkfgggmighaaW.PrintWords
set_option linter.unusedVariables false
attribute [local go_sem ↓] Go.wp_at_zero Go.wp_at_succ

abbrev K8 : Kd Int := Kd.int .u8
theorem at_u8 {w : World} {A : Option Addr} {n : Nat} {xs : List Int} (h : K8.C w A n xs) (k : Nat) (hk : k < n) : ∃ ad, A = some ad ∧ w.cell? (ad.add k) = some (.int .u8 (xs.getD k 0)) := by
  obtain ⟨ad, e, hc⟩ := Kd.at_int h (k : Int) (by omega) (by omega)
  exact ⟨ad, e, by simpa [rd] using hc⟩
/-- The lines of the first k rows. -/
def cnt (rows : List (List Int)) (k : Nat) : Nat := (rows.take k).flatten.length
theorem cnt_zero (rows : List (List Int)) : cnt rows 0 = 0 := by simp [cnt]
theorem cnt_succ {rows : List (List Int)} {k : Nat} (h : k < rows.length) : cnt rows (k + 1) = cnt rows k + (rows.getD k []).length := by
  unfold cnt
  rw [List.getD, List.getElem?_eq_getElem h, List.take_add_one, List.getElem?_eq_getElem h]
  simp only [Option.toList_some, List.flatten_append, List.length_append, List.flatten_cons, List.flatten_nil, List.append_nil, Option.getD_some]
theorem cnt_le {S W : Int} {rows : List (List Int)} (hr : Rows S W rows) (hw8 : W ≤ 8) : ∀ k, k ≤ rows.length → cnt rows k ≤ 8 * k
  | 0, _ => by rw [cnt_zero]; omega
  | k + 1, h => by
    rw [cnt_succ (by omega)]
    have h1 := cnt_le hr hw8 k (by omega)
    have h2 := hr.short k
    omega
theorem cnt_all (rows : List (List Int)) : cnt rows rows.length = rows.flatten.length := by simp [cnt]

set_option maxHeartbeats 1000000 in
theorem exact_no (S W L : Int) (A : Option Addr) (c : Nat) (l : List Int) (w : World) (hv : vldB S W L = false) :
    Calls Try.prog 9 #[.agg #[.int .i64 S, .int .i64 W, .int .i64 L], .slice A l.length c] w fun e w' => e = .returned (.bool true) ∧ Ext w w' := by
  have HV := Lib.hid hv; clear hv
  go_enter Try.func9, Try.ntmps9
  go_wp2_with (first
    | (go_at_call 21; refine Calls.mono (must_new_no HV.out _) ?_; rintro e w5 ⟨rfl, hb5⟩)
    | (go_at_call 14; refine Calls.mono (cache_new_no HV.out _) ?_; rintro e w4 ⟨rfl, hb4⟩; obtain ⟨j0, j1, j2⟩ := Blk.c3 (w := w4) (B := w.heap.size) (by repeat (first | (with_reducible assumption) | ((with_reducible refine Blk.new ?_); (first | (focus rfl) | (focus (simp; done)) | (focus omega))) | ((with_reducible refine Blk.set1 ?_ ?_); (focus omega)) | (with_reducible refine Blk.alloc ?_) | (refine Blk.ext ?_ (by with_reducible assumption)))))
    | (go_at_call 11; refine Calls.mono (awake_yes _) ?_; rintro e w1 ⟨rfl, hb1⟩; obtain ⟨a0, a1, a2⟩ := Blk.c3 (w := w1) (B := w.heap.size) (by repeat (first | (with_reducible assumption) | ((with_reducible refine Blk.new ?_); (first | (focus rfl) | (focus (simp; done)) | (focus omega))) | ((with_reducible refine Blk.set1 ?_ ?_); (focus omega)) | (with_reducible refine Blk.alloc ?_) | (refine Blk.ext ?_ (by with_reducible assumption))))))
  go_ret
  exact ⟨rfl, (by repeat (first | ((with_reducible refine Ext.set1 ?_ ?_); (first | (focus (simp; done)) | (focus (simp; omega)) | (focus omega))) | (with_reducible refine Ext.alloc ?_ _) | (with_reducible exact Ext.refl _) | (refine Ext.trans ?_ (by with_reducible assumption))))⟩
set_option maxHeartbeats 1000000 in
theorem exact_long {S W L : Int} (g : Geo S W L) (A : Option Addr) (c : Nat) (l : List Int) (w : World) (hlen : l.length ≤ 9223372036854775807) (hl : 100 < l.length) :
    Calls Try.prog 9 #[.agg #[.int .i64 S, .int .i64 W, .int .i64 L], .slice A l.length c] w fun e w' => e = .returned (.bool true) ∧ Ext w w' := by
  go_enter Try.func9, Try.ntmps9
  go_wp2_with (first
    | (go_at_call 21; refine Calls.mono (must_new_yes g _) ?_; rintro e w5 ⟨rfl, hb5⟩)
    | (go_at_call 14; refine Calls.mono (cache_new g _) ?_; rintro e w4 ⟨q, F0, rfl, hca, hb4⟩; obtain ⟨j0, j1, j2⟩ := Blk.c3 (w := w4) (B := w.heap.size) (by repeat (first | (with_reducible assumption) | ((with_reducible refine Blk.new ?_); (first | (focus rfl) | (focus (simp; done)) | (focus omega))) | ((with_reducible refine Blk.set1 ?_ ?_); (focus omega)) | (with_reducible refine Blk.alloc ?_) | (refine Blk.ext ?_ (by with_reducible assumption)))))
    | (go_at_call 11; refine Calls.mono (awake_yes _) ?_; rintro e w1 ⟨rfl, hb1⟩; obtain ⟨a0, a1, a2⟩ := Blk.c3 (w := w1) (B := w.heap.size) (by repeat (first | (with_reducible assumption) | ((with_reducible refine Blk.new ?_); (first | (focus rfl) | (focus (simp; done)) | (focus omega))) | ((with_reducible refine Blk.set1 ?_ ?_); (focus omega)) | (with_reducible refine Blk.alloc ?_) | (refine Blk.ext ?_ (by with_reducible assumption))))))
  go_ret
  exact ⟨rfl, (by repeat (first | ((with_reducible refine Ext.set1 ?_ ?_); (first | (focus (simp; done)) | (focus (simp; omega)) | (focus omega))) | (with_reducible refine Ext.alloc ?_ _) | (with_reducible exact Ext.refl _) | (refine Ext.trans ?_ (by with_reducible assumption))))⟩

set_option maxHeartbeats 2000000 in
theorem exact_walk (S W L : Int) (A : Option Addr) (c : Nat) (l : List Int) (w : World) (hr : K8.C w A l.length l) (hc : l.length ≤ c) (hp : ∀ x ∈ l, 0 ≤ x ∧ x ≤ 255) :
    Calls Try.prog 9 #[.agg #[.int .i64 S, .int .i64 W, .int .i64 L], .slice A l.length c] w fun e w' => e = .returned (.bool true) ∧ Ext w w' := by
  cases hv : vldB S W L with
  | false => exact exact_no S W L A c l w hv
  | true =>
    have g := (vld_iff _ _ _).1 hv
    clear hv
    by_cases h2 : 100 < l.length
    · exact exact_long g A c l w (C_max hr) h2
    have gw := g.w1
    have gs := g.s1
    have gw8 := g.w8
    have gs64 := g.s64
    have gl1 := g.l1
    have gl16 := g.l16
    obtain ⟨n, hn⟩ : ∃ n, l.length = n := ⟨_, rfl⟩
    rw [hn] at hr hc h2 ⊢
    have HN := Lib.hid hn
    have HP := Lib.hid hp
    clear hn hp
    go_enter Try.func9, Try.ntmps9
    go_wp2_with (first
      | (go_at_call 21; refine Calls.mono (must_new_yes g _) ?_; rintro e w5 ⟨rfl, hb5⟩)
      | (go_at_call 14; refine Calls.mono (cache_new g _) ?_; rintro e w4 ⟨q, F0, rfl, hca, hb4⟩; obtain ⟨j0, j1, j2⟩ := Blk.c3 (w := w4) (B := w.heap.size) (by repeat (first | (with_reducible assumption) | ((with_reducible refine Blk.new ?_); (first | (focus rfl) | (focus (simp; done)) | (focus omega))) | ((with_reducible refine Blk.set1 ?_ ?_); (focus omega)) | (with_reducible refine Blk.alloc ?_) | (refine Blk.ext ?_ (by with_reducible assumption)))); have q4 : w.heap.size < w4.heap.size := (by have := hb4.size; have := hb1.size; simp at this; omega))
      | (go_at_call 11; refine Calls.mono (awake_yes _) ?_; rintro e w1 ⟨rfl, hb1⟩; obtain ⟨a0, a1, a2⟩ := Blk.c3 (w := w1) (B := w.heap.size) (by repeat (first | (with_reducible assumption) | ((with_reducible refine Blk.new ?_); (first | (focus rfl) | (focus (simp; done)) | (focus omega))) | ((with_reducible refine Blk.set1 ?_ ?_); (focus omega)) | (with_reducible refine Blk.alloc ?_) | (refine Blk.ext ?_ (by with_reducible assumption))))))
    have k9 : Blk (w5.alloc (mustO S W L none)) w5.heap.size (mustO S W L none) := Blk.new rfl
    have kc : Blk (w5.alloc (mustO S W L none)) w.heap.size (.cells #[.int .i64 S, .int .i64 W, .int .i64 L] 23) := (by repeat (first | (with_reducible assumption) | ((with_reducible refine Blk.new ?_); (first | (focus rfl) | (focus (simp; done)) | (focus omega))) | ((with_reducible refine Blk.set1 ?_ ?_); (focus omega)) | (with_reducible refine Blk.alloc ?_) | (refine Blk.ext ?_ (by with_reducible assumption))))
    have hx7 : Ext w (w5.alloc (mustO S W L none)) := (by repeat (first | ((with_reducible refine Ext.set1 ?_ ?_); (first | (focus (simp; done)) | (focus (simp; omega)) | (focus omega))) | (with_reducible refine Ext.alloc ?_ _) | (with_reducible exact Ext.refl _) | (refine Ext.trans ?_ (by with_reducible assumption))))
    have zca : CaB (w5.alloc (mustO S W L none)) w.heap.size q S W L F0 (List.replicate S.toNat []) := (hca.ext (hb5.alloc _)).lower (by have := hb1.size; simp at this; omega)
    have HD0 : Hid (Rows S W (List.replicate S.toNat []) ∧ Top 65535 (List.replicate S.toNat []) ∧ Exact S noF (List.replicate S.toNat [])) := ⟨rows_empty gs gw, top_empty _ _, exact_start _ _⟩
    have hq5 : w.heap.size < w5.heap.size := by have := hb5.size; omega
    obtain ⟨w7, hw7⟩ : ∃ w7, w7 = w5.alloc (mustO S W L none) := ⟨_, rfl⟩
    rw [← hw7] at k9 kc hx7 zca ⊢
    clear hca hb1 hb4 hb5 a0 a1 a2 j0 j1 j2 hw7
    go_loopw [43] (fun i wr => ∃ (j : Nat) (px : Option Nat) (f : FM) (F : Nat → Prop) (rows : List (List Int)), i = .int .i64 j ∧ j ≤ n ∧ (Blk wr w5.heap.size (mustO S W L px) ∧ Blk wr w.heap.size (.cells #[.int .i64 S, .int .i64 W, .int .i64 L] 23) ∧ MB wr W j f px ∧
        CaB wr w.heap.size q S W L F rows ∧ Ext w wr) ∧ Hid (Rows S W rows ∧ Top 65535 rows ∧ Exact S f rows)) (fun i _ => n - (Go.RowKit.intOf i).toNat)
    case atStart => exact ⟨0, none, noF, F0, _, rfl, Nat.zero_le _, ⟨k9, kc, MB.nil _ _ _, zca, hx7⟩, HD0⟩
    case round =>
      clear k9 kc zca HD0 hx7
      obtain ⟨j, px, f, F, rows, rfl, hj, ⟨k9, kc, hst, hca, hext⟩, HD⟩ := hrel
      have hl9 := k9.lt
      have hlc := kc.lt
      by_cases hlt : j < n
      · obtain ⟨ad, rfl, hcell⟩ := at_u8 (C_ext hr hext) j hlt
        have hxb := HP.out (l.getD j 0) (by rw [List.getD_eq_getElem?_getD, List.getElem?_eq_getElem (by rw [HN.out]; exact hlt)]; exact List.getElem_mem _)
        obtain ⟨x, hx⟩ : ∃ x, x = l.getD j 0 := ⟨_, rfl⟩
        rw [← hx] at hcell hxb
        clear hx
        obtain ⟨b0, b1⟩ := hxb
        have hbase : w.heap.size ≤ wr.heap.size := hext.size
        obtain ⟨t0, t1, t2⟩ := kc.c3
        have HN2 : Hid (Rows S W (cAcc S W rows x) ∧ Top 65535 (cAcc S W rows x) ∧ Exact S (uAcc S W f x) (cAcc S W rows x)) := ⟨HD.out.1.acc gs gw b0, HD.out.2.1.acc gw (by omega), exact_must gs gw HD.out.1 hst.2 HD.out.2.2 b0⟩
        obtain ⟨hX1, hX2, hX3⟩ := mul_fits (n := x) b0 (by omega) gl1 gl16
        obtain ⟨X, hX⟩ : ∃ X, x * L = X := ⟨_, rfl⟩
        rw [hX] at hX1 hX2 hX3
        go_wp2_with (first
          | (go_at_call 27; refine Calls.mono (must_access g x b0 (by omega) px j f _ zst (by omega)) ?_; rintro e w20 ⟨p20, rfl, h20, hb20⟩; have m9 := z9.ext hb20; obtain ⟨s0, s1, s2, s3⟩ := m9.c4; obtain ⟨r0, r1, r2, r3⟩ := m9.f4)
          | (go_at_call 16; refine Calls.mono (cache_access (base := w.heap.size) g hca HD.out.1 X hX1 hX2 hbase) ?_; rw [hX3]; rintro e w14 ⟨rfl, F14, hc14, hF14, hf14⟩; have z9 := hca.keep hf14 k9 (by decide) (by decide); have zc := hca.keep hf14 kc (by decide) (by decide); have zst := hst.keep hca hf14; have zext : Ext w w14 := hext.fr hf14 hca.fromB; obtain ⟨s0, s1, s2, s3⟩ := z9.c4))
        refine ⟨⟨j + 1, p20, _, F14, _, by go_num, by omega, ⟨Blk.put4 m9, Blk.far4 (by omega) (zc.ext hb20), MB.set4 h20, (hc14.ext hb20).set4 m9, Ext.set4 (by omega) (zext.trans hb20)⟩, HN2⟩, ?_⟩
        simp [Go.RowKit.intOf]
        omega
      · obtain rfl : j = n := by omega
        obtain ⟨wp, hwp⟩ : ∃ wp, wp = wr := ⟨wr, rfl⟩
        subst hwp
        have hm64 : rows.length ≤ 64 := by have := HD.out.1.len; omega
        have HC : Hid (∀ k, k ≤ rows.length → cnt rows k ≤ 8 * k) := cnt_le HD.out.1 gw8
        go_wp2_with (first
          | (go_at_call 19; refine Calls.mono (cache_lines g hca HD.out.1) ?_; rintro e w30 ⟨g30, vs30, rfl, hrs, hb30⟩))
        obtain ⟨m, hm⟩ : ∃ m, rows.length = m := ⟨_, rfl⟩
        rw [hm] at hrs HC hm64 ⊢
        have HM := Lib.hid hm
        clear hm
        have z9 := k9.ext hb30
        have zim := hst.ext hb30
        have zext := hext.trans hb30
        have hz9 := z9.lt
        clear k9 kc hst hca hext
        go_loopw [9, 62] (fun t i wz => ∃ k : Nat, t = .int .i64 (cnt rows k : Nat) ∧ i = .int .i64 k ∧ k ≤ m ∧ Ext w30 wz) (fun _ i _ => m - (Go.RowKit.intOf i).toNat)
        case atStart => exact ⟨0, by rw [cnt_zero]; rfl, rfl, Nat.zero_le _, Ext.refl _⟩
        case round =>
          obtain ⟨k, rfl, rfl, hk, hek⟩ := hrel
          by_cases hkm : k < m
          · have hrs1 := hrs.ext hek
            have hv : vs30[k]? = some (vs30[k]'(by rw [hrs.lenv]; exact hkm)) := List.getElem?_eq_getElem _
            have hrow := hrs1.row k _ hv
            obtain ⟨A1, c1, hve, hcc, hC⟩ := hrow.C
            obtain ⟨s0, s1⟩ := vs_cell hrs1.kg hv
            rw [hve] at s0
            have hage : ∀ j, j < (rows.getD k []).length → f ((rows.getD k []).getD j 0) = some (j : Int) ∧ 0 ≤ (rows.getD k []).getD j 0 ∧ (rows.getD k []).getD j 0 ≤ 65535 := fun j hj => by
              have hmem : (rows.getD k []).getD j 0 ∈ rows.getD k [] := by rw [List.getD_eq_getElem?_getD (l := rows.getD k []), List.getElem?_eq_getElem hj]; exact List.getElem_mem hj
              exact ⟨HD.out.2.2.age k j hj, (HD.out.1.mine k _ hmem).1, HD.out.2.1 k _ hmem⟩
            have hrl := HD.out.1.short k
            have hcs := cnt_succ (rows := rows) (k := k) (by rw [HM.out]; exact hkm)
            have hcb := HC.out k hk
            obtain ⟨r, hr'⟩ : ∃ r, rows.getD k [] = r := ⟨_, rfl⟩
            rw [hr'] at hcc hC s0 hage hrl hcs
            obtain ⟨N0, hN0⟩ : ∃ N0, cnt rows k = N0 := ⟨_, rfl⟩
            rw [hN0] at hcs hcb ⊢
            obtain ⟨rl, hrl'⟩ : ∃ rl, r.length = rl := ⟨_, rfl⟩
            rw [hrl'] at hcc hC s0 hage hrl hcs
            have HAGE := Lib.hid hage
            have HCS := Lib.hid hcs
            clear hage hcs hrow hve hr' hrl' hN0
            obtain ⟨wq, hwq⟩ : ∃ wq, wq = wr := ⟨wr, rfl⟩
            subst hwq
            go_wp2
            go_loopw [9, 68] (fun t i wz => ∃ j : Nat, t = .int .i64 (N0 + j : Nat) ∧ i = .int .i64 j ∧ j ≤ rl ∧ Ext wq wz) (fun _ i _ => rl - (Go.RowKit.intOf i).toNat)
            case atStart => exact ⟨0, by rw [Nat.add_zero], rfl, Nat.zero_le _, Ext.refl _⟩
            case round =>
              obtain ⟨j, rfl, rfl, hj2, hej⟩ := hrel
              by_cases hjr : j < rl
              · obtain ⟨ad, rfl, hcell⟩ := at_num (C_ext hC hej) j hjr
                have hfy := HAGE.out j hjr
                obtain ⟨y, hy⟩ : ∃ y, r.getD j 0 = y := ⟨_, rfl⟩
                rw [hy] at hcell hfy
                obtain ⟨hfy, hy0, hy1⟩ := hfy
                have HFY := Lib.hid hfy
                clear hfy hy
                have hE := hek.trans hej
                have y9 := z9.ext hE
                obtain ⟨t0, t1, t2, t3⟩ := y9.c4
                go_wp2_with (first
                  | (go_at_call 25; refine Calls.mono (age_mb y px _ f _ (zim.ext hE) (.of (by omega) (by omega)) (j : Int) true (by rw [HFY.out]; rfl) (by rw [HFY.out]; rfl)) ?_; rintro e w31 ⟨rfl, hb31⟩))
                go_round
                case rel =>
                  exact ⟨j + 1, by go_num, by go_num, by omega, hej.trans hb31⟩
                case measure => simp [Go.RowKit.intOf]; omega
              · obtain rfl : j = rl := by omega
                go_wp2
                go_round
                case rel => exact ⟨k + 1, by rw [HCS.out], by go_num, by omega, hek.trans hej⟩
                case measure => simp [Go.RowKit.intOf]; omega
          · obtain rfl : k = m := by omega
            obtain ⟨N0, hN0⟩ : ∃ N0, cnt rows k = N0 := ⟨_, rfl⟩
            rw [hN0]
            have HCNT : Hid (∀ K, Dom f K → K.length = N0) := fun K hK => by rw [← hN0, ← HM.out, cnt_all]; exact exact_count HD.out.1 HD.out.2.2 hK
            clear hN0
            have y9 := z9.ext hek
            obtain ⟨t0, t1, t2, t3⟩ := y9.c4
            go_wp2_with (first
              | (go_at_call 28; refine Calls.mono (lines_len px _ f _ (zim.ext hek) (by omega) N0 HCNT.out) ?_; rintro e w40 ⟨A40, c40, rfl, hb40⟩))
            go_ret
            exact ⟨by simp, zext.trans (hek.trans hb40)⟩
end Go.Proofs.Ytaekkfgggmighaa
