/- The contracts of persist.Persistent, Misses, Flush. -/
import Derived.Test.YtdbgnniedcibeaaPe2
namespace Go.Proofs.Ytdbgnniedcibeaa
open Go.RowKit Go.Maps Go.Proofs.YtdbgnniedcibeaaW.PrintWords Go.Proofs.Ytdbgnniedcibeaa.Pusable
set_option linter.unusedVariables false

/-- Whether a line is persistent. -/
def perB (W : Int) (m : Nat) (L : List Int) (x : Int) : Bool := decide (((conf m L (x % (m : Int)).toNat : Nat) : Int) ≤ W)
def pers (W : Int) (m : Nat) (L : List Int) : List Int := L.filter (perB W m L)

set_option maxHeartbeats 2000000 in
theorem persistent_at {S W Ln : Int} (g : Geo S W Ln) (A : Option Addr) (c : Nat) (l : List S44) (L : List Int) (hL : IsLines l L) (w : World) (hr : k44.C w A l.length l) (hl : l.length ≤ 100) (hh : ∀ r ∈ l, r.f1 ≤ 3000) :
    Calls Try.prog 15 #[.agg #[.int .i64 S, .int .i64 W, .int .i64 Ln], .slice A l.length c] w fun e w' => ∃ A' c', e = .returned (.slice A' (pers W S.toNat L).length c') ∧ RowB w' w.heap.size (.slice A' (pers W S.toNat L).length c') (pers W S.toNat L) ∧ Ext w w' := by
  have hs1 := g.s1
  have hs64 := g.s64
  obtain ⟨m, rfl⟩ : ∃ m : Nat, S = m := ⟨S.toNat, by omega⟩
  rw [Int.toNat_natCast]
  go_enter Try.func15, Try.ntmps15
  go_wp2_with (first
    | (go_at_call 31; refine Calls.mono (lines_at A c l _ (C_ext hr (by repeat (first | ((with_reducible refine Ext.set1 ?_ ?_); (first | (focus (simp; done)) | (focus (simp; omega)) | (focus omega))) | (with_reducible refine Ext.alloc ?_ _) | (with_reducible exact Ext.refl _) | (refine Ext.trans ?_ (by with_reducible assumption))))) hl hh) ?_; rintro e w3 ⟨A3, c3, L3, rfl, hL3, hl3, hM3, hb3⟩; obtain rfl := hL3.unique hL)
    | (go_at_call 14; refine Calls.mono (conflicts_at g A c l L hL _ (C_ext hr (by repeat (first | ((with_reducible refine Ext.set1 ?_ ?_); (first | (focus (simp; done)) | (focus (simp; omega)) | (focus omega))) | (with_reducible refine Ext.alloc ?_ _) | (with_reducible exact Ext.refl _) | (refine Ext.trans ?_ (by with_reducible assumption))))) hl hh) ?_; rintro e w2 ⟨A2, c2, rfl, hmc2, hN2, hl2, hb2⟩; rw [Int.toNat_natCast] at hN2 hmc2 ⊢))
  have kc : Blk w3 w.heap.size (.cells #[.int .i64 (m : Int), .int .i64 W, .int .i64 Ln] 23) := (by repeat (first | (with_reducible assumption) | ((with_reducible refine Blk.new ?_); (first | (focus rfl) | (focus (simp; done)) | (focus omega))) | ((with_reducible refine Blk.set1 ?_ ?_); (focus omega)) | (with_reducible refine Blk.alloc ?_) | (refine Blk.ext ?_ (by with_reducible assumption))))
  have hx3 : Ext w w3 := (by repeat (first | ((with_reducible refine Ext.set1 ?_ ?_); (first | (focus (simp; done)) | (focus (simp; omega)) | (focus omega))) | (with_reducible refine Ext.alloc ?_ _) | (with_reducible exact Ext.refl _) | (refine Ext.trans ?_ (by with_reducible assumption))))
  have hN3 : RowB w3 w.heap.size (.slice A2 m c2) (confs m L3) := (hN2.ext hb3).lower (by simp)
  have hM3' : RowB w3 w2.heap.size (.slice A3 L3.length c3) L3 := hM3
  have HL := Lib.hid hL
  have HL3 := Lib.hid hl3
  clear hM3 hN2 hb2 hb3 hL hL3 hr hl2 hl3
  obtain ⟨n, hn⟩ : ∃ n, L3.length = n := ⟨_, rfl⟩
  rw [hn] at hM3' HL3 ⊢
  have HN := Lib.hid hn
  clear hn
  obtain ⟨P, hP⟩ : ∃ P, perB W m L3 = P := ⟨_, rfl⟩
  have HP := Lib.hid hP
  have hpe : pers W m L3 = L3.filter P := by unfold pers; rw [hP]
  have HPE := Lib.hid hpe
  clear hP hpe
  have hn0 : 0 < m := by omega
  have hcl := kc.lt
  have hnl : n ≤ 1000000 := by have := HL3.out; omega
  go_loopw [6, 15] (fun v i wr => ∃ (j : Nat) (A1 : Option Addr) (c1 : Nat) (M : List Int) (k : Nat), i = .int .i64 j ∧ j ≤ n ∧ v = .slice A1 k c1 ∧ (k ≤ j ∧ RowB wr w3.heap.size (.slice A1 k c1) M ∧ Ext w3 wr) ∧ Hid (M = (L3.take j).filter P ∧ M.length = k)) (fun _ i _ => n - (Go.RowKit.intOf i).toNat)
  case atStart => exact ⟨0, none, 0, [], 0, rfl, Nat.zero_le _, rfl, ⟨Nat.le_refl _, RowB.nil _ _, Ext.refl _⟩, ⟨by simp, rfl⟩⟩
  case round =>
    obtain ⟨j, A1, c1, M, k, rfl, hj, rfl, ⟨hkj, hrow, hext⟩, HM⟩ := hrel
    by_cases hlt : j < n
    · have kc4 := kc.ext hext
      have hC := (hM3'.ext hext).C
      obtain ⟨A9, c9, e9, hc9, hC⟩ := hC
      cases e9
      rw [HN.out] at hC
      obtain ⟨ad, rfl, hcell⟩ := at_num hC j hlt
      have hjl : j < L3.length := by rw [HN.out]; exact hlt
      have hxm : L3.getD j 0 ∈ L3 := by
        rw [List.getD_eq_getElem?_getD, List.getElem?_eq_getElem hjl]
        exact List.getElem_mem _
      have hx0 := (HL.out.lo hxm).1
      have htk : L3.take (j + 1) = L3.take j ++ [L3.getD j 0] := by
        rw [List.take_add_one, List.getElem?_eq_getElem hjl, List.getD_eq_getElem?_getD, List.getElem?_eq_getElem hjl]
        rfl
      clear hxm hjl hC hc9
      obtain ⟨x, hx⟩ : ∃ x, L3.getD j 0 = x := ⟨_, rfl⟩
      rw [hx] at hcell hx0 htk
      have HTK := Lib.hid htk
      clear hx htk
      have hm1 := Int.emod_nonneg x (show (m : Int) ≠ 0 by omega)
      obtain ⟨i, hi⟩ : ∃ i : Nat, x % (m : Int) = i := ⟨(x % (m : Int)).toNat, by omega⟩
      have him : i < m := by have := Int.emod_lt_of_pos x (show 0 < (m : Int) by omega); omega
      have hN4 := hN3.ext hext
      have hA2 : ∃ g2, A2 = some ⟨g2, 0, none⟩ := by
        rcases hN4.cases with ⟨e, e2⟩ | ⟨g2, _, _, e, _⟩
        · have := confs_len m L3
          rw [e2] at this
          simp at this
          omega
        · injection e with e _ _
          exact ⟨g2, e⟩
      obtain ⟨g2, rfl⟩ := hA2
      have hget := confs_get him L3
      have hpx : P x = decide (((conf m L3 i : Nat) : Int) ≤ W) := by rw [← HP.out]; unfold perB; rw [hi, Int.toNat_natCast]
      obtain ⟨K, hK⟩ : ∃ K, conf m L3 i = K := ⟨_, rfl⟩
      rw [hK] at hget hpx
      have HPX := Lib.hid hpx
      have HGET := Lib.hid hget
      have HI := Lib.hid hi
      clear hget hpx hm1 hi hK
      go_wp2
      refine wp_region_e (by kernel_rfl) ?_
      repeat (
        refine wpQuiet_step (fun K' hK' => ?_)
        go_simp
        first
          | (refine hK' _ ?_; clear hK' K')
          | (refine ⟨_, fun w' hw' => rfl, hK' _ ?_⟩; clear hK' K')
          | (apply Exists.intro
             refine ⟨fun w' hw' => ?_, hK' _ ?_⟩
             (first
               | (go_at_call 32; refine Calls.mono (set_at g x hx0 HI.out w') ?_; rintro e w'' ⟨rfl, hx⟩; exact ⟨rfl, hw'.trans hx⟩)
               | (obtain ⟨q0, q1, q2⟩ := (kc4.ext hw').c3; obtain ⟨r0, r1, -, -⟩ := (hN4.ext hw').at_ (i := i) (by rw [confs_len]; exact him); rw [HGET.out] at r0; go_simp; rfl))
             clear hK' K'))
      refine wpQuiet_nil ?_
      intro w5 hb5
      have hx5 : Ext w3 w5 := hext.trans hb5
      have row5 := hrow.ext hb5
      have hz5 := hx5.size
      by_cases hkw : (K : Int) ≤ W
      · go_wp2_with (at_builtin; refine wp_append_int rfl _ _ rfl w3.heap.size (.slice A1 k c1) M k HM.out.2 w5.heap.size x rfl rfl (Blk.new rfl) (row5.alloc _) (by omega) (by simp; omega) ?_; intro A7 c7 w7 hM7 hf7 _)
        have hx7 : Ext w3 w7 := (hx5.alloc _).fr hf7 fun q hq => (row5.lt q hq).1
        go_roundw
        case rel =>
          refine ⟨j + 1, A7, c7, M ++ [x], k + 1, by go_num, by omega, rfl, ⟨by omega, hM7, hx7⟩, ?_, ?_⟩
          · rw [HTK.out, List.filter_append, HM.out.1]
            congr 1
            have : P x = true := by rw [HPX.out]; exact decide_eq_true hkw
            simp [this]
          · rw [List.length_append, HM.out.2]; rfl
        case measure => simp [Go.RowKit.intOf]; omega
      · go_wp2
        go_roundw
        case rel =>
          refine ⟨j + 1, A1, c1, M, k, by go_num, by omega, rfl, ⟨by omega, row5, hx5⟩, ?_, HM.out.2⟩
          rw [HTK.out, List.filter_append, HM.out.1]
          have : P x = false := by rw [HPX.out]; exact decide_eq_false hkw
          simp [this]
        case measure => simp [Go.RowKit.intOf]; omega
    · obtain rfl : j = n := by omega
      go_wp2
      go_ret
      have e1 : M = pers W m L3 := by rw [HPE.out, HM.out.1, ← HN.out, List.take_length]
      rw [← e1]
      rw [HM.out.2]
      exact ⟨A1, c1, rfl, hrow.lower (by have := hx3.size; omega), hx3.trans hext⟩

set_option maxHeartbeats 1000000 in
theorem misses_at {S W Ln : Int} (g : Geo S W Ln) (A : Option Addr) (c : Nat) (l : List S44) (L : List Int) (hL : IsLines l L) (w : World) (hr : k44.C w A l.length l) (hl : l.length ≤ 100) (hh : ∀ r ∈ l, r.f1 ≤ 3000) :
    Calls Try.prog 16 #[.agg #[.int .i64 S, .int .i64 W, .int .i64 Ln], .slice A l.length c] w fun e w' => e = .returned (.int .i64 (pers W S.toNat L).length) ∧ Ext w w' := by
  go_enter Try.func16, Try.ntmps16
  go_wp2_with (go_at_call 15; refine Calls.mono (persistent_at g A c l L hL _ (C_ext hr (by repeat (first | ((with_reducible refine Ext.set1 ?_ ?_); (first | (focus (simp; done)) | (focus (simp; omega)) | (focus omega))) | (with_reducible refine Ext.alloc ?_ _) | (with_reducible exact Ext.refl _) | (refine Ext.trans ?_ (by with_reducible assumption))))) hl hh) ?_; rintro e w2 ⟨A2, c2, rfl, hM2, hb2⟩)
  go_ret
  exact ⟨rfl, (by repeat (first | ((with_reducible refine Ext.set1 ?_ ?_); (first | (focus (simp; done)) | (focus (simp; omega)) | (focus omega))) | (with_reducible refine Ext.alloc ?_ _) | (with_reducible exact Ext.refl _) | (refine Ext.trans ?_ (by with_reducible assumption))))⟩
set_option maxHeartbeats 1000000 in
theorem flush_at {S W Ln : Int} (g : Geo S W Ln) (w : World) :
    Calls Try.prog 18 #[.agg #[.int .i64 S, .int .i64 W, .int .i64 Ln]] w fun e w' => e = .returned (.int .i64 (S * W)) ∧ Ext w w' := by
  have hs1 := g.s1
  have hs64 := g.s64
  have hw1 := g.w1
  have hw8 := g.w8
  have hm : 0 ≤ S * W ∧ S * W ≤ 512 := ⟨Int.mul_nonneg (by omega) (by omega), Int.le_trans (Int.mul_le_mul hs64 hw8 (by omega) (by omega)) (by omega)⟩
  obtain ⟨hm1, hm2⟩ := hm
  obtain ⟨X, hX⟩ : ∃ X, S * W = X := ⟨_, rfl⟩
  rw [hX] at hm1 hm2 ⊢
  go_enter Try.func18, Try.ntmps18
  go_wp2_with (go_at_call 17; refine Calls.mono (valid_yes g _) ?_; rintro e w2 ⟨rfl, hb2⟩; obtain ⟨a0, a1, a2⟩ := Blk.c3 (w := w2) (B := w.heap.size) (by repeat (first | (with_reducible assumption) | ((with_reducible refine Blk.new ?_); (first | (focus rfl) | (focus (simp; done)) | (focus omega))) | ((with_reducible refine Blk.set1 ?_ ?_); (focus omega)) | (with_reducible refine Blk.alloc ?_) | (refine Blk.ext ?_ (by with_reducible assumption)))); have hq2 : w.heap.size < w2.heap.size := (by have := hb2.size; simp at this; omega))
  go_ret
  exact ⟨rfl, (by repeat (first | ((with_reducible refine Ext.set1 ?_ ?_); (first | (focus (simp; done)) | (focus (simp; omega)) | (focus omega))) | (with_reducible refine Ext.alloc ?_ _) | (with_reducible exact Ext.refl _) | (refine Ext.trans ?_ (by with_reducible assumption))))⟩
end Go.Proofs.Ytdbgnniedcibeaa
