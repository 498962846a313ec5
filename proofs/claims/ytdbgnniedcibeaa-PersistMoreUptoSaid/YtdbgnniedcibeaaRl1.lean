/- The contracts of the reference's Conflicts, Accessed and Persistent. -/
import Derived.Test.YtdbgnniedcibeaaRl0
import Derived.BigQuiet
namespace Go.Proofs.Ytdbgnniedcibeaa
open Go.RowKit Go.Maps Go.BigFrame Go.Proofs.YtdbgnniedcibeaaW.PrintWords Go.Proofs.Ytdbgnniedcibeaa.Pusable
set_option linter.unusedVariables false

theorem accR_at (A : Option Addr) (c n : Nat) (l : List S44) (x : Int) (w : World) (hC : kR.C w A n (l.map toR)) (hc : n ≤ c) (hl : n < 100000) (B : Bool) (hB : accS l x = B) :
    Calls Try.prog 24 #[.slice A n c, .int .i64 x] w fun e w' => e = .returned (.bool B) ∧ Ext w w' := by
  have hn : (l.map toR).length = n := hC.1
  subst hn
  subst hB
  exact PPersistent.ontimeref32_Accessed.calls _ A c _ x _ w hC hc (accessed_f l x (by simpa using hl) _ (Nat.le_refl _))
theorem conflR_at {S W Ln : Int} (g : Geo S W Ln) (A : Option Addr) (c n : Nat) (l : List S44) (L : List Int) (hL : IsLines l L) (w : World) (hC : kR.C w A n (l.map toR)) (hc : n ≤ c) (hl : n < 100000) (hh : ∀ r ∈ l, r.f1 ≤ 3000) :
    Calls Try.prog 21 #[.agg #[.int .i64 S, .int .i64 W, .int .i64 Ln], .slice A n c] w fun e w' => ∃ A' c', e = .returned (.slice A' S.toNat c') ∧ S.toNat ≤ c' ∧ KI.C w' A' S.toNat (confs S.toNat L) ∧ Ext w w' := by
  have hs1 := g.s1
  have hs64 := g.s64
  obtain ⟨m, rfl⟩ : ∃ m : Nat, S = m := ⟨S.toNat, by omega⟩
  have hn : (l.map toR).length = n := hC.1
  subst hn
  rw [Int.toNat_natCast]
  refine (PPersistent.ontimeref32_Conflicts.calls _ (m : Int) W Ln A c _ _ w hC hc (conflR_f (m := m) (by omega) (by omega) W Ln l (by simpa using hl) hh hL _ (Nat.le_refl _))).mono ?_
  rintro e w' ⟨v, rfl, h1, h2⟩
  obtain ⟨A', c', rfl⟩ := Kd.R_slice h1
  have h3 := (Kd.R_reads' h1).2
  rw [confs_len] at h3 ⊢
  exact ⟨A', c', rfl, h3.1, h3.2, h2⟩

set_option maxHeartbeats 4000000 in
theorem persR_at {S W Ln : Int} (g : Geo S W Ln) (A : Option Addr) (c n : Nat) (l : List S44) (L : List Int) (hL : IsLines l L) (w : World) (hC : kR.C w A n (l.map toR)) (hc : n ≤ c) (hl : n ≤ 100) (hh : ∀ r ∈ l, r.f1 ≤ 3000) :
    Calls Try.prog 19 #[.agg #[.int .i64 S, .int .i64 W, .int .i64 Ln], .slice A n c] w fun e w' => ∃ A' c', e = .returned (.slice A' (pers W S.toNat L).length c') ∧ KI.C w' A' (pers W S.toNat L).length (pers W S.toNat L) ∧ Ext w w' := by
  have hs1 := g.s1
  have hs64 := g.s64
  obtain ⟨m, rfl⟩ : ∃ m : Nat, S = m := ⟨S.toNat, by omega⟩
  rw [Int.toNat_natCast]
  have hm0 : 0 < m := by omega
  have hln : (l.map toR).length = n := hC.1
  have hln2 : l.length = n := by simpa using hln
  obtain ⟨v, hv1, hv2, hv3, hv4⟩ := mostR_f l (by omega) hh
  obtain ⟨T, hT⟩ : ∃ T : Nat, (T : Int) = v + 1 := ⟨(v + 1).toNat, by omega⟩
  have hLL : Hid (LL l T = L) := LL_all hL (fun x hx => by have := hv4 x hx; omega)
  have hmost : ∀ w', kR.C w' A n (l.map toR) → Calls Try.prog 12 #[.slice A n c] w' fun e w'' => e = .returned (.int .i64 v) ∧ Ext w' w'' := fun w' h => by
    subst hln
    exact (PPersistent.ontimeref32_Most.calls _ A c _ v w' h hc (hv1 _ (Nat.le_refl _))).mono fun e w'' ⟨he, hd⟩ => ⟨he, hd.below⟩
  have hcon := fun w h => conflR_at g A c n l L hL w h hc (by omega) hh
  rw [Int.toNat_natCast] at hcon
  obtain ⟨P, hP⟩ : ∃ P, perB W m L = P := ⟨_, rfl⟩
  have HP := Lib.hid hP
  have HPE : Hid (pers W m L = (LL l T).filter P) := by show _ = _; unfold pers; rw [hP, hLL.out]
  have hT2 : T ≤ 3001 := by omega
  clear hv1 hv4 hL hP hln hln2 hh
  go_enter Try.func19, Try.ntmps19
  go_wp2_with (first
    | (go_at_call 12; refine Calls.mono (hmost _ (C_ext hC (by repeat (first | ((with_reducible refine Ext.set1 ?_ ?_); (first | (focus (simp; done)) | (focus (simp; omega)) | (focus omega))) | (with_reducible refine Ext.alloc ?_ _) | (with_reducible exact Ext.refl _) | (refine Ext.trans ?_ (by with_reducible assumption)))))) ?_; rintro e w4 ⟨rfl, hb4⟩)
    | (go_at_call 21; refine Calls.mono (hcon _ (C_ext hC (by repeat (first | ((with_reducible refine Ext.set1 ?_ ?_); (first | (focus (simp; done)) | (focus (simp; omega)) | (focus omega))) | (with_reducible refine Ext.alloc ?_ _) | (with_reducible exact Ext.refl _) | (refine Ext.trans ?_ (by with_reducible assumption)))))) ?_; rintro e w3 ⟨A3, c3, rfl, hmc3, hN3, hb3⟩))
  have kc : Blk w3 w.heap.size (.cells #[.int .i64 (m : Int), .int .i64 W, .int .i64 Ln] 23) := (Blk.new (w := w) rfl).ext hb3
  have hrow0 : RowB w4 w3.heap.size (.slice (some ⟨w3.heap.size, 0, none⟩) 0 0) [] := by
    have h0 : Blk w4 w3.heap.size (.cells ([].toArray : Array Value) 3) := (Blk.new (w := w3) rfl).ext hb4
    exact RowB.intro (r := []) (cap := 0) (Nat.le_refl _) h0 (Nat.le_refl _) (by omega) rfl (fun j hj => by cases hj)
  have hy4 : Ext w3 w4 := ((Ext.refl w3).alloc _).trans hb4
  have hx3 : Ext w w3 := ((Ext.refl w).alloc _).trans hb3
  have hq3 : w.heap.size ≤ w3.heap.size := hx3.size
  clear hb3 hb4 hcon hmost
  go_loopw [6, 8] (fun o i wr => ∃ (t : Nat) (A1 : Option Addr) (c1 : Nat) (M : List Int) (k : Nat), i = .int .i64 t ∧ t ≤ T ∧ o = .slice A1 k c1 ∧ (k ≤ t ∧ RowB wr w3.heap.size (.slice A1 k c1) M ∧ Ext w3 wr) ∧ Hid (M = (LL l t).filter P ∧ M.length = k)) (fun _ i _ => T - (Go.RowKit.intOf i).toNat)
  case atStart => exact ⟨0, _, 0, [], 0, rfl, Nat.zero_le _, rfl, ⟨Nat.le_refl _, hrow0, hy4⟩, ⟨rfl, rfl⟩⟩
  case round =>
    clear hrow0 hy4
    obtain ⟨t, A1, c1, M, k, rfl, ht, rfl, ⟨hkt, hrow, hext⟩, HM⟩ := hrel
    by_cases hlt : t < T
    · have hls := LL_succ l t
      have hm1 := Int.emod_nonneg (t : Int) (show (m : Int) ≠ 0 by omega)
      have hm2 := Int.emod_lt_of_pos (t : Int) (show 0 < (m : Int) by omega)
      have hmd0 : ((m : Int) == 0) = false := by simp; omega
      obtain ⟨i, hi⟩ : ∃ i : Nat, (t : Int) % (m : Int) = i := ⟨((t : Int) % (m : Int)).toNat, by omega⟩
      have him : i < m := by omega
      have hget := confs_get him L
      have hpx : P (t : Int) = decide (((conf m L i : Nat) : Int) ≤ W) := by rw [← HP.out]; unfold perB; rw [hi, Int.toNat_natCast]
      obtain ⟨K, hK⟩ : ∃ K, conf m L i = K := ⟨_, rfl⟩
      rw [hK] at hget hpx
      have HPX := Lib.hid hpx
      have HGET := Lib.hid hget
      clear hget hpx hK hm1 hm2
      have hCr := C_ext hC (hx3.trans hext)
      have hNr := C_ext hN3 hext
      have kcr := kc.ext hext
      obtain ⟨ad, rfl, hcell⟩ := at_num hNr i him
      cases hac : accS l (t : Int) with
      | true =>
        rw [hac, if_pos rfl] at hls
        have HLS := Lib.hid hls
        have HAC := Lib.hid hac
        clear hls hac
        by_cases hkw : (K : Int) ≤ W
        · have hkw2 : decide ((K : Int) ≤ W) = true := decide_eq_true hkw
          go_wp2
          refine wp_region_e (by kernel_rfl) ?_
          repeat (
            first
              | go_big_quiet_skip
              | (go_big_quiet_want
                 go_big_quiet_op
                 first
                   | go_big_quiet_on
                   | (apply Exists.intro
                      refine ⟨fun w' hw' => ?_, ?_⟩
                      · (first
                        | (go_at_call 24; refine Calls.mono (accR_at A c n l (t : Int) w' (C_ext hCr hw') hc (by omega) _ HAC.out) ?_; rintro e w'' ⟨rfl, hx⟩; exact ⟨rfl, hw'.trans hx⟩)
                        | (obtain ⟨q0, q1, q2⟩ := (kcr.ext hw').c3; go_simp; rfl)
                        | (obtain ⟨bd', e', qk⟩ := at_num (C_ext hNr hw') i him; cases e'; rw [HGET.out] at qk; go_simp; first | rfl | (rw [qk]; rfl)))
                      go_big_quiet_on)))
          refine wpQuiet_nil ?_
          intro w5 hb5
          have hx5 : Ext w3 w5 := hext.trans hb5
          have row5 := hrow.ext hb5
          have hz5 := hx5.size
          go_wp2_with (at_builtin; refine wp_append_int rfl _ _ rfl w3.heap.size (.slice A1 k c1) M k HM.out.2 w5.heap.size (t : Int) rfl rfl (Blk.new rfl) (row5.alloc _) (by omega) (by simp; omega) ?_; intro A7 c7 w7 hM7 hf7 _)
          have hx7 : Ext w3 w7 := (hx5.alloc _).fr hf7 fun q hq => (row5.lt q hq).1
          refine ⟨⟨t + 1, A7, c7, M ++ [(t : Int)], k + 1, by go_num, by omega, rfl, ⟨by omega, hM7, hx7⟩, ?_, ?_⟩, ?_⟩
          · rw [HLS.out, List.filter_append, HM.out.1]
            congr 1
            have : P (t : Int) = true := by rw [HPX.out]; exact decide_eq_true hkw
            simp [this]
          · rw [List.length_append, HM.out.2]; rfl
          · simp [Go.RowKit.intOf]; omega
        · have hkw2 : decide ((K : Int) ≤ W) = false := decide_eq_false hkw
          go_wp2
          refine wp_region_e (by kernel_rfl) ?_
          repeat (
            first
              | go_big_quiet_skip
              | (go_big_quiet_want
                 go_big_quiet_op
                 first
                   | go_big_quiet_on
                   | (apply Exists.intro
                      refine ⟨fun w' hw' => ?_, ?_⟩
                      · (first
                        | (go_at_call 24; refine Calls.mono (accR_at A c n l (t : Int) w' (C_ext hCr hw') hc (by omega) _ HAC.out) ?_; rintro e w'' ⟨rfl, hx⟩; exact ⟨rfl, hw'.trans hx⟩)
                        | (obtain ⟨q0, q1, q2⟩ := (kcr.ext hw').c3; go_simp; rfl)
                        | (obtain ⟨bd', e', qk⟩ := at_num (C_ext hNr hw') i him; cases e'; rw [HGET.out] at qk; go_simp; first | rfl | (rw [qk]; rfl)))
                      go_big_quiet_on)))
          refine wpQuiet_nil ?_
          intro w5 hb5
          have hx5 : Ext w3 w5 := hext.trans hb5
          have row5 := hrow.ext hb5
          have hz5 := hx5.size
          go_wp2
          refine ⟨⟨t + 1, A1, c1, M, k, by go_num, by omega, rfl, ⟨by omega, row5, hx5⟩, ?_, HM.out.2⟩, ?_⟩
          · rw [HLS.out, List.filter_append, HM.out.1]
            have : P (t : Int) = false := by rw [HPX.out]; exact decide_eq_false (by omega)
            simp [this]
          · simp [Go.RowKit.intOf]; omega
      | false =>
        rw [hac, if_neg Bool.false_ne_true, List.append_nil] at hls
        have HLS := Lib.hid hls
        have HAC := Lib.hid hac
        clear hls hac
        go_wp2
        refine wp_region_e (by kernel_rfl) ?_
        repeat (
          first
            | go_big_quiet_skip
            | (go_big_quiet_want
               go_big_quiet_op
               first
                 | go_big_quiet_on
                 | (apply Exists.intro
                    refine ⟨fun w' hw' => ?_, ?_⟩
                    · (first
                      | (go_at_call 24; refine Calls.mono (accR_at A c n l (t : Int) w' (C_ext hCr hw') hc (by omega) _ HAC.out) ?_; rintro e w'' ⟨rfl, hx⟩; exact ⟨rfl, hw'.trans hx⟩)
                      | (obtain ⟨q0, q1, q2⟩ := (kcr.ext hw').c3; go_simp; rfl)
                      | (obtain ⟨bd', e', qk⟩ := at_num (C_ext hNr hw') i him; cases e'; rw [HGET.out] at qk; go_simp; first | rfl | (rw [qk]; rfl)))
                    go_big_quiet_on)))
        refine wpQuiet_nil ?_
        intro w5 hb5
        have hx5 : Ext w3 w5 := hext.trans hb5
        have row5 := hrow.ext hb5
        have hz5 := hx5.size
        go_wp2
        refine ⟨⟨t + 1, A1, c1, M, k, by go_num, by omega, rfl, ⟨by omega, row5, hx5⟩, ⟨by rw [HLS.out]; exact HM.out.1, HM.out.2⟩⟩, ?_⟩
        simp [Go.RowKit.intOf]; omega
    · obtain rfl : T = t := by omega
      go_wp2
      go_ret
      have e1 : M = pers W m L := by rw [HPE.out, HM.out.1]
      obtain ⟨A9, c9, e9, _, hCM⟩ := hrow.C
      rw [HM.out.2] at e9 hCM
      cases e9
      refine ⟨A1, c1, ?_, ?_, hx3.trans hext⟩
      · rw [← e1, HM.out.2]; rfl
      · rw [← e1, HM.out.2]; exact hCM
end Go.Proofs.Ytdbgnniedcibeaa
