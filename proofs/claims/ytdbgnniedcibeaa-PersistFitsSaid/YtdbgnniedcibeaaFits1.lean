/- The walk of ontimelaw32.PersistFits. -/
import Derived.Test.YtdbgnniedcibeaaFits0
namespace Go.Proofs.Ytdbgnniedcibeaa
open Go.RowKit Go.Maps Go.Proofs.YtdbgnniedcibeaaW.PrintWords Go.Proofs.Ytdbgnniedcibeaa.Pusable
set_option linter.unusedVariables false

set_option maxHeartbeats 1000000 in
theorem fits_no (S W Ln : Int) (A : Option Addr) (c : Nat) (l : List S44) (w : World) (hr : k44.C w A l.length l) (hc : l.length ≤ c) (hno : usB S W Ln l 0 = false) :
    Calls Try.prog 6 #[.agg #[.int .i64 S, .int .i64 W, .int .i64 Ln], .slice A l.length c] w fun e w' => e = .returned (.bool true) ∧ Ext w w' := by
  have HNO := Lib.hid hno
  clear hno
  go_enter Try.func6, Try.ntmps6
  go_wp2_with (first
    | (go_at_call 22; refine Calls.mono (usable_any S W Ln A c l none 0 [] _ (C_ext hr (by repeat (first | ((with_reducible refine Ext.set1 ?_ ?_); (first | (focus (simp; done)) | (focus (simp; omega)) | (focus omega))) | (with_reducible refine Ext.alloc ?_ _) | (with_reducible exact Ext.refl _) | (refine Ext.trans ?_ (by with_reducible assumption))))) hc (Kd.C_nil _ _) (Nat.le_refl _)) ?_; rintro e w2 ⟨rfl, hb2⟩; rw [show usB S W Ln l [].length = false from HNO.out])
    | (go_at_call 11; refine Calls.mono (awake_yes _) ?_; rintro e w1 ⟨rfl, hb1⟩; obtain ⟨a0, a1, a2⟩ := Blk.c3 (w := w1) (B := w.heap.size) (by repeat (first | (with_reducible assumption) | ((with_reducible refine Blk.new ?_); (first | (focus rfl) | (focus (simp; done)) | (focus omega))) | ((with_reducible refine Blk.set1 ?_ ?_); (focus omega)) | (with_reducible refine Blk.alloc ?_) | (refine Blk.ext ?_ (by with_reducible assumption))))))
  go_ret
  exact ⟨rfl, (by repeat (first | ((with_reducible refine Ext.set1 ?_ ?_); (first | (focus (simp; done)) | (focus (simp; omega)) | (focus omega))) | (with_reducible refine Ext.alloc ?_ _) | (with_reducible exact Ext.refl _) | (refine Ext.trans ?_ (by with_reducible assumption))))⟩

set_option maxHeartbeats 2000000 in
theorem fits_walk (S W Ln : Int) (A : Option Addr) (c : Nat) (l : List S44) (w : World) (hr : k44.C w A l.length l) (hc : l.length ≤ c) :
    Calls Try.prog 6 #[.agg #[.int .i64 S, .int .i64 W, .int .i64 Ln], .slice A l.length c] w fun e w' => e = .returned (.bool true) ∧ Ext w w' := by
  cases hus : usB S W Ln l 0 with
  | false => exact fits_no S W Ln A c l w hr hc hus
  | true =>
    have us := us_is hus
    have HUS := Lib.hid hus
    clear hus
    have g := us.geo
    have hlen : l.length ≤ 100 := by have := us.len; omega
    obtain ⟨L, hL⟩ := exists_lines l
    have hs1 := g.s1
    have hs64 := g.s64
    have hw1 := g.w1
    obtain ⟨m, rfl⟩ : ∃ m : Nat, S = m := ⟨S.toNat, by omega⟩
    have hm0 : 0 < m := by omega
    have FF := fits_facts hm0 (show 0 ≤ W by omega) L
    have hsum := conf_sum hm0 L
    go_enter Try.func6, Try.ntmps6
    go_wp2_with (first
      | (go_at_call 14; refine Calls.mono (conflicts_at g A c l L hL _ (C_ext hr (by repeat (first | ((with_reducible refine Ext.set1 ?_ ?_); (first | (focus (simp; done)) | (focus (simp; omega)) | (focus omega))) | (with_reducible refine Ext.alloc ?_ _) | (with_reducible exact Ext.refl _) | (refine Ext.trans ?_ (by with_reducible assumption))))) hlen us.hi) ?_; rintro e w3 ⟨A3, c3, rfl, hmc3, hN3, hL3, hb3⟩; rw [Int.toNat_natCast] at hN3 hmc3 ⊢; obtain ⟨s0, s1, s2⟩ := Blk.c3 (w := w3) (B := w.heap.size) (by repeat (first | (with_reducible assumption) | ((with_reducible refine Blk.new ?_); (first | (focus rfl) | (focus (simp; done)) | (focus omega))) | ((with_reducible refine Blk.set1 ?_ ?_); (focus omega)) | (with_reducible refine Blk.alloc ?_) | (refine Blk.ext ?_ (by with_reducible assumption)))))
      | (go_at_call 22; refine Calls.mono (usable_any (m : Int) W Ln A c l none 0 [] _ (C_ext hr (by repeat (first | ((with_reducible refine Ext.set1 ?_ ?_); (first | (focus (simp; done)) | (focus (simp; omega)) | (focus omega))) | (with_reducible refine Ext.alloc ?_ _) | (with_reducible exact Ext.refl _) | (refine Ext.trans ?_ (by with_reducible assumption))))) hc (Kd.C_nil _ _) (Nat.le_refl _)) ?_; rintro e w2 ⟨rfl, hb2⟩; rw [show usB (m : Int) W Ln l [].length = true from HUS.out]; obtain ⟨d0, d1, d2⟩ := Blk.c3 (w := w2) (B := w.heap.size) (by repeat (first | (with_reducible assumption) | ((with_reducible refine Blk.new ?_); (first | (focus rfl) | (focus (simp; done)) | (focus omega))) | ((with_reducible refine Blk.set1 ?_ ?_); (focus omega)) | (with_reducible refine Blk.alloc ?_) | (refine Blk.ext ?_ (by with_reducible assumption)))))
      | (go_at_call 11; refine Calls.mono (awake_yes _) ?_; rintro e w1 ⟨rfl, hb1⟩; obtain ⟨a0, a1, a2⟩ := Blk.c3 (w := w1) (B := w.heap.size) (by repeat (first | (with_reducible assumption) | ((with_reducible refine Blk.new ?_); (first | (focus rfl) | (focus (simp; done)) | (focus omega))) | ((with_reducible refine Blk.set1 ?_ ?_); (focus omega)) | (with_reducible refine Blk.alloc ?_) | (refine Blk.ext ?_ (by with_reducible assumption))))))
    have kc : Blk w3 w.heap.size (.cells #[.int .i64 (m : Int), .int .i64 W, .int .i64 Ln] 23) := (by repeat (first | (with_reducible assumption) | ((with_reducible refine Blk.new ?_); (first | (focus rfl) | (focus (simp; done)) | (focus omega))) | ((with_reducible refine Blk.set1 ?_ ?_); (focus omega)) | (with_reducible refine Blk.alloc ?_) | (refine Blk.ext ?_ (by with_reducible assumption))))
    have hx3 : Ext w w3 := (by repeat (first | ((with_reducible refine Ext.set1 ?_ ?_); (first | (focus (simp; done)) | (focus (simp; omega)) | (focus omega))) | (with_reducible refine Ext.alloc ?_ _) | (with_reducible exact Ext.refl _) | (refine Ext.trans ?_ (by with_reducible assumption))))
    have hq : w.heap.size < w3.heap.size := kc.lt
    obtain ⟨A9, c9, e9, _, hC⟩ := hN3.C
    rw [confs_len] at hC e9
    cases e9
    have HL := Lib.hid hL
    have HFF := Lib.hid FF
    have HSUM := Lib.hid hsum
    have HGET : Hid (∀ j, j < m → (confs m L).getD j 0 = (conf m L j : Nat)) := fun j hj => confs_get hj L
    have HBD : Hid (∀ j, j ≤ m → sm (conf m L) j ≤ 310000 ∧ conf m L j ≤ 310000) := fun j hj => by
      have h1 : sm (conf m L) j ≤ sm (conf m L) m := sm_mono hj
      have h2 : conf m L j ≤ L.length := List.countP_le_length
      omega
    obtain ⟨f, hf⟩ : ∃ f, conf m L = f := ⟨_, rfl⟩
    have HF := Lib.hid hf
    clear hf hL FF hsum hb1 hb2 hb3 a0 a1 a2 d0 d1 d2 s0 s1 s2 hN3
    rw [HF.out] at HBD HGET HSUM
    go_loopw [5, 6, 7, 21] (fun t mo le i wr => ∃ j : Nat, i = .int .i64 j ∧ j ≤ m ∧ t = .int .i64 (sm f j : Nat) ∧ mo = .int .i64 (gr f j) ∧ le = .int .i64 (ls f j) ∧ Ext w3 wr) (fun _ _ _ i _ => m - (Go.RowKit.intOf i).toNat)
    case atStart => exact ⟨0, rfl, Nat.zero_le _, rfl, rfl, rfl, Ext.refl _⟩
    case round =>
      obtain ⟨j, rfl, hj, rfl, rfl, rfl, hext⟩ := hrel
      by_cases hlt : j < m
      · obtain ⟨ad, rfl, hcell⟩ := at_num (C_ext hC hext) j hlt
        rw [HGET.out j hlt] at hcell
        obtain ⟨hb1, hb2⟩ := HBD.out j hj
        have e1 : Hid (sm f (j + 1) = sm f j + f j) := rfl
        have e2 : Hid (gr f (j + 1) = max (gr f j) (f j : Nat)) := rfl
        have e3 : Hid (ls f (j + 1) = min (ls f j) (f j : Nat)) := rfl
        obtain ⟨T, hT⟩ : ∃ T, sm f j = T := ⟨_, rfl⟩
        obtain ⟨K, hK⟩ : ∃ K, f j = K := ⟨_, rfl⟩
        obtain ⟨M1, hM1⟩ : ∃ M1, gr f j = M1 := ⟨_, rfl⟩
        obtain ⟨M2, hM2⟩ : ∃ M2, ls f j = M2 := ⟨_, rfl⟩
        rw [hT, hK] at e1
        rw [hM1, hK] at e2
        rw [hM2, hK] at e3
        rw [hK] at hcell hb2
        rw [hT] at hb1 ⊢
        rw [hM1, hM2]
        clear hT hK hM1 hM2
        go_wp2
        refine ⟨⟨j + 1, by go_num, by omega, by rw [e1.out, Int.natCast_add], by rw [e2.out], by rw [e3.out], hext⟩, ?_⟩
        simp [Go.RowKit.intOf]
        omega
      · obtain rfl : j = m := by omega
        obtain ⟨f1, f2, f3, f4, f5⟩ := HFF.out
        rw [HF.out] at f2 f3
        rw [← HSUM.out] at f1 f2 f5
        have hmis := fun (w' : World) (hw' : Ext w w') => misses_at g A c l L HL.out w' (C_ext hr hw') hlen us.hi
        have hflu := fun (w' : World) => flush_at g w'
        have hbd := HBD.out j (Nat.le_refl _)
        rw [Int.toNat_natCast] at hmis
        obtain ⟨T, hT⟩ : ∃ T, sm f j = T := ⟨_, rfl⟩
        obtain ⟨M1, hM1⟩ : ∃ M1, gr f j = M1 := ⟨_, rfl⟩
        obtain ⟨M2, hM2⟩ : ∃ M2, ls f j = M2 := ⟨_, rfl⟩
        obtain ⟨N, hN⟩ : ∃ N, (pers W j L).length = N := ⟨_, rfl⟩
        obtain ⟨X, hX⟩ : ∃ X, (j : Int) * W = X := ⟨_, rfl⟩
        rw [hT] at f1 f2 f5 hbd ⊢
        rw [hM1] at f2 ⊢
        rw [hM2] at f3 ⊢
        rw [hN] at f1 f2 f3 f4 f5 hmis
        rw [hX] at f4 hflu
        clear hT hM1 hM2 hN hX HSUM HFF HBD HGET HF HL hC
        have key : (M1 ≤ W → N = T) ∧ (W < M2 → N = 0) ∧ ((T : Int) ≤ W → N = T) := ⟨fun h => f2 (by omega), fun h => f3 (by omega), fun h => f5 (by omega)⟩
        obtain ⟨k1, k2, k3⟩ := key
        have K1 := Lib.hid k1
        have K2 := Lib.hid k2
        have K3 := Lib.hid k3
        clear f2 f3 f5 k1 k2 k3
        have kc4 := kc.ext hext
        obtain ⟨s0, s1, s2⟩ := kc4.c3
        have hx4 : Ext w wr := hx3.trans hext
        go_wp2_with (first
          | (go_at_call 18; refine Calls.mono (hflu _) ?_; rintro e w6 ⟨rfl, hb6⟩; obtain ⟨r0, r1, r2⟩ := (kc4.ext (hb5.trans hb6)).c3)
          | (go_at_call 16; refine Calls.mono (hmis _ hx4) ?_; rintro e w5 ⟨rfl, hb5⟩; obtain ⟨r0, r1, r2⟩ := (kc4.ext hb5).c3))
        all_goals
          have q1 := K1.out
          have q2 := K2.out
          have q3 := K3.out
          first
            | (exfalso; omega)
            | (go_ret
               refine ⟨?_, hx4.trans (hb5.trans hb6)⟩
               first
                 | rfl
                 | (simp; omega))
end Go.Proofs.Ytdbgnniedcibeaa
