/- The walk of ontimelaw32.PersistParts. -/
import Derived.Test.YtdbgnniedcibeaaParts0
import Derived.BigQuiet
import Derived.Deep.RegionHeld3
import Derived.Deep.DrawnRows
namespace Go.Proofs.Ytdbgnniedcibeaa
open Go.RowKit Go.Maps Go.BigFrame Go.Proofs.YtdbgnniedcibeaaW.PrintWords Go.Proofs.Ytdbgnniedcibeaa.Pusable
set_option linter.unusedVariables false

theorem Blk.c2 {w : World} {B : Nat} {a b : Value} {t : TypeId} (h : Blk w B (.cells #[a, b] t)) : w.cell? ⟨B, 0, none⟩ = some a ∧ w.cell? ⟨B, 1, none⟩ = some b ∧ w.frozen? ⟨B, 0, none⟩ = false ∧ w.frozen? ⟨B, 1, none⟩ = false := ⟨h.cell 0, h.cell 1, h.free 0, h.free 1⟩
/-- The references lie in w as v, in memory from base on. -/
def RefB (w : World) (base : Nat) (v : Value) (l : List S44) : Prop := k44.R 44 w base (fun _ => True) v l
theorem RefB.nil (w : World) (base : Nat) : RefB w base (.slice none 0 0) [] := Kd.R_nil _ _ _ _ _
theorem RefB.ext {w w' : World} {base : Nat} {v : Value} {l : List S44} (h : RefB w base v l) (e : Ext w w') : RefB w' base v l := Kd.R_below h e
theorem wp_append_r {ops : Array Oper} {rest : List Oper} {o : Oper} {a : Act} {Q : Exit → Act → World → Prop} {w0 W : World} (hgd : o.guard = none) (s x : Operand)
    (ho : o.op = .call { callee := .builtin .append, args := #[s, x], argTypes := #[24, 24] })
    (v : Value) (xs : List S44) (y0 y1 z0 z1 : Int) (B : Nat) (n : Nat) (hn : xs.length = n) (hs : a.eval s = v) (hx : a.eval x = .slice (some ⟨B, 0, none⟩) 2 2) (hB : Blk W B (.cells #[.int .i64 y0, .int .i64 y1, .int .i64 z0, .int .i64 z1] 44)) (HO : RefB W w0.heap.size v xs) (HB : Ext w0 W) (hlx : n ≤ 1000000)
    (h : ∀ A1 c1 w1, RefB w1 w0.heap.size (.slice A1 (n + 2) c1) (xs ++ [⟨y0, y1⟩, ⟨z0, z1⟩]) → Ext w0 w1 → wpList Try.prog ops Q rest (a.put o.dst (.slice A1 (n + 2) c1)) w1) : wpList Try.prog ops Q (o :: rest) a W := by
  subst hn
  have hC : k44.C W (some ⟨B, 0, none⟩) 2 [⟨y0, y1⟩, ⟨z0, z1⟩] := by
    refine ⟨rfl, by omega, fun _ => ⟨_, rfl, fun j q hj => ⟨[.int .i64 q.f0, .int .i64 q.f1], rfl, k44_mk _ _, fun i u hu => ?_⟩⟩⟩
    have hc := fun i => hB.cell i
    show W.cell? (Addr.add ⟨B, 0, none⟩ (j * 2 + i)) = _
    rw [Addr.add_lit, Nat.zero_add, hc]
    match j, hj, i, hu with
    | 0, hj, 0, hu => cases hj; cases hu; rfl
    | 0, hj, 1, hu => cases hj; cases hu; rfl
    | 1, hj, 0, hu => cases hj; cases hu; rfl
    | 1, hj, 1, hu => cases hj; cases hu; rfl
    | _, hj, i + 2, hu => cases hu
    | j + 2, hj, _, _ => cases hj
  refine Kd.R_append_rows k44 (Rr := k44.K W) (w0 := w0) (W := W) w0.heap.size hgd s x 24 44 (.agg #[.int .i64 0, .int .i64 0]) 16 ho Try.underlying24 (by kernel_rfl) rfl (by decide) (by decide) v xs [⟨y0, y1⟩, ⟨z0, z1⟩] (some ⟨B, 0, none⟩) 2 2 (fun _ => True) (fun _ => False) hs hx HO hC (fun x cs hp => by obtain rfl := k44_open hp; exact k44_mkM _ _ _ _) (fun k hk => hk.elim) (fun _ _ => trivial) HB HB.size (by omega) ?_
  intro v1 w1 h1 h2 _ _
  obtain ⟨A1, c1, rfl⟩ := Kd.R_slice h1
  rw [List.length_append, show [(⟨y0, y1⟩ : S44), ⟨z0, z1⟩].length = 2 from rfl] at h1 ⊢
  exact h A1 c1 w1 h1 h2

theorem drop_next {l : List S44} {j : Nat} (h : j < l.length) (cut : Int) : other cut (l.drop j) = other cut (l.drop (j + 1)) ++ cutRef cut (l.getD j z44) := by
  unfold other
  have : l.drop j = l.getD j z44 :: l.drop (j + 1) := by
    rw [List.drop_eq_getElem_cons h, List.getD_eq_getElem?_getD, List.getElem?_eq_getElem h]
    rfl
  rw [this, List.reverse_cons, List.flatMap_append]
  simp

set_option maxHeartbeats 1000000 in
theorem parts_no (S W Ln : Int) (A : Option Addr) (c : Nat) (l : List S44) (cut : Int) (w : World) (hr : k44.C w A l.length l) (hc : l.length ≤ c) (hno : usB S W Ln l 0 = false) :
    Calls Try.prog 5 #[.agg #[.int .i64 S, .int .i64 W, .int .i64 Ln], .slice A l.length c, .int .u16 cut] w fun e w' => e = .returned (.bool true) ∧ Ext w w' := by
  have HNO := Lib.hid hno
  clear hno
  go_enter Try.func5, Try.ntmps5
  go_wp2_with (first
    | (go_at_call 22; refine Calls.mono (usable_any S W Ln A c l none 0 [] _ (C_ext hr (by repeat (first | ((with_reducible refine Ext.set1 ?_ ?_); (first | (focus (simp; done)) | (focus (simp; omega)) | (focus omega))) | (with_reducible refine Ext.alloc ?_ _) | (with_reducible exact Ext.refl _) | (refine Ext.trans ?_ (by with_reducible assumption))))) hc (Kd.C_nil _ _) (Nat.le_refl _)) ?_; rintro e w2 ⟨rfl, hb2⟩; rw [show usB S W Ln l [].length = false from HNO.out])
    | (go_at_call 11; refine Calls.mono (awake_yes _) ?_; rintro e w1 ⟨rfl, hb1⟩; obtain ⟨a0, a1, a2⟩ := Blk.c3 (w := w1) (B := w.heap.size) (by repeat (first | (with_reducible assumption) | ((with_reducible refine Blk.new ?_); (first | (focus rfl) | (focus (simp; done)) | (focus omega))) | ((with_reducible refine Blk.set1 ?_ ?_); (focus omega)) | (with_reducible refine Blk.alloc ?_) | (refine Blk.ext ?_ (by with_reducible assumption))))))
  go_ret
  exact ⟨rfl, (by repeat (first | ((with_reducible refine Ext.set1 ?_ ?_); (first | (focus (simp; done)) | (focus (simp; omega)) | (focus omega))) | (with_reducible refine Ext.alloc ?_ _) | (with_reducible exact Ext.refl _) | (refine Ext.trans ?_ (by with_reducible assumption))))⟩

set_option maxRecDepth 10000 in
set_option maxHeartbeats 8000000 in
theorem parts_walk (S W Ln : Int) (A : Option Addr) (c : Nat) (l : List S44) (cut : Int) (w : World) (hr : k44.C w A l.length l) (hc : l.length ≤ c) (hct : 0 ≤ cut ∧ cut ≤ 65535) :
    Calls Try.prog 5 #[.agg #[.int .i64 S, .int .i64 W, .int .i64 Ln], .slice A l.length c, .int .u16 cut] w fun e w' => e = .returned (.bool true) ∧ Ext w w' := by
  cases hus : usB S W Ln l 0 with
  | false => exact parts_no S W Ln A c l cut w hr hc hus
  | true =>
    have us := us_is hus
    have HUS := Lib.hid hus
    clear hus
    have g := us.geo
    have hlen : l.length ≤ 12 := us.len
    have HHI := Lib.hid us.hi
    obtain ⟨L, hL⟩ := exists_lines l
    have HL := Lib.hid hL
    have HL2 : Hid (IsLines (other cut l) L) := other_lines cut hL
    have HH2 : Hid (∀ r ∈ other cut l, r.f1 ≤ 3000) := other_hi cut us.hi
    have HO2 := Lib.hid (other_len cut l)
    obtain ⟨ct0, ct1⟩ := hct
    have husb := fun w h => usable_any S W Ln A c l none 0 [] w h hc (Kd.C_nil _ _) (Nat.le_refl _)
    rw [show usB S W Ln l [].length = true from HUS.out] at husb
    have hcf := fun w h => conflicts_at g A c l L HL.out w h (by omega) HHI.out
    have hpe := fun w h => persistent_at g A c l L HL.out w h (by omega) HHI.out
    have hmi := fun w h => misses_at g A c l L HL.out w h (by omega) HHI.out
    clear hL us HUS
    obtain ⟨n, hn⟩ : ∃ n, l.length = n := ⟨_, rfl⟩
    rw [hn] at hr hc hlen husb HO2 hcf hpe hmi ⊢
    have HN := Lib.hid hn
    clear hn
    go_enter Try.func5, Try.ntmps5
    go_wp2_with (first
      | (go_at_call 22; refine Calls.mono (husb _ (C_ext hr (by exact (by repeat (first | ((with_reducible refine Ext.set1 ?_ ?_); (first | (focus (simp; done)) | (focus (simp; omega)) | (focus omega))) | (with_reducible refine Ext.alloc ?_ _) | (with_reducible exact Ext.refl _) | (refine Ext.trans ?_ (by with_reducible assumption))))))) ?_; rintro e w2 ⟨rfl, hb2⟩)
      | (go_at_call 11; refine Calls.mono (awake_yes _) ?_; rintro e w1 ⟨rfl, hb1⟩; obtain ⟨a0, a1, a2⟩ := Blk.c3 (w := w1) (B := w.heap.size) (by repeat (first | (with_reducible assumption) | ((with_reducible refine Blk.new ?_); (first | (focus rfl) | (focus (simp; done)) | (focus omega))) | ((with_reducible refine Blk.set1 ?_ ?_); (focus omega)) | (with_reducible refine Blk.alloc ?_) | (refine Blk.ext ?_ (by with_reducible assumption))))))
    have kc : Blk w2 w.heap.size (.cells #[.int .i64 S, .int .i64 W, .int .i64 Ln] 23) := (by repeat (first | (with_reducible assumption) | ((with_reducible refine Blk.new ?_); (first | (focus rfl) | (focus (simp; done)) | (focus omega))) | ((with_reducible refine Blk.set1 ?_ ?_); (focus omega)) | (with_reducible refine Blk.alloc ?_) | (refine Blk.ext ?_ (by with_reducible assumption))))
    have hx2 : Ext w w2 := (by repeat (first | ((with_reducible refine Ext.set1 ?_ ?_); (first | (focus (simp; done)) | (focus (simp; omega)) | (focus omega))) | (with_reducible refine Ext.alloc ?_ _) | (with_reducible exact Ext.refl _) | (refine Ext.trans ?_ (by with_reducible assumption))))
    clear hb1 hb2 a0 a1 a2 husb
    go_loopw [7, 8] (fun v i wz => ∃ (j k1 : Nat) (A1 : Option Addr) (c1 : Nat), i = .int .i64 ((j : Int) - 1) ∧ j ≤ n ∧ v = .slice A1 k1 c1 ∧ (k1 + 2 * j = 2 * n ∧ RefB wz w2.heap.size (.slice A1 k1 c1) (other cut (l.drop j)) ∧ Ext w2 wz) ∧ Hid ((other cut (l.drop j)).length = k1)) (fun _ i _ => (Go.RowKit.intOf i + 1).toNat)
    case atStart => exact ⟨n, 0, none, 0, by go_num, Nat.le_refl _, rfl, ⟨by omega, by rw [List.drop_of_length_le (by have := HN.out; omega)]; exact RefB.nil _ _, Ext.refl _⟩, by show _ = _; rw [List.drop_of_length_le (by have := HN.out; omega)]; rfl⟩
    case round =>
      obtain ⟨j, k1, A1, c1, rfl, hj, rfl, ⟨hk, hrf, hek⟩, HK⟩ := hrel
      by_cases hj0 : j = 0
      · subst hj0
        have hrf0 : RefB wr w2.heap.size (.slice A1 k1 c1) (other cut l) := hrf
        have HK0 : Hid ((other cut l).length = k1) := HK
        clear hrf HK
        have hk1 : k1 ≤ 100 := by omega
        clear hk
        obtain ⟨hc1, hC1⟩ : k1 ≤ c1 ∧ k44.C wr A1 k1 (other cut l) := by
          have := (Kd.R_reads' hrf0).2
          rwa [HK0.out] at this
        have hxr := hx2.trans hek
        have hrr := C_ext hr hxr
        have yc := kc.ext hek
        obtain ⟨t0, t1, t2⟩ := yc.c3
        have hcf2 := fun w h => conflicts_at g A1 c1 (other cut l) L HL2.out w h (by rw [HK0.out]; omega) HH2.out
        have hpe2 := fun w h => persistent_at g A1 c1 (other cut l) L HL2.out w h (by rw [HK0.out]; omega) HH2.out
        have hmi2 := fun w h => misses_at g A1 c1 (other cut l) L HL2.out w h (by rw [HK0.out]; omega) HH2.out
        rw [HK0.out] at hcf2 hpe2 hmi2
        have HCL := Lib.hid (confs_len S.toNat L)
        obtain ⟨wp, hwp⟩ : ∃ wp, wp = wr := ⟨wr, rfl⟩
        subst hwp
        go_wp2
        go_region_held3 (fun w' => w'.cell? ⟨w.heap.size, 0, none⟩ = some (.int .i64 S) ∧ w'.cell? ⟨w.heap.size, 1, none⟩ = some (.int .i64 W) ∧ w'.cell? ⟨w.heap.size, 2, none⟩ = some (.int .i64 Ln)) (go_keep)
          (first
            | (have gq := hE87; clear gq; go_at_call 16; (with_reducible refine Calls.mono (hmi2 _ (C_ext hC1 hE87)) ?_); rintro e w88 ⟨rfl, hb88⟩; have hE88 : Ext wp w88 := hE87.trans hb88; obtain ⟨u0, u1, u2⟩ := (yc.ext hE88).c3)
            | (have gq := hE86; clear gq; go_at_call 16; (with_reducible refine Calls.mono (hmi _ (C_ext hrr hE86)) ?_); rintro e w87 ⟨rfl, hb87⟩; have hE87 : Ext wp w87 := hE86.trans hb87; obtain ⟨u0, u1, u2⟩ := (yc.ext hE87).c3)
            | (have gq := hE85; clear gq; go_at_call 20; (with_reducible refine Calls.mono (ints_yes _ _ _ _ _ (pers W S.toNat L) _ (C_ext hC84 hb85) hC85) ?_); rintro e w86 ⟨rfl, hb86⟩; have hE86 : Ext wp w86 := hE85.trans hb86; obtain ⟨u0, u1, u2⟩ := (yc.ext hE86).c3)
            | (have gq := hE84; clear gq; go_at_call 15; (with_reducible refine Calls.mono (hpe2 _ (C_ext hC1 hE84)) ?_); rintro e w85 ⟨A85, c85, rfl, hR85, hb85⟩; obtain ⟨A9, c9, e9, _, hC85⟩ := hR85.C; cases e9; have hE85 : Ext wp w85 := hE84.trans hb85; obtain ⟨u0, u1, u2⟩ := (yc.ext hE85).c3)
            | (have gq := hE83; clear gq; go_at_call 15; (with_reducible refine Calls.mono (hpe _ (C_ext hrr hE83)) ?_); rintro e w84 ⟨A84, c84, rfl, hR84, hb84⟩; obtain ⟨A9, c9, e9, _, hC84⟩ := hR84.C; cases e9; have hE84 : Ext wp w84 := hE83.trans hb84; obtain ⟨u0, u1, u2⟩ := (yc.ext hE84).c3)
            | (have gq := hE82; clear gq; go_at_call 20; (with_reducible refine Calls.mono (ints_yes _ _ _ _ _ (confs S.toNat L) _ (C_ext hC81 hb82) hC82) ?_); rintro e w83 ⟨rfl, hb83⟩; have hE83 : Ext wp w83 := hE82.trans hb83; obtain ⟨u0, u1, u2⟩ := (yc.ext hE83).c3)
            | (have gq := hE81; clear gq; go_at_call 14; (with_reducible refine Calls.mono (hcf2 _ (C_ext hC1 hE81)) ?_); rintro e w82 ⟨A82, c82, rfl, hmc82, hR82, _, hb82⟩; obtain ⟨A9, c9, e9, _, hC82⟩ := hR82.C; rw [confs_len] at hC82 e9; cases e9; have hE82 : Ext wp w82 := hE81.trans hb82; obtain ⟨u0, u1, u2⟩ := (yc.ext hE82).c3)
            | (go_at_call 14; (with_reducible refine Calls.mono (hcf _ (C_ext hrr (Ext.drew (Ext.refl _)))) ?_); rintro e w81 ⟨A81, c81, rfl, hmc81, hR81, _, hb81⟩; obtain ⟨A9, c9, e9, _, hC81⟩ := hR81.C; rw [confs_len] at hC81 e9; cases e9; have hE81 : Ext wp w81 := (Ext.drew (Ext.refl _)).trans hb81; obtain ⟨u0, u1, u2⟩ := (yc.ext hE81).c3))
        all_goals
          go_wp2
          go_ret
          exact ⟨by simp, hxr.trans hE88⟩
      · obtain ⟨i, rfl⟩ : ∃ i, j = i + 1 := ⟨j - 1, by omega⟩
        have ei : ((i + 1 : Nat) : Int) - 1 = (i : Int) := by omega
        rw [ei]
        have hil : i < l.length := by rw [HN.out]; omega
        have hin : i < n := by omega
        have hnx := drop_next hil cut
        obtain ⟨ad, rfl, d0, d1⟩ := at_ref (C_ext hr (hx2.trans hek)) i hin
        have hhi := HHI.out (l.getD i z44) (by rw [List.getD_eq_getElem?_getD, List.getElem?_eq_getElem hil]; exact List.getElem_mem _)
        obtain ⟨⟨x0, x1⟩, hx⟩ : ∃ x, x = l.getD i z44 := ⟨_, rfl⟩
        rw [← hx] at d0 d1 hnx hhi
        dsimp only at d0 d1 hhi
        clear hx hil ei
        have kb : Blk (wr.alloc (refO x0 x1)) wr.heap.size (refO x0 x1) := Blk.new rfl
        have hEb : Ext wr (wr.alloc (refO x0 x1)) := (Ext.refl wr).alloc _
        by_cases hcut : 0 ≤ x0 ∧ x0 < x1 ∧ x1 ≤ 3000
        · have hcr : cutRef cut ⟨x0, x1⟩ = [⟨x0 + cut % (x1 - x0) + 1, x1⟩, ⟨x0, x0 + cut % (x1 - x0)⟩] := if_pos hcut
          rw [hcr] at hnx
          obtain ⟨h0, h1, h2⟩ := hcut
          have m1 := Int.emod_nonneg cut (show x1 - x0 ≠ 0 by omega)
          have m2 := Int.emod_lt_of_pos cut (show 0 < x1 - x0 by omega)
          have hD0 : (x1 - x0 == 0) = false := by simp; omega
          obtain ⟨Z, hZ⟩ : ∃ Z, cut % (x1 - x0) = Z := ⟨_, rfl⟩
          rw [hZ] at m1 m2 hnx
          have HNX := Lib.hid hnx
          clear hnx hcr
          go_wp2
          refine wp_region_e (by kernel_rfl) ?_
          repeat (
            first
              | go_big_quiet_skip
              | (go_big_quiet_want
                 go_big_quiet_op
                 first
                   | go_big_quiet_on
                   | (apply Exists.intro
                      refine ⟨fun w' hw' => ?_, ?_⟩
                      · (obtain ⟨q0, q1, q2, q3⟩ := (kb.ext hw').c2; go_simp; rfl)
                      go_big_quiet_on)))
          refine wpQuiet_nil ?_
          intro w7 hb7
          have kb7 := kb.ext hb7
          obtain ⟨q0, q1, q2, q3⟩ := kb7.c2
          have hE7 := hEb.trans hb7
          go_wp2_with (at_builtin; refine wp_append_r (w0 := w2) rfl _ _ rfl (.slice A1 k1 c1) (other cut (l.drop (i + 1))) (x0 + Z + 1) x1 x0 (x0 + Z) w7.heap.size k1 HK.out rfl rfl (Blk.new rfl) ((hrf.ext hE7).ext ((Ext.refl _).alloc _)) ((hek.trans hE7).alloc _) (by omega) ?_; intro A8 c8 w8 hM8 hb8)
          refine ⟨⟨i, k1 + 2, A8, c8, by go_num, by omega, by go_num, ⟨by omega, by rw [HNX.out]; exact hM8, hb8⟩, by show _ = _; rw [HNX.out, List.length_append, HK.out]; rfl⟩, ?_⟩
          simp [Go.RowKit.intOf]
        · have hcr : cutRef cut ⟨x0, x1⟩ = [⟨x0, x1⟩, ⟨x0, x1⟩] := if_neg hcut
          rw [hcr] at hnx
          have HNX := Lib.hid hnx
          clear hnx hcr
          obtain ⟨q0, q1, q2, q3⟩ := kb.c2
          by_cases h0 : 0 ≤ x0
          · have h1 : ¬ x0 < x1 := fun h => hcut ⟨h0, h, hhi⟩
            go_wp2_with (at_builtin; refine wp_append_r (w0 := w2) rfl _ _ rfl (.slice A1 k1 c1) (other cut (l.drop (i + 1))) x0 x1 x0 x1 (wr.heap.size + 1) k1 HK.out rfl rfl (Blk.new (by simp)) ((hrf.ext hEb).ext ((Ext.refl _).alloc _)) ((hek.trans hEb).alloc _) (by omega) ?_; intro A8 c8 w8 hM8 hb8)
            refine ⟨⟨i, k1 + 2, A8, c8, by go_num, by omega, by go_num, ⟨by omega, by rw [HNX.out]; exact hM8, hb8⟩, by show _ = _; rw [HNX.out, List.length_append, HK.out]; rfl⟩, ?_⟩
            simp [Go.RowKit.intOf]
          · go_wp2_with (at_builtin; refine wp_append_r (w0 := w2) rfl _ _ rfl (.slice A1 k1 c1) (other cut (l.drop (i + 1))) x0 x1 x0 x1 (wr.heap.size + 1) k1 HK.out rfl rfl (Blk.new (by simp)) ((hrf.ext hEb).ext ((Ext.refl _).alloc _)) ((hek.trans hEb).alloc _) (by omega) ?_; intro A8 c8 w8 hM8 hb8)
            refine ⟨⟨i, k1 + 2, A8, c8, by go_num, by omega, by go_num, ⟨by omega, by rw [HNX.out]; exact hM8, hb8⟩, by show _ = _; rw [HNX.out, List.length_append, HK.out]; rfl⟩, ?_⟩
            simp [Go.RowKit.intOf]
end Go.Proofs.Ytdbgnniedcibeaa
