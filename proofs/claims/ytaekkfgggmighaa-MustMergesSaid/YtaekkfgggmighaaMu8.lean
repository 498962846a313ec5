/- The contract of must.Describes. -/
import Derived.Test.YtaekkfgggmighaaMu7
import Derived.Test.YtaekkfgggmighaaMuP
namespace Go.Proofs.Ytaekkfgggmighaa
open Go.RowKit Go.Maps Go.Proofs.YtaekkfgggmighaaW.PrintWords
set_option linter.unusedVariables false

theorem cell_lt {w : World} {p : Addr} {v : Value} (h : w.cell? p = some v) : p.block < w.heap.size := by
  unfold World.cell? at h
  by_cases c : p.block < w.heap.size
  · exact c
  · rw [Array.getElem?_eq_none (by omega)] at h
    simp at h
/-- v is the first place of x in r, or -1. -/
def IsIdx (r : List Int) (x v : Int) : Prop := (∃ k : Nat, v = k ∧ k < r.length ∧ r.getD k 0 = x ∧ ∀ j, j < k → r.getD j 0 ≠ x) ∨ (v = -1 ∧ ∀ j, j < r.length → r.getD j 0 ≠ x)
theorem IsIdx.ok {r : List Int} {x v c : Int} (h : IsIdx r x v) : (0 ≤ v ∧ v ≤ c) ↔ HasAt r x c := by
  constructor
  · rintro ⟨h0, h1⟩
    rcases h with ⟨k, rfl, hk, hx, _⟩ | ⟨rfl, _⟩
    · exact ⟨k, some_of_getD hk hx, h1⟩
    · omega
  · rintro ⟨p, hp, hpc⟩
    obtain ⟨hpl, hpx⟩ := getD_of_some hp
    rcases h with ⟨k, rfl, hk, hx, hne⟩ | ⟨_, hne⟩
    · by_cases c : p < k
      · exact absurd hpx (hne p c)
      · omega
    · exact absurd hpx (hne p hpl)

set_option maxHeartbeats 400000 in
theorem idx_C {w : World} {A : Option Addr} {n c : Nat} {r : List Int} (h : KI.C w A n r) (x : Int) :
    Calls Try.prog 38 #[.slice A n c, .int .i64 x] w fun e w' => ∃ v, e = .returned (.int .i64 v) ∧ IsIdx r x v ∧ Ext w w' := by
  have hlen := C_len h
  have hmax := C_max h
  have HLEN := Lib.hid hlen; clear hlen
  go_enter Try.func38, Try.ntmps38
  go_wp2
  go_loop [8] (fun i => ∃ k : Nat, i = .int .i64 k ∧ k ≤ n ∧ Hid (∀ j, j < k → r.getD j 0 ≠ x)) (fun i => n - (Go.RowKit.intOf i).toNat)
  case atStart => exact ⟨0, rfl, Nat.zero_le _, fun j hj => absurd hj (Nat.not_lt_zero _)⟩
  case round =>
    obtain ⟨k, rfl, hk, HK⟩ := hrel
    by_cases hlt : k < n
    · obtain ⟨ad, rfl, hcell⟩ := at_num h k hlt
      obtain ⟨z, hz⟩ : ∃ z, r.getD k 0 = z := ⟨_, rfl⟩
      rw [hz] at hcell
      have HZ := Lib.hid hz; clear hz
      by_cases hzx : x = z
      · subst hzx
        go_wp2
        go_ret
        exact ⟨_, rfl, .inl ⟨k, rfl, by rw [HLEN.out]; exact hlt, HZ.out, HK.out⟩, Ext.refl _⟩
      · have hzx2 : (x == z) = false := by simpa using hzx
        go_wp2
        go_round
        case rel =>
          refine ⟨k + 1, by go_num, by omega, fun j hj => ?_⟩
          by_cases e : j = k
          · subst e; rw [HZ.out]; exact fun e => hzx e.symm
          · exact HK.out j (by omega)
        case measure => simp [Go.RowKit.intOf]; omega
    · go_wp2
      go_ret
      exact ⟨_, rfl, .inr ⟨rfl, fun j hj => HK.out j (by rw [HLEN.out] at hj; omega)⟩, Ext.refl _⟩

set_option maxHeartbeats 400000 in
theorem must_descr_len {S W L : Int} (g : Geo S W L) (p : Option Nat) (A : Option Addr) (n c : Nat) (w : World) (hn : (n : Int) ≠ S) :
    Calls Try.prog 18 #[.agg #[.int .i64 S, .int .i64 W, .int .i64 L, .map p], .slice A n c] w fun e w' => e = .returned (.bool false) ∧ Ext w w' := by
  have hn2 : ((n : Int) != S) = true := by simpa using hn
  go_enter Try.func18, Try.ntmps18
  go_wp2_with (go_at_call 41; refine Calls.mono (must_zero_no g p _) ?_; rintro e w1 ⟨rfl, hb1⟩; obtain ⟨a0, a1, a2, a3⟩ := Blk.c4 (w := w1) (B := w.heap.size) (by repeat (first | (with_reducible assumption) | ((with_reducible refine Blk.new ?_); (first | (focus rfl) | (focus (simp; done)) | (focus omega))) | (with_reducible apply Blk.put4) | (with_reducible apply Blk.put1) | ((with_reducible refine Blk.far4 ?_ ?_); (focus omega)) | ((with_reducible refine Blk.set1 ?_ ?_); (focus omega)) | (with_reducible refine Blk.alloc ?_) | (with_reducible refine Blk.drew ?_) | (refine Blk.ext ?_ (by with_reducible assumption)))))
  go_ret
  exact ⟨rfl, (by repeat (first | ((with_reducible refine Ext.set1 ?_ ?_); (first | (focus (simp; done)) | (focus (simp; omega)) | (focus omega))) | (with_reducible refine Ext.alloc ?_ _) | (with_reducible exact Ext.refl _) | (refine Ext.trans ?_ (by with_reducible assumption))))⟩
set_option maxHeartbeats 400000 in
theorem must_descr_nil {S W L : Int} (g : Geo S W L) (A : Option Addr) (n c : Nat) (w : World) (hn : (n : Int) = S) :
    Calls Try.prog 18 #[.agg #[.int .i64 S, .int .i64 W, .int .i64 L, .map none], .slice A n c] w fun e w' => e = .returned (.bool true) ∧ Ext w w' := by
  have hrg := fun w => run_range_nilMap (P := Try.prog) w 26 _ _ Try.underlying26
  have hnx := fun w ty => run_next_nilMap (P := Try.prog) w ty 0 0 #[]
  have hn2 : ((n : Int) != S) = false := by simpa using hn
  clear hn
  go_enter Try.func18, Try.ntmps18
  go_wp2_with (go_at_call 41; refine Calls.mono (must_zero_no g none _) ?_; rintro e w1 ⟨rfl, hb1⟩; obtain ⟨a0, a1, a2, a3⟩ := Blk.c4 (w := w1) (B := w.heap.size) (by repeat (first | (with_reducible assumption) | ((with_reducible refine Blk.new ?_); (first | (focus rfl) | (focus (simp; done)) | (focus omega))) | (with_reducible apply Blk.put4) | (with_reducible apply Blk.put1) | ((with_reducible refine Blk.far4 ?_ ?_); (focus omega)) | ((with_reducible refine Blk.set1 ?_ ?_); (focus omega)) | (with_reducible refine Blk.alloc ?_) | (with_reducible refine Blk.drew ?_) | (refine Blk.ext ?_ (by with_reducible assumption)))); have q1 : w.heap.size < w1.heap.size := (by have := hb1.size; simp at this; omega))
  refine wp_loop_rounds 1 ?_
  rw [rounds_succ]
  go_wp2
  go_ret
  exact ⟨rfl, (by repeat (first | ((with_reducible refine Ext.set1 ?_ ?_); (first | (focus (simp; done)) | (focus (simp; omega)) | (focus omega))) | (with_reducible refine Ext.alloc ?_ _) | (with_reducible exact Ext.refl _) | (refine Ext.trans ?_ (by with_reducible assumption))))⟩

set_option maxHeartbeats 1000000 in
theorem must_descr_some {S W L : Int} (g : Geo S W L) (b m : Nat) (f : FM) (A : Option Addr) (n c : Nat) (ls : List (List Int)) (w : World) (hn : (n : Int) = S) (h : IMap w b m f) (hf : Fit W f) (hr : KL.C w A n ls) :
    Calls Try.prog 18 #[.agg #[.int .i64 S, .int .i64 W, .int .i64 L, .map (some b)], .slice A n c] w (Says (∀ y c, f y = some c → HasAt (ls.getD (y % S).toNat []) y c) w) := by
  have hn2 : ((n : Int) != S) = false := by simpa using hn
  have hS0 := g.s1
  have HN := Lib.hid hn; clear hn
  have HFIT := Lib.hid hf; clear hf
  have hb0 := h.lt
  go_enter Try.func18, Try.ntmps18
  go_wp2_with (first
    | (at_range; refine wpList_range_im _ rfl _ rfl w1.heap.size rfl b m f rfl (h.ext (by repeat (first | ((with_reducible refine Ext.set1 ?_ ?_); (first | (focus (simp; done)) | (focus (simp; omega)) | (focus omega))) | (with_reducible refine Ext.alloc ?_ _) | (with_reducible exact Ext.refl _) | (refine Ext.trans ?_ (by with_reducible assumption))))) ?_; intro w4 cnt4 hrm4 hb4 hs4 hcn4)
    | (go_at_call 41; refine Calls.mono (must_zero_no g (some b) _) ?_; rintro e w1 ⟨rfl, hb1⟩; obtain ⟨a0, a1, a2, a3⟩ := Blk.c4 (w := w1) (B := w.heap.size) (by repeat (first | (with_reducible assumption) | ((with_reducible refine Blk.new ?_); (first | (focus rfl) | (focus (simp; done)) | (focus omega))) | (with_reducible apply Blk.put4) | (with_reducible apply Blk.put1) | ((with_reducible refine Blk.far4 ?_ ?_); (focus omega)) | ((with_reducible refine Blk.set1 ?_ ?_); (focus omega)) | (with_reducible refine Blk.alloc ?_) | (with_reducible refine Blk.drew ?_) | (refine Blk.ext ?_ (by with_reducible assumption)))); have q1 : w.heap.size < w1.heap.size := (by have := hb1.size; simp at this; omega)))
  have k1 : Blk w4 w.heap.size (mustO S W L (some b)) := (by repeat (first | (with_reducible assumption) | ((with_reducible refine Blk.new ?_); (first | (focus rfl) | (focus (simp; done)) | (focus omega))) | (with_reducible apply Blk.put4) | (with_reducible apply Blk.put1) | ((with_reducible refine Blk.far4 ?_ ?_); (focus omega)) | ((with_reducible refine Blk.set1 ?_ ?_); (focus omega)) | (with_reducible refine Blk.alloc ?_) | (with_reducible refine Blk.drew ?_) | (refine Blk.ext ?_ (by with_reducible assumption))))
  have hext4 : Ext w w4 := (by repeat (first | ((with_reducible refine Ext.set1 ?_ ?_); (first | (focus (simp; done)) | (focus (simp; omega)) | (focus omega))) | (with_reducible refine Ext.alloc ?_ _) | (with_reducible exact Ext.refl _) | (refine Ext.trans ?_ (by with_reducible assumption))))
  clear a0 a1 a2 a3 hb1 hb4
  go_frame
  go_loopw [5] (fun _ wr => ∃ (lf : Int → Bool) (cnt : Nat), (RMap wr b w1.heap.size m f lf cnt ∧ Blk wr w.heap.size (mustO S W L (some b)) ∧ Ext w wr) ∧ Hid (∀ y c, f y = some c → lf y = false → HasAt (ls.getD (y % S).toNat []) y c))
    (fun _ wr => wr.rangeLeft b w1.heap.size)
  case atStart => exact ⟨_, _, ⟨hrm4, k1, hext4⟩, fun y c e h => by rw [e] at h; cases h⟩
  case round =>
    clear k1 hext4 hrm4 hs4
    obtain ⟨lf, cnt, ⟨hrm, k1, hext⟩, HM⟩ := hrel
    have hl1 := k1.lt
    go_wp2_with (at_next; refine wpList_next_im _ rfl _ rfl b w1.heap.size m f lf cnt rfl hrm ?_ ?_)
    · intro hdone
      go_wp2
      go_ret
      exact ⟨true, ⟨rfl, ⟨fun _ y c e => HM.out y c e (hdone y), fun _ => rfl⟩⟩, hext⟩
    · intro y d w5 cnt5 hy hd hly hfy hrm5 hlt5 hg5 hs5 hen
      have FY := Lib.hid hfy
      clear hly hfy
      obtain ⟨hy0, hd0, hdW⟩ := HFIT.out y d FY.out
      have k15 := k1.grown hg5 (by simp; omega)
      have hext5 : Ext w w5 := hext.grown hg5 (fun k e => by cases e; omega)
      have HLE := Lib.hid hrm.left_eq
      clear k1 hext hrm
      have hm1 := Int.emod_nonneg y (show S ≠ 0 by omega)
      have hm2 := Int.emod_lt_of_pos y (show 0 < S by omega)
      obtain ⟨i, hi⟩ : ∃ i : Nat, y % S = i := ⟨(y % S).toNat, by omega⟩
      have hin : i < n := by have := HN.out; omega
      have hset : ∀ w', Calls Try.prog 29 #[.agg #[.int .i64 S, .int .i64 W, .int .i64 L], .int .i64 y] w' fun e w'' => e = .returned (.int .i64 (i : Int)) ∧ Ext w' w'' := fun w' => by
        have := set_yes g y hy0 w'
        rwa [hi] at this
      have HI : Hid ((y % S).toNat = i) := by show (y % S).toNat = i; omega
      clear hm1 hm2 hi
      have hr5 := C_ext hr hext5
      obtain ⟨ad, A0, c0, rfl, hcell, hl0, hrow⟩ := at_row hr5 i hin
      obtain ⟨r, hrr⟩ : ∃ r, ls.getD i [] = r := ⟨_, rfl⟩
      rw [hrr] at hcell hl0 hrow
      have HR := Lib.hid hrr; clear hrr hr5
      obtain ⟨nr, hnr⟩ : ∃ nr, r.length = nr := ⟨_, rfl⟩
      rw [hnr] at hcell hl0 hrow
      clear hnr
      have hadl : (ad.add i).block < w5.heap.size := cell_lt (p := ad.add i) hcell
      obtain ⟨c00, c01, c02, c03⟩ := k15.c4
      go_wp2_with (first
        | (go_at_call 38; refine Calls.mono (idx_C (C_ext hrow hb6) y) ?_; rintro e w7 ⟨v, rfl, hv, hb7⟩)
        | (go_at_call 29; refine Calls.mono (hset _) ?_; rintro e w6 ⟨rfl, hb6⟩; have hcell6 := (hb6.cell (p := ad.add i) hadl).trans hcell))
      · have hIX := hv.ok (c := d)
        rw [← HR.out, ← HI.out] at hIX
        go_ret
        refine ⟨false, ⟨rfl, ⟨fun h => (by cases h), fun h => ?_⟩⟩, hext5.trans (hb6.trans hb7)⟩
        have := hIX.2 (h y d FY.out)
        omega
      · have hIX := hv.ok (c := d)
        rw [← HR.out, ← HI.out] at hIX
        have hrm7 := (hrm5.same (hb6.block hrm5.owns.lt) (hb6.block hrm5.lt)).same (hb7.block (Nat.lt_of_lt_of_le hrm5.owns.lt hb6.size)) (hb7.block (Nat.lt_of_lt_of_le hrm5.lt hb6.size))
        go_roundw
        case rel =>
          refine ⟨_, cnt5, ⟨hrm7, (k15.ext hb6).ext hb7, hext5.trans (hb6.trans hb7)⟩, fun z c ez hz => ?_⟩
          by_cases e : z = y
          · subst e
            rw [FY.out] at ez
            cases ez
            exact hIX.1 (by omega)
          · refine HM.out z c ez ?_
            simpa [e] using hz
        case measure => rw [hrm7.left_eq, HLE.out]; exact hlt5
      · have hIX := hv.ok (c := d)
        rw [← HR.out, ← HI.out] at hIX
        go_ret
        refine ⟨false, ⟨rfl, ⟨fun h => (by cases h), fun h => ?_⟩⟩, hext5.trans (hb6.trans hb7)⟩
        have := hIX.2 (h y d FY.out)
        omega
theorem must_descr {S W L : Int} (g : Geo S W L) (p : Option Nat) (m : Nat) (f : FM) (A : Option Addr) (c : Nat) (ls : List (List Int)) (w : World) (h : MB w W m f p) (hr : KL.C w A ls.length ls) :
    Calls Try.prog 18 #[.agg #[.int .i64 S, .int .i64 W, .int .i64 L, .map p], .slice A ls.length c] w (Says (Desc S f ls) w) := by
  by_cases hn : (ls.length : Int) = S
  · obtain ⟨h, hf⟩ := h
    rcases h with ⟨rfl, hno⟩ | ⟨b, rfl, him⟩
    · exact (must_descr_nil g A ls.length c w hn).mono fun e w' ⟨he, hb⟩ => ⟨true, ⟨he, ⟨fun _ => ⟨hn, fun y c e => by rw [hno] at e; cases e⟩, fun _ => rfl⟩⟩, hb⟩
    · exact (must_descr_some g b m f A ls.length c ls w hn him hf hr).mono fun e w' ⟨r, ⟨he, hq⟩, hb⟩ => ⟨r, ⟨he, hq.trans ⟨fun h => ⟨hn, h⟩, fun h => h.2⟩⟩, hb⟩
  · exact (must_descr_len g p A ls.length c w hn).mono fun e w' ⟨he, hb⟩ => ⟨false, ⟨he, by simp [Desc, hn]⟩, hb⟩
end Go.Proofs.Ytaekkfgggmighaa
