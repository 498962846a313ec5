/- The contract of the reference's AccessRange. -/
import Derived.Test.YtaekkfgggmighaaMuR
import Derived.BigQuiet
namespace Go.Proofs.Ytaekkfgggmighaa
open Go.RowKit Go.Maps Go.BigFrame Go.Proofs.YtaekkfgggmighaaW.PrintWords Go.Proofs.Ytaekkfgggmighaa.Pgreat Go.Proofs.Ytaekkfgggmighaa.PAccessRange
set_option linter.unusedVariables false

theorem uDo_range {S W : Int} {f : FM} {lo hi : Int} (h : ¬ (lo = -1 ∧ hi = -1)) : uDo S W f lo hi = uRange S W f lo hi := by
  unfold uDo
  rw [if_neg h]
  split
  · rename_i e
    subst e
    unfold uAccS uRange
    by_cases c : lo < 0
    · rw [if_pos c, if_pos (by omega)]
    · rw [if_neg c, if_neg (by omega), if_pos (by omega)]
  · rfl
theorem at_bound {w : World} {A : Option Addr} {n : Nat} {xs : List S64} (h : k64.C w A n xs) (k : Nat) (hk : k < n) : ∃ ad, A = some ad ∧ w.cell? (ad.add (k * 2)) = some (.int .i64 (xs.getD k z64).f0) ∧ w.cell? ⟨(ad.add (k * 2)).block, (ad.add (k * 2)).off + 1, none⟩ = some (.int .i64 (xs.getD k z64).f1) := by
  have := at_T64 h (k : Int) (by omega) (by omega)
  simpa [rd_T64] using this
abbrev bndO (y c : Int) : Obj := .cells #[.int .i64 y, .int .i64 c] 64
theorem Blk.c2 {w : World} {B : Nat} {a b : Value} {t : TypeId} (h : Blk w B (.cells #[a, b] t)) : w.cell? ⟨B, 0, none⟩ = some a ∧ w.cell? ⟨B, 1, none⟩ = some b ∧ w.frozen? ⟨B, 0, none⟩ = false ∧ w.frozen? ⟨B, 1, none⟩ = false := ⟨h.cell 0, h.cell 1, h.free 0, h.free 1⟩
theorem Blk.put2 {w : World} {B : Nat} {a b b' : Value} {t : TypeId} (h : Blk w B (.cells #[a, b] t)) : Blk (w.setCell ⟨B, 1, none⟩ b') B (.cells #[a, b'] t) := by
  have h1 := h.put (k := 1) (u := b')
  simpa using h1
theorem bMap_next {g : Int → Int → Option Int} {l : List S64} {j : Nat} (h : j < l.length) : bMap g (l.take (j + 1)) = bMap g (l.take j) ++ bMap g [l.getD j z64] := by
  have : l.take (j + 1) = l.take j ++ [l.getD j z64] := by
    rw [List.take_add_one, List.getElem?_eq_getElem h, List.getD_eq_getElem?_getD, List.getElem?_eq_getElem h]
    rfl
  rw [this, bMap_append]

/-- What AccessRange hands back. -/
def GivesB (S W : Int) (f' : FM) (n : Nat) (w0 w : World) (v : Value) (e : Ending) (w' : World) : Prop :=
  ∃ v' l', (e = .returned v' ∧ BndO w' w0.heap.size v' l' ∧ Ext w0 w' ∧ KeptO w w' v) ∧ BRep l' f' ∧ l'.length ≤ n + 1

set_option maxHeartbeats 1000000 in
theorem ref_range_none {S W L : Int} (lo hi : Int) (h : hi < max lo 0) (v : Value) (l : List S64) (f : FM) (hrep : BRep l f) (w0 w : World) (hB : Ext w0 w) (ho : BndO w w0.heap.size v l) :
    Calls Try.prog 24 #[.agg #[.int .i64 S, .int .i64 W, .int .i64 L], v, .int .i64 lo, .int .i64 hi] w (GivesB S W f l.length w0 w v) := by
  obtain ⟨A, c, rfl, hcl, hC⟩ := ho.slice
  obtain ⟨m, hm⟩ : ∃ m, max lo 0 = m := ⟨_, rfl⟩
  rw [hm] at h
  have HR := Lib.hid hrep
  clear hrep
  go_enter Try.func24, Try.ntmps24
  go_wp2
  go_ret
  exact ⟨_, l, ⟨rfl, ho.ext (by repeat (first | ((with_reducible refine Ext.set1 ?_ ?_); (first | (focus (simp; done)) | (focus (simp; omega)) | (focus omega))) | (with_reducible refine Ext.alloc ?_ _) | (with_reducible exact Ext.refl _) | (refine Ext.trans ?_ (by with_reducible assumption)))), hB.trans (by repeat (first | ((with_reducible refine Ext.set1 ?_ ?_); (first | (focus (simp; done)) | (focus (simp; omega)) | (focus omega))) | (with_reducible refine Ext.alloc ?_ _) | (with_reducible exact Ext.refl _) | (refine Ext.trans ?_ (by with_reducible assumption)))), KeptO.ofExt (by repeat (first | ((with_reducible refine Ext.set1 ?_ ?_); (first | (focus (simp; done)) | (focus (simp; omega)) | (focus omega))) | (with_reducible refine Ext.alloc ?_ _) | (with_reducible exact Ext.refl _) | (refine Ext.trans ?_ (by with_reducible assumption)))) _⟩, HR.out, by omega⟩
set_option maxHeartbeats 1000000 in
theorem ref_range_one {S W L : Int} (g : Geo S W L) (lo hi : Int) (h : max lo 0 = hi) (v : Value) (l : List S64) (f : FM) (hrep : BRep l f) (hf : Fit W f) (hl : l.length < 100000) (w0 w : World) (hB : Ext w0 w) (ho : BndO w w0.heap.size v l) :
    Calls Try.prog 24 #[.agg #[.int .i64 S, .int .i64 W, .int .i64 L], v, .int .i64 lo, .int .i64 hi] w (GivesB S W (uAcc S W f hi) l.length w0 w v) := by
  have hi0 : 0 ≤ hi := by omega
  have hacc : ∀ w1, Ext w w1 → Calls Try.prog 44 #[.agg #[.int .i64 S, .int .i64 W, .int .i64 L], v, .int .i64 hi] w1 fun e w' => ∃ v', e = .returned v' ∧ BndO w' w0.heap.size v' (rAccL S W hi l) ∧ Ext w0 w' ∧ KeptO w1 w' v := fun w1 h1 => by
    refine (ontimeref30_Access.calls _ S W L _ v l hi _ w0 w1 (hB.trans h1) (ho.ext h1) (acc_f W L g.s1 g.w8 hi hi0 l hl (hrep.fit hf))).mono ?_
    rintro e w' ⟨v', he, h1, h2, h3⟩
    exact ⟨v', he, BndO.of h1, h2, h3⟩
  have HRL : Hid (BRep (rAccL S W hi l) (uAcc S W f hi) ∧ (rAccL S W hi l).length ≤ l.length + 1) := ⟨rep_acc hrep hf g.w1, by
    unfold rAccL
    rw [List.length_append, List.length_singleton]
    have := bMap_len (gAcc S W ((bLook l hi).getD (-1)) hi) l
    omega⟩
  clear hrep
  go_enter Try.func24, Try.ntmps24
  go_wp2_with (go_at_call 44; refine Calls.mono (hacc _ (by repeat (first | ((with_reducible refine Ext.set1 ?_ ?_); (first | (focus (simp; done)) | (focus (simp; omega)) | (focus omega))) | (with_reducible refine Ext.alloc ?_ _) | (with_reducible exact Ext.refl _) | (refine Ext.trans ?_ (by with_reducible assumption))))) ?_; rintro e w2 ⟨v', rfl, h1, h2, h3⟩; obtain ⟨A', c', rfl, hcl', hC'⟩ := h1.slice)
  go_ret
  refine ⟨_, _, ⟨rfl, h1, h2, ?_⟩, HRL.out.1, HRL.out.2⟩
  exact Kept.mono (Kept.then_ (KeptO.ofExt ((Ext.refl w).alloc _) v) h3 (fun k hk => .inl hk)) (fun k hk => hk)

set_option maxRecDepth 10000 in
set_option maxHeartbeats 4000000 in
theorem ref_range_many {S W L : Int} (g : Geo S W L) (lo hi m : Int) (hm : max lo 0 = m) (h : m < hi) (hh : hi ≤ 1000000) (v : Value) (l : List S64) (f : FM) (hrep : BRep l f) (hf : Fit W f) (hl : l.length < 100000) (w0 w : World) (hB : Ext w0 w) (ho : BndO w w0.heap.size v l) :
    Calls Try.prog 24 #[.agg #[.int .i64 S, .int .i64 W, .int .i64 L], v, .int .i64 lo, .int .i64 hi] w (GivesB S W (mUp W (rngM S m hi) f) l.length w0 w v) := by
  have hi2 : (m == hi) = false := by simp; omega
  have hi3 : ¬ hi < m := by omega
  have hs1 := g.s1
  have hs64 := g.s64
  have hw8 := g.w8
  have hm0 : 0 ≤ m := by omega
  have hS0 : (S == 0) = false := by simp; omega
  obtain ⟨A, c, rfl, hcl, hC⟩ := ho.slice
  have HF := Lib.hid (hrep.fit hf)
  have HRL : Hid (BRep (bMap (gRng S W m hi) l) (mUp W (rngM S m hi) f) ∧ (bMap (gRng S W m hi) l).length ≤ l.length + 1) := ⟨rep_rng hrep hf, by have := bMap_len (gRng S W m hi) l; omega⟩
  have HBL := Lib.hid (fun j => bMap_len (gRng S W m hi) (l.take j))
  clear hrep
  obtain ⟨n, hn⟩ : ∃ n, l.length = n := ⟨_, rfl⟩
  rw [hn] at hl hcl hC ho HRL ⊢
  have HN := Lib.hid hn
  clear hn
  go_enter Try.func24, Try.ntmps24
  go_wp2
  have kc : Blk (w.alloc (.cells #[.int .i64 S, .int .i64 W, .int .i64 L] 23)) w.heap.size (.cells #[.int .i64 S, .int .i64 W, .int .i64 L] 23) := Blk.new rfl
  have hxa : Ext w (w.alloc (.cells #[.int .i64 S, .int .i64 W, .int .i64 L] 23)) := (Ext.refl w).alloc _
  obtain ⟨wa, hwa⟩ : ∃ wa, wa = w.alloc (.cells #[.int .i64 S, .int .i64 W, .int .i64 L] 23) := ⟨_, rfl⟩
  rw [← hwa] at kc hxa ⊢
  clear hwa
  go_loopw [9, 10] (fun o i wr => ∃ (j k1 : Nat) (A1 : Option Addr) (c1 : Nat), i = .int .i64 j ∧ j ≤ n ∧ o = .slice A1 k1 c1 ∧ (k1 ≤ j ∧ BndB wr wa.heap.size (.slice A1 k1 c1) (bMap (gRng S W m hi) (l.take j)) ∧ Ext wa wr) ∧ Hid ((bMap (gRng S W m hi) (l.take j)).length = k1)) (fun _ i _ => n - (Go.RowKit.intOf i).toNat)
  case atStart => exact ⟨0, 0, none, 0, rfl, Nat.zero_le _, rfl, ⟨Nat.le_refl _, BndB.nil _ _, Ext.refl _⟩, rfl⟩
  case round =>
    obtain ⟨j, k1, A1, c1, rfl, hj, rfl, ⟨hkj, hbd, hek⟩, HK⟩ := hrel
    have yc := kc.ext hek
    have hlc := yc.lt
    by_cases hlt : j < n
    · obtain ⟨ad, rfl, d0, d1⟩ := at_bound (C_ext hC (hxa.trans hek)) j hlt
      have hjl : j < l.length := by rw [HN.out]; exact hlt
      have hbm : l.getD j z64 ∈ l := by rw [List.getD_eq_getElem?_getD, List.getElem?_eq_getElem hjl]; exact List.getElem_mem _
      have hfb := HF.out _ hbm
      have hnx := bMap_next (g := gRng S W m hi) hjl
      obtain ⟨⟨y, cc⟩, hx⟩ : ∃ x, x = l.getD j z64 := ⟨_, rfl⟩
      rw [← hx] at d0 d1 hfb hnx
      dsimp only at d0 d1 hfb hnx
      have HNX := Lib.hid hnx
      clear hx hbm hjl hnx
      obtain ⟨f0, f1, f2⟩ := hfb
      have htc := fun B hB => touched_at W L hs1 hs64 m hi y hm0 (by omega) f0 _ rfl B hB
      have hz0 := Int.emod_nonneg y (show S ≠ 0 by omega)
      have hz1 := Int.emod_lt_of_pos y (show 0 < S by omega)
      obtain ⟨Z, hZ⟩ : ∃ Z, y % S = Z := ⟨_, rfl⟩
      rw [hZ] at htc hz0 hz1
      by_cases ht : (y - m) % S ≤ hi - m
      · have hcall := htc true (decide_eq_true ht)
        by_cases hcw : cc + 1 < W
        · have HG : Hid (bMap (gRng S W m hi) [⟨y, cc⟩] = [⟨y, cc + 1⟩]) := by
            show bMap _ _ = _
            have : gRng S W m hi y cc = some (cc + 1) := by unfold gRng; rw [if_pos ht, if_pos hcw]
            simp only [bMap, this]
          clear htc ht
          go_wp2
          have kb : Blk (wr.alloc (bndO y cc)) wr.heap.size (bndO y cc) := Blk.new rfl
          have yc2 := yc.alloc (o' := bndO y cc)
          refine wp_region_m (by kernel_rfl) ?_
          repeat (
            first
              | go_big_quiet_skip
              | (go_big_quiet_want
                 go_big_quiet_op
                 first
                   | go_big_quiet_on
                   | (apply Exists.intro
                      refine ⟨fun w' hw' => ?_, ?_⟩
                      · (first
                        | (go_at_call 45; (with_reducible refine Calls.mono (hcall w') ?_); rintro e w'' ⟨rfl, hx⟩; exact ⟨rfl, hw'.trans hx⟩)
                        | (obtain ⟨q0, q1, q2⟩ := (yc2.ext hw').c3; obtain ⟨s0, s1, s2, s3⟩ := (kb.ext hw').c2; go_simp; rfl))
                      go_big_quiet_on)))
          refine wpQuiet_nil ?_
          intro w7 hb7
          have kb7 := kb.ext hb7
          have yc7 := yc2.ext hb7
          have hE7 : Ext wr w7 := ((Ext.refl wr).alloc _).trans hb7
          obtain ⟨q0, q1, q2⟩ := yc7.c3
          obtain ⟨s0, s1, s2, s3⟩ := kb7.c2
          have hz7 := kb7.lt
          have kb8 := Blk.put2 (b' := .int .i64 (cc + 1)) kb7
          have yc8 := Blk.set1 (k := 1) (u := .int .i64 (cc + 1)) (show w.heap.size ≠ wr.heap.size by omega) yc7
          have hE8 : Ext wr (w7.setCell ⟨wr.heap.size, 1, none⟩ (.int .i64 (cc + 1))) := Ext.set1 (Nat.le_refl _) hE7
          obtain ⟨r0, r1, r2⟩ := yc8.c3
          obtain ⟨v0, v1, v2, v3⟩ := kb8.c2
          go_wp2_with (at_builtin; refine wp_append_b (w0 := wa) rfl _ _ rfl (.slice A1 k1 c1) (bMap (gRng S W m hi) (l.take j)) y (cc + 1) w7.heap.size k1 HK.out rfl rfl (Blk.new (by simp)) ((hbd.ext hE8).ext ((Ext.refl _).alloc _)) ((hek.trans hE8).alloc _) (by omega) ?_; intro A8 c8 w8 hM8 hb8)
          refine ⟨⟨j + 1, k1 + 1, A8, c8, by go_num, by omega, by go_num, ⟨by omega, by rw [HNX.out, HG.out]; exact hM8, hb8⟩, by show _ = _; rw [HNX.out, HG.out, List.length_append, HK.out]; rfl⟩, ?_⟩
          simp [Go.RowKit.intOf]
          omega
        · have HG : Hid (bMap (gRng S W m hi) [⟨y, cc⟩] = []) := by
            show bMap _ _ = _
            have : gRng S W m hi y cc = none := by unfold gRng; rw [if_pos ht, if_neg hcw]
            simp only [bMap, this]
          clear htc ht
          go_wp2
          have kb : Blk (wr.alloc (bndO y cc)) wr.heap.size (bndO y cc) := Blk.new rfl
          have yc2 := yc.alloc (o' := bndO y cc)
          refine wp_region_m (by kernel_rfl) ?_
          repeat (
            first
              | go_big_quiet_skip
              | (go_big_quiet_want
                 go_big_quiet_op
                 first
                   | go_big_quiet_on
                   | (apply Exists.intro
                      refine ⟨fun w' hw' => ?_, ?_⟩
                      · (first
                        | (go_at_call 45; (with_reducible refine Calls.mono (hcall w') ?_); rintro e w'' ⟨rfl, hx⟩; exact ⟨rfl, hw'.trans hx⟩)
                        | (obtain ⟨q0, q1, q2⟩ := (yc2.ext hw').c3; obtain ⟨s0, s1, s2, s3⟩ := (kb.ext hw').c2; go_simp; rfl))
                      go_big_quiet_on)))
          refine wpQuiet_nil ?_
          intro w7 hb7
          have kb7 := kb.ext hb7
          have yc7 := yc2.ext hb7
          have hE7 : Ext wr w7 := ((Ext.refl wr).alloc _).trans hb7
          obtain ⟨q0, q1, q2⟩ := yc7.c3
          obtain ⟨s0, s1, s2, s3⟩ := kb7.c2
          have hz7 := kb7.lt
          have kb8 := Blk.put2 (b' := .int .i64 (cc + 1)) kb7
          have yc8 := Blk.set1 (k := 1) (u := .int .i64 (cc + 1)) (show w.heap.size ≠ wr.heap.size by omega) yc7
          have hE8 : Ext wr (w7.setCell ⟨wr.heap.size, 1, none⟩ (.int .i64 (cc + 1))) := Ext.set1 (Nat.le_refl _) hE7
          obtain ⟨r0, r1, r2⟩ := yc8.c3
          obtain ⟨v0, v1, v2, v3⟩ := kb8.c2
          go_wp2
          refine ⟨⟨j + 1, k1, A1, c1, by go_num, by omega, by go_num, ⟨by omega, by rw [HNX.out, HG.out, List.append_nil]; exact hbd.ext hE8, hek.trans hE8⟩, by show _ = _; rw [HNX.out, HG.out, List.append_nil, HK.out]⟩, ?_⟩
          simp [Go.RowKit.intOf]
          omega
      · have hcall := htc false (decide_eq_false ht)
        have HG : Hid (bMap (gRng S W m hi) [⟨y, cc⟩] = [⟨y, cc⟩]) := by
          show bMap _ _ = _
          have : gRng S W m hi y cc = some cc := by unfold gRng; rw [if_neg ht, if_pos f2]
          simp only [bMap, this]
        clear htc ht
        go_wp2
        have kb : Blk (wr.alloc (bndO y cc)) wr.heap.size (bndO y cc) := Blk.new rfl
        have yc2 := yc.alloc (o' := bndO y cc)
        refine wp_region_m (by kernel_rfl) ?_
        repeat (
          first
            | go_big_quiet_skip
            | (go_big_quiet_want
               go_big_quiet_op
               first
                 | go_big_quiet_on
                 | (apply Exists.intro
                    refine ⟨fun w' hw' => ?_, ?_⟩
                    · (first
                      | (go_at_call 45; (with_reducible refine Calls.mono (hcall w') ?_); rintro e w'' ⟨rfl, hx⟩; exact ⟨rfl, hw'.trans hx⟩)
                      | (obtain ⟨q0, q1, q2⟩ := (yc2.ext hw').c3; obtain ⟨s0, s1, s2, s3⟩ := (kb.ext hw').c2; go_simp; rfl))
                    go_big_quiet_on)))
        refine wpQuiet_nil ?_
        intro w7 hb7
        have kb7 := kb.ext hb7
        have yc7 := yc2.ext hb7
        have hE7 : Ext wr w7 := ((Ext.refl wr).alloc _).trans hb7
        obtain ⟨q0, q1, q2⟩ := yc7.c3
        obtain ⟨s0, s1, s2, s3⟩ := kb7.c2
        have hz7 := kb7.lt
        go_wp2_with (at_builtin; refine wp_append_b (w0 := wa) rfl _ _ rfl (.slice A1 k1 c1) (bMap (gRng S W m hi) (l.take j)) y cc w7.heap.size k1 HK.out rfl rfl (Blk.new (by simp)) ((hbd.ext hE7).ext ((Ext.refl _).alloc _)) ((hek.trans hE7).alloc _) (by omega) ?_; intro A8 c8 w8 hM8 hb8)
        refine ⟨⟨j + 1, k1 + 1, A8, c8, by go_num, by omega, by go_num, ⟨by omega, by rw [HNX.out, HG.out]; exact hM8, hb8⟩, by show _ = _; rw [HNX.out, HG.out, List.length_append, HK.out]; rfl⟩, ?_⟩
        simp [Go.RowKit.intOf]
        omega
    · obtain rfl : j = n := by omega
      have etk : l.take j = l := List.take_of_length_le (by have := HN.out; omega)
      rw [etk] at hbd HK
      clear etk
      go_wp2
      go_ret
      have hb2 : BndO wr w0.heap.size (.slice A1 k1 c1) (bMap (gRng S W m hi) l) := (BndO.of hbd).lower (Nat.le_trans hB.size hxa.size)
      exact ⟨_, _, ⟨rfl, hb2, hB.trans (hxa.trans hek), KeptO.ofExt (hxa.trans hek) _⟩, HRL.out.1, HRL.out.2⟩
theorem ref_range {S W L : Int} (g : Geo S W L) (lo hi : Int) (hh : hi ≤ 1000000) (v : Value) (l : List S64) (f : FM) (hrep : BRep l f) (hf : Fit W f) (hl : l.length < 100000) (w0 w : World) (hB : Ext w0 w) (ho : BndO w w0.heap.size v l) :
    Calls Try.prog 24 #[.agg #[.int .i64 S, .int .i64 W, .int .i64 L], v, .int .i64 lo, .int .i64 hi] w (GivesB S W (uRange S W f lo hi) l.length w0 w v) := by
  unfold uRange
  by_cases h1 : hi < max lo 0
  · rw [if_pos h1]
    exact ref_range_none lo hi h1 v l f hrep w0 w hB ho
  rw [if_neg h1]
  by_cases h2 : max lo 0 = hi
  · rw [if_pos h2]
    exact ref_range_one g lo hi h2 v l f hrep hf hl w0 w hB ho
  rw [if_neg h2]
  exact ref_range_many g lo hi _ rfl (by omega) hh v l f hrep hf hl w0 w hB ho
end Go.Proofs.Ytaekkfgggmighaa
