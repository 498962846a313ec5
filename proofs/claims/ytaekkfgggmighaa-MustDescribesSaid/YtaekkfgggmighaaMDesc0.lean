/- The walk of ontimelaw30.MustDescribes. -/
import Derived.Test.YtaekkfgggmighaaMuD
import Derived.Test.YtaekkfgggmighaaMu8
import Derived.Test.YtaekkfgggmighaaOpenM
import Derived.Deep.QuietTactic
namespace Go.Proofs.Ytaekkfgggmighaa
open Go.RowKit Go.Maps Go.Proofs.YtaekkfgggmighaaW.PrintWords Go.Proofs.Ytaekkfgggmighaa.Pgreat Go.Proofs.Ytaekkfgggmighaa.PDescribes
set_option linter.unusedVariables false

theorem rows_max {w : World} {A : Option Addr} {ls : List (List Int)} (h : KL.C w A ls.length ls) : ∀ r ∈ ls, r.length ≤ 9223372036854775807 := fun r hr => by
  obtain ⟨i, hi, rfl⟩ := List.getElem_of_mem hr
  obtain ⟨ad, A0, c0, _, _, _, hC⟩ := at_row h i hi
  have := C_max hC
  rwa [List.getD_eq_getElem?_getD, List.getElem?_eq_getElem hi] at this
theorem must_descr_B {S W L : Int} (g : Geo S W L) (p : Option Nat) (m : Nat) (f : FM) (A : Option Addr) (c n : Nat) (ls : List (List Int)) (w : World) (h : MB w W m f p) (hr : KL.C w A n ls) (B : Bool) (hB : B = true ↔ Desc S f ls) :
    Calls Try.prog 18 #[.agg #[.int .i64 S, .int .i64 W, .int .i64 L, .map p], .slice A n c] w fun e w' => e = .returned (.bool B) ∧ Ext w w' := by
  obtain rfl : ls.length = n := hr.1
  refine (must_descr g p m f A c ls w h hr).mono ?_
  rintro e w' ⟨r, ⟨rfl, hrr⟩, hb⟩
  refine ⟨?_, hb⟩
  congr 2
  rw [Bool.eq_iff_iff, hrr, hB]
theorem ref_descr_B {S : Int} (W L : Int) (hs : 1 ≤ S) {f : FM} (hf : Fit W f) {l : List S64} (hrep : BRep l f) (B : Option Addr) (d k : Nat) (hl : k < 100000) (A : Option Addr) (c n : Nat) (ls : List (List Int)) (w : World) (hC : k64.C w B k l) (hd : k ≤ d) (hr : KL.C w A n ls) (hc : n ≤ c) (hrow : ∀ r ∈ ls, r.length ≤ 9223372036854775807) (bo : Bool) (hB : bo = true ↔ Desc S f ls) :
    Calls Try.prog 33 #[.agg #[.int .i64 S, .int .i64 W, .int .i64 L], .slice B k d, .slice A n c] w fun e w' => e = .returned (.bool bo) ∧ Ext w w' := by
  obtain rfl : ls.length = n := hr.1
  obtain rfl : l.length = k := hC.1
  obtain ⟨k, hk⟩ := ref_desc W L hs hf hrep hl ls hrow
  obtain rfl : dsB S f ls = bo := by rw [Bool.eq_iff_iff, dsB_iff, hB]
  exact ontimeref30_Describes.calls k S W L B d l A c ls _ w hC hd hr hc hk

set_option maxHeartbeats 1000000 in
theorem descr_no (S W L : Int) (A : Option Addr) (c : Nat) (l : List S37) (B : Option Addr) (n d : Nat) (w : World) (hr : k37.C w A l.length l) (hc : l.length ≤ c) (hno : vldB S W L = false ∨ greatB l = true) :
    Calls Try.prog 6 #[.agg #[.int .i64 S, .int .i64 W, .int .i64 L], .slice A l.length c, .slice B n d] w fun e w' => e = .returned (.bool true) ∧ Ext w w' := by
  have HNO : Hid (vldB S W L = false ∨ greatB l = true ∨ greatB [] = true) := by
    show _ ∨ _ ∨ _
    rcases hno with h | h
    · exact .inl h
    · exact .inr (.inl h)
  clear hno
  go_enter Try.func6, Try.ntmps6
  go_wp2_with (first
    | (go_at_call 12; refine Calls.mono (states_no A c l none 0 [] _ (C_ext hr (by exact (by repeat (first | ((with_reducible refine Ext.set1 ?_ ?_); (first | (focus (simp; done)) | (focus (simp; omega)) | (focus omega))) | (with_reducible refine Ext.alloc ?_ _) | (with_reducible exact Ext.refl _) | (refine Ext.trans ?_ (by with_reducible assumption)))))) hc (Kd.C_nil _ _) (Nat.le_refl _) HNO.out) ?_; rintro e w2 ⟨S', W', L', rfl, hb2⟩)
    | (go_at_call 11; refine Calls.mono (awake_yes _) ?_; rintro e w1 ⟨rfl, hb1⟩; obtain ⟨a0, a1, a2⟩ := Blk.c3 (w := w1) (B := w.heap.size) (by repeat (first | (with_reducible assumption) | ((with_reducible refine Blk.new ?_); (first | (focus rfl) | (focus (simp; done)) | (focus omega))) | ((with_reducible refine Blk.set1 ?_ ?_); (focus omega)) | (with_reducible refine Blk.alloc ?_) | (refine Blk.ext ?_ (by with_reducible assumption))))))
  go_ret
  exact ⟨rfl, (by repeat (first | ((with_reducible refine Ext.set1 ?_ ?_); (first | (focus (simp; done)) | (focus (simp; omega)) | (focus omega))) | (with_reducible refine Ext.alloc ?_ _) | (with_reducible exact Ext.refl _) | (refine Ext.trans ?_ (by with_reducible assumption))))⟩
set_option maxHeartbeats 1000000 in
theorem descr_long {S W L : Int} (g : Geo S W L) (A : Option Addr) (c : Nat) (l : List S37) (B : Option Addr) (n d : Nat) (w : World) (hr : k37.C w A l.length l) (hc : l.length ≤ c) (hg : greatB l = false) (hn : n ≤ 9223372036854775807) (hx : 70 < n) :
    Calls Try.prog 6 #[.agg #[.int .i64 S, .int .i64 W, .int .i64 L], .slice A l.length c, .slice B n d] w fun e w' => e = .returned (.bool true) ∧ Ext w w' := by
  have HG := Lib.hid hg; clear hg
  go_enter Try.func6, Try.ntmps6
  go_wp2_with (first
    | (go_at_call 12; refine Calls.mono (states_yes g A c l none 0 [] _ (C_ext hr (by exact (by repeat (first | ((with_reducible refine Ext.set1 ?_ ?_); (first | (focus (simp; done)) | (focus (simp; omega)) | (focus omega))) | (with_reducible refine Ext.alloc ?_ _) | (with_reducible exact Ext.refl _) | (refine Ext.trans ?_ (by with_reducible assumption)))))) hc (Kd.C_nil _ _) (Nat.le_refl _) HG.out rfl) ?_; rintro e w2 ⟨p, q, rfl, hp, hq, hb2⟩)
    | (go_at_call 11; refine Calls.mono (awake_yes _) ?_; rintro e w1 ⟨rfl, hb1⟩; obtain ⟨a0, a1, a2⟩ := Blk.c3 (w := w1) (B := w.heap.size) (by repeat (first | (with_reducible assumption) | ((with_reducible refine Blk.new ?_); (first | (focus rfl) | (focus (simp; done)) | (focus omega))) | ((with_reducible refine Blk.set1 ?_ ?_); (focus omega)) | (with_reducible refine Blk.alloc ?_) | (refine Blk.ext ?_ (by with_reducible assumption))))))
  go_ret
  exact ⟨rfl, (by repeat (first | ((with_reducible refine Ext.set1 ?_ ?_); (first | (focus (simp; done)) | (focus (simp; omega)) | (focus omega))) | (with_reducible refine Ext.alloc ?_ _) | (with_reducible exact Ext.refl _) | (refine Ext.trans ?_ (by with_reducible assumption))))⟩

set_option maxRecDepth 10000 in
set_option maxHeartbeats 4000000 in
theorem descr_walk (S W L : Int) (A : Option Addr) (c : Nat) (l : List S37) (B : Option Addr) (d : Nat) (ls : List (List Int)) (w : World) (hr : k37.C w A l.length l) (hc : l.length ≤ c) (hp2 : ∀ x ∈ l, 0 ≤ x.f2 ∧ x.f2 ≤ 255) (hr2 : KL.C w B ls.length ls) (hc2 : ls.length ≤ d) (hw2 : ∀ l ∈ ls, ∀ x ∈ l, I64 x) :
    Calls Try.prog 6 #[.agg #[.int .i64 S, .int .i64 W, .int .i64 L], .slice A l.length c, .slice B ls.length d] w fun e w' => e = .returned (.bool true) ∧ Ext w w' := by
  clear hp2 hw2
  by_cases hno : vldB S W L = false ∨ greatB l = true
  · exact descr_no S W L A c l B _ d w hr hc hno
  have hv : vldB S W L = true := by
    cases h : vldB S W L with
    | false => exact absurd (.inl h) hno
    | true => rfl
  have hg : greatB l = false := by
    cases h : greatB l with
    | false => rfl
    | true => exact absurd (.inr h) hno
  clear hno
  have g := (vld_iff _ _ _).1 hv
  clear hv
  by_cases hx : 70 < ls.length
  · exact descr_long g A c l B _ d w hr hc hg (C_max hr2) hx
  have HRM := Lib.hid (rows_max hr2)
  have hl100 := (great_no hg).1
  have hsts := fun w h => states_yes g A c l none 0 [] w h hc (Kd.C_nil _ _) (Nat.le_refl _) hg rfl
  clear hg
  obtain ⟨n, hn⟩ : ∃ n, l.length = n := ⟨_, rfl⟩
  rw [hn] at hr hc hl100 hsts ⊢
  clear hn
  obtain ⟨m, hm⟩ : ∃ m, ls.length = m := ⟨_, rfl⟩
  rw [hm] at hr2 hc2 hx ⊢
  clear hm
  obtain ⟨f, hf⟩ : ∃ f, uDos S W l = f := ⟨_, rfl⟩
  rw [hf] at hsts
  clear hf
  have gw := g.w1
  have gs := g.s1
  obtain ⟨bo, hbo⟩ : ∃ bo : Bool, bo = true ↔ Desc S f ls := ⟨dsB S f ls, dsB_iff S f ls⟩
  have HBO := Lib.hid hbo
  clear hbo
  go_enter Try.func6, Try.ntmps6
  go_wp2_with (first
    | (go_at_call 28; refine Calls.mono (must_lines S W L p _ f _ (hp.ext (by repeat (first | ((with_reducible refine Ext.set1 ?_ ?_); (first | (focus (simp; done)) | (focus (simp; omega)) | (focus omega))) | (with_reducible refine Ext.alloc ?_ _) | (with_reducible exact Ext.refl _) | (refine Ext.trans ?_ (by with_reducible assumption))))).1 (by omega)) ?_; rintro e w5 ⟨v5, K, ⟨rfl, hdom, hkl⟩, hh, hb5⟩; obtain ⟨A5, c5, rfl, hc5, hmx5, hK⟩ := hh.C; have HDOM := Lib.hid hdom; clear hdom hh)
    | (go_at_call 12; refine Calls.mono (hsts _ (C_ext hr (by exact (by repeat (first | ((with_reducible refine Ext.set1 ?_ ?_); (first | (focus (simp; done)) | (focus (simp; omega)) | (focus omega))) | (with_reducible refine Ext.alloc ?_ _) | (with_reducible exact Ext.refl _) | (refine Ext.trans ?_ (by with_reducible assumption))))))) ?_; rintro e w2 ⟨p, q, rfl, hp, hq, hb2⟩; have q2 : w.heap.size < w2.heap.size := (by have := hb2.size; have := hb1.size; simp at this; omega))
    | (go_at_call 11; refine Calls.mono (awake_yes _) ?_; rintro e w1 ⟨rfl, hb1⟩; obtain ⟨a0, a1, a2⟩ := Blk.c3 (w := w1) (B := w.heap.size) (by repeat (first | (with_reducible assumption) | ((with_reducible refine Blk.new ?_); (first | (focus rfl) | (focus (simp; done)) | (focus omega))) | ((with_reducible refine Blk.set1 ?_ ?_); (focus omega)) | (with_reducible refine Blk.alloc ?_) | (refine Blk.ext ?_ (by with_reducible assumption))))))
  have k75 : Blk w5 w2.heap.size (mustO S W L p) := (by repeat (first | (with_reducible assumption) | ((with_reducible refine Blk.new ?_); (first | (focus rfl) | (focus (simp; done)) | (focus omega))) | (with_reducible apply Blk.put4) | (with_reducible apply Blk.put1) | ((with_reducible refine Blk.far4 ?_ ?_); (focus omega)) | ((with_reducible refine Blk.set1 ?_ ?_); (focus omega)) | (with_reducible refine Blk.alloc ?_) | (with_reducible refine Blk.drew ?_) | (refine Blk.ext ?_ (by with_reducible assumption))))
  have kc5 : Blk w5 w.heap.size (.cells #[.int .i64 S, .int .i64 W, .int .i64 L] 23) := (by repeat (first | (with_reducible assumption) | ((with_reducible refine Blk.new ?_); (first | (focus rfl) | (focus (simp; done)) | (focus omega))) | (with_reducible apply Blk.put4) | (with_reducible apply Blk.put1) | ((with_reducible refine Blk.far4 ?_ ?_); (focus omega)) | ((with_reducible refine Blk.set1 ?_ ?_); (focus omega)) | (with_reducible refine Blk.alloc ?_) | (with_reducible refine Blk.drew ?_) | (refine Blk.ext ?_ (by with_reducible assumption))))
  have hp5 : MB w5 W n f p := hp.ext (by exact (by repeat (first | ((with_reducible refine Ext.set1 ?_ ?_); (first | (focus (simp; done)) | (focus (simp; omega)) | (focus omega))) | (with_reducible refine Ext.alloc ?_ _) | (with_reducible exact Ext.refl _) | (refine Ext.trans ?_ (by with_reducible assumption)))))
  have hx5 : Ext w w5 := (by repeat (first | ((with_reducible refine Ext.set1 ?_ ?_); (first | (focus (simp; done)) | (focus (simp; omega)) | (focus omega))) | (with_reducible refine Ext.alloc ?_ _) | (with_reducible exact Ext.refl _) | (refine Ext.trans ?_ (by with_reducible assumption))))
  clear hb1 hb2 hb5 hp hq a0 a1 a2 hsts
  obtain ⟨kl, hkl'⟩ : ∃ kl, K.length = kl := ⟨_, rfl⟩
  rw [hkl'] at hc5 hK hkl ⊢
  have HKL := Lib.hid hkl'
  clear hkl'
  have HREP : Hid (BRep (boundsOf f K) f) := boundsOf_rep HDOM.out
  go_loopw [10, 34] (fun v i wz => ∃ (j : Nat) (A1 : Option Addr) (c1 : Nat), i = .int .i64 j ∧ j ≤ kl ∧ v = .slice A1 j c1 ∧ BndB wz w5.heap.size (.slice A1 j c1) (boundsOf f (K.take j)) ∧ Ext w5 wz) (fun _ i _ => kl - (Go.RowKit.intOf i).toNat)
  case atStart => exact ⟨0, none, 0, rfl, Nat.zero_le _, rfl, BndB.nil _ _, Ext.refl _⟩
  case round =>
    obtain ⟨j, A1, c1, rfl, hj, rfl, hbd, hek⟩ := hrel
    have y7 := k75.ext hek
    have yc := kc5.ext hek
    have yp := hp5.ext hek
    by_cases hkk : j < kl
    · obtain ⟨ad, rfl, hcell⟩ := at_num (C_ext hK hek) j hkk
      have hym : K.getD j 0 ∈ K := by rw [List.getD_eq_getElem?_getD, List.getElem?_eq_getElem (by rw [HKL.out]; exact hkk)]; exact List.getElem_mem _
      have hnext := boundsOf_next f (K := K) (j := j) (by rw [HKL.out]; exact hkk)
      have hlen : (boundsOf f (K.take j)).length = j := by rw [boundsOf_len, List.length_take, HKL.out]; omega
      obtain ⟨a, hfy⟩ := Option.isSome_iff_exists.1 ((HDOM.out.2 _).1 hym)
      obtain ⟨y, hy⟩ : ∃ y, K.getD j 0 = y := ⟨_, rfl⟩
      rw [hy] at hcell hfy hnext
      rw [hfy] at hnext
      have hnext' : boundsOf f (K.take (j + 1)) = boundsOf f (K.take j) ++ [⟨y, a⟩] := hnext
      have HNX := Lib.hid hnext'
      have HLN := Lib.hid hlen
      have HFY := Lib.hid hfy
      have hyI := (hp5.1.dom hfy).1
      clear hy hym hnext hnext' hlen hfy
      obtain ⟨t0, t1, t2, t3⟩ := y7.c4
      go_wp2_with (first
        | (at_builtin; refine wp_append_b (w0 := w5) rfl _ _ rfl (.slice A1 j c1) (boundsOf f (K.take j)) y a w6.heap.size j HLN.out rfl rfl (Blk.new rfl) ((hbd.ext hb6).ext ((Ext.refl _).alloc _)) ((hek.trans hb6).alloc _) (by omega) ?_; intro A7 c7 w7 hM7 hb7)
        | (go_at_call 25; refine Calls.mono (age_mb y p n f _ yp hyI a true (by rw [HFY.out]; rfl) (by rw [HFY.out]; rfl)) ?_; rintro e w6 ⟨rfl, hb6⟩))
      refine ⟨⟨j + 1, A7, c7, by go_num, by omega, by go_num, ?_, hb7⟩, ?_⟩
      · rw [HNX.out]
        exact hM7
      · simp [Go.RowKit.intOf]
        omega
    · obtain rfl : j = kl := by omega
      have etk : K.take j = K := List.take_of_length_le (by have := HKL.out; omega)
      rw [etk] at hbd
      clear etk
      have hlb : (boundsOf f K).length = j := by rw [boundsOf_len, HKL.out]
      have hj5 : j < 100000 := by omega
      have hcx : j ≤ c1 ∧ k64.C wr A1 j (boundsOf f K) := by
        have := (Kd.R_reads' hbd).2
        rwa [hlb] at this
      obtain ⟨hcx1, hcx2⟩ := hcx
      have hr5 := C_ext hr2 (hx5.trans hek)
      clear hbd hlb
      go_wp2
      refine wp_region_m (by kernel_rfl) ?_
      repeat (
        refine wpQuiet_step (fun K hK => ?_)
        go_simp
        first
          | (refine hK _ ?_; clear hK K)
          | (refine ⟨_, fun w' hw' => rfl, hK _ ?_⟩; clear hK K)
          | (apply Exists.intro
             refine ⟨fun w' hw' => ?_, hK _ ?_⟩
             (first
               | (go_at_call 18; refine Calls.mono (must_descr_B g p n f B d m ls w' (yp.ext hw') (C_ext hr5 hw') bo HBO.out) ?_; rintro e w'' ⟨rfl, hx⟩; exact ⟨rfl, hw'.trans hx⟩)
               | (go_at_call 33; refine Calls.mono (ref_descr_B W L gs yp.2 HREP.out A1 c1 j hj5 B d m ls w' (C_ext hcx2 hw') hcx1 (C_ext hr5 hw') hc2 HRM.out bo HBO.out) ?_; rintro e w'' ⟨rfl, hx⟩; exact ⟨rfl, hw'.trans hx⟩)
               | (obtain ⟨q0, q1, q2⟩ := (yc.ext hw').c3; obtain ⟨s0, s1, s2, s3⟩ := (y7.ext hw').c4; go_simp; rfl))
             clear hK K))
      refine wpQuiet_nil ?_
      intro w7 hb7
      go_wp2
      go_ret
      exact ⟨by simp, hx5.trans (hek.trans hb7)⟩
end Go.Proofs.Ytaekkfgggmighaa
