/- The walk of ontimelaw32.PersistFlushes. -/
import Derived.Test.YtdbgnniedcibeaaFl0
import Derived.Test.YtdbgnniedcibeaaAcc1
import Derived.Test.YtdbgnniedcibeaaCacheF
namespace Go.Proofs.Ytdbgnniedcibeaa
open Go.RowKit Go.Maps Go.Proofs.YtdbgnniedcibeaaW.PrintWords Go.Proofs.Ytdbgnniedcibeaa.Pusable
set_option linter.unusedVariables false

theorem mul_fits {n L : Int} (hn : 0 ≤ n) (hn2 : n ≤ 70000) (hL : 1 ≤ L) (hL2 : L ≤ 16) : 0 ≤ n * L ∧ n * L ≤ 2000000 ∧ n * L / L = n := by
  have h1 : n * L ≤ 70000 * 16 := Int.mul_le_mul hn2 hL2 (by omega) (by omega)
  exact ⟨Int.mul_nonneg hn (by omega), by omega, Int.mul_ediv_cancel n (by omega)⟩
theorem FunB.flushed {w w' : World} {base b q : Nat} {S W L : Int} {F : Nat → Prop} {rows : List (List Int)} {f : Value} {b3 bm : Nat} {s : SB} (h : FunB w base f b3 bm s) (c : CaB w b q S W L F rows) (fr : Fr (fun k => k = q) w w') : FunB w' base f b3 bm s := by
  obtain ⟨h1, h2, ⟨n, h3⟩, h4, h5⟩ := h
  obtain ⟨es, clock, ho⟩ := h3.obj
  obtain ⟨gb, vs, c⟩ := c
  have hq := c.kq
  refine ⟨h1, h2.fr fr (fun e => ?_), ⟨n, h3.same (fr.block bm h3.lt fun e => ?_)⟩, h4, h5⟩
  · subst e
    have := Blk.agree h2 hq
    injection this with _ e _
    exact absurd e (by decide)
  · subst e
    unfold Blk at hq
    rw [ho] at hq
    cases hq
theorem RowB.flushed {w w' : World} {base b q : Nat} {S W L : Int} {F : Nat → Prop} {rows : List (List Int)} {v : Value} {r : List Int} (h : RowB w base v r) (c : CaB w b q S W L F rows) (fr : Fr (fun k => k = q) w w') : RowB w' base v r := by
  obtain ⟨gb, vs, c⟩ := c
  refine h.fr fr fun k hk e => ?_
  subst e
  obtain ⟨cs, hB⟩ := h.kind k hk
  have := Blk.agree c.kq hB
  injection this with _ e _
  exact absurd e (by decide)

theorem lines_len {l : List S44} {L : List Int} (h : IsLines l L) : L.length ≤ 65536 := by
  have := len_sub (l := L) (k := (List.range 65536).map (fun n : Nat => (n : Int))) (h.1.imp (fun h => by omega)) (fun x hx => by
    have := h.lo hx
    rw [List.mem_map]
    exact ⟨x.toNat, by rw [List.mem_range]; omega, by omega⟩)
  simpa using this

set_option maxHeartbeats 1000000 in
theorem flushes_no (S W Ln : Int) (A : Option Addr) (c : Nat) (l : List S44) (B : Option Addr) (d : Nat) (ch : List Int) (ev : Int) (w : World) (hr : k44.C w A l.length l) (hc : l.length ≤ c) (hr2 : KU.C w B ch.length ch) (hc2 : ch.length ≤ d) (hno : usB S W Ln l ch.length = false) :
    Calls Try.prog 8 #[.agg #[.int .i64 S, .int .i64 W, .int .i64 Ln], .slice A l.length c, .slice B ch.length d, .int .u8 ev] w fun e w' => e = .returned (.bool true) ∧ Ext w w' := by
  have HNO := Lib.hid hno
  clear hno
  go_enter Try.func8, Try.ntmps8
  go_wp2_with (first
    | (go_at_call 22; refine Calls.mono (usable_any S W Ln A c l B d ch _ (C_ext hr (by repeat (first | ((with_reducible refine Ext.set1 ?_ ?_); (first | (focus (simp; done)) | (focus (simp; omega)) | (focus omega))) | (with_reducible refine Ext.alloc ?_ _) | (with_reducible exact Ext.refl _) | (refine Ext.trans ?_ (by with_reducible assumption))))) hc (C_ext hr2 (by repeat (first | ((with_reducible refine Ext.set1 ?_ ?_); (first | (focus (simp; done)) | (focus (simp; omega)) | (focus omega))) | (with_reducible refine Ext.alloc ?_ _) | (with_reducible exact Ext.refl _) | (refine Ext.trans ?_ (by with_reducible assumption))))) hc2) ?_; rintro e w2 ⟨rfl, hb2⟩; rw [HNO.out])
    | (go_at_call 11; refine Calls.mono (awake_yes _) ?_; rintro e w1 ⟨rfl, hb1⟩; obtain ⟨a0, a1, a2⟩ := Blk.c3 (w := w1) (B := w.heap.size) (by repeat (first | (with_reducible assumption) | ((with_reducible refine Blk.new ?_); (first | (focus rfl) | (focus (simp; done)) | (focus omega))) | ((with_reducible refine Blk.set1 ?_ ?_); (focus omega)) | (with_reducible refine Blk.alloc ?_) | (refine Blk.ext ?_ (by with_reducible assumption))))))
  go_ret
  exact ⟨rfl, (by repeat (first | ((with_reducible refine Ext.set1 ?_ ?_); (first | (focus (simp; done)) | (focus (simp; omega)) | (focus omega))) | (with_reducible refine Ext.alloc ?_ _) | (with_reducible exact Ext.refl _) | (refine Ext.trans ?_ (by with_reducible assumption))))⟩

set_option maxHeartbeats 4000000 in
theorem flushes_walk (S W Ln : Int) (A : Option Addr) (c : Nat) (l : List S44) (B : Option Addr) (d : Nat) (ch : List Int) (ev : Int) (w : World) (hr : k44.C w A l.length l) (hc : l.length ≤ c) (hr2 : KU.C w B ch.length ch) (hc2 : ch.length ≤ d) (hp : ∀ x ∈ ch, 0 ≤ x ∧ x ≤ 65535) (hev : 0 ≤ ev ∧ ev ≤ 255) :
    Calls Try.prog 8 #[.agg #[.int .i64 S, .int .i64 W, .int .i64 Ln], .slice A l.length c, .slice B ch.length d, .int .u8 ev] w fun e w' => e = .returned (.bool true) ∧ Ext w w' := by
  cases hus : usB S W Ln l ch.length with
  | false => exact flushes_no S W Ln A c l B d ch ev w hr hc hr2 hc2 hus
  | true =>
    have us := us_is hus
    have HUS := Lib.hid hus
    clear hus
    have g := us.geo
    have hlen : l.length ≤ 12 := us.len
    have hfew : ch.length ≤ 200 := us.few
    obtain ⟨L, hL⟩ := exists_lines l
    have hs1 := g.s1
    have hs64 := g.s64
    have hw1 := g.w1
    have hl1 := g.l1
    have hl16 := g.l16
    obtain ⟨m, rfl⟩ : ∃ m : Nat, S = m := ⟨S.toNat, by omega⟩
    have hm0 : 0 < m := by omega
    have HL := Lib.hid hL
    have HP := Lib.hid hp
    clear hL hp
    have HPL : Hid (∀ x ∈ pers W m L, 0 ≤ x ∧ x ≤ 65535) := fun x hx => HL.out.lo (List.mem_filter.1 hx).1
    have HPB : Hid ((pers W m L).length ≤ 310000) := by show (pers W m L).length ≤ 310000; have := lines_len HL.out; have := pers_le (W := W) m L; omega
    have hmis := fun (w' : World) (hw' : Ext w w') => misses_at g A c l L HL.out w' (C_ext hr hw') (by omega) us.hi
    rw [Int.toNat_natCast] at hmis
    obtain ⟨P, hP⟩ : ∃ P, pers W m L = P := ⟨_, rfl⟩
    rw [hP] at HPL HPB hmis
    have HPE := Lib.hid hP
    clear hP
    obtain ⟨ev0, ev1⟩ := hev
    go_enter Try.func8, Try.ntmps8
    go_wp2_with (first
      | (go_at_call 26; refine Calls.mono (accesses_at A c l B d ch _ (C_ext hr (by repeat (first | ((with_reducible refine Ext.set1 ?_ ?_); (first | (focus (simp; done)) | (focus (simp; omega)) | (focus omega))) | (with_reducible refine Ext.alloc ?_ _) | (with_reducible exact Ext.refl _) | (refine Ext.trans ?_ (by with_reducible assumption))))) hlen us.hi (C_ext hr2 (by repeat (first | ((with_reducible refine Ext.set1 ?_ ?_); (first | (focus (simp; done)) | (focus (simp; omega)) | (focus omega))) | (with_reducible refine Ext.alloc ?_ _) | (with_reducible exact Ext.refl _) | (refine Ext.trans ?_ (by with_reducible assumption))))) hfew HP.out) ?_; rintro e w7 ⟨A7, c7, R, rfl, hR7, hRl, hRm, hb7⟩)
      | (go_at_call 23; refine Calls.mono (contains_at A5 c5 P.length P _ hC5 HPB.out HPL.out) ?_; rintro e w6 ⟨b3, bm, rfl, hf6, hb6⟩)
      | (go_at_call 15; refine Calls.mono (persistent_at g A c l L HL.out _ (C_ext hr (by repeat (first | ((with_reducible refine Ext.set1 ?_ ?_); (first | (focus (simp; done)) | (focus (simp; omega)) | (focus omega))) | (with_reducible refine Ext.alloc ?_ _) | (with_reducible exact Ext.refl _) | (refine Ext.trans ?_ (by with_reducible assumption))))) (by omega) us.hi) ?_; rw [Int.toNat_natCast, HPE.out]; rintro e w5 ⟨A5, c5, rfl, hM5, hb5⟩; obtain ⟨A9, c9, e9, _, hC5⟩ := hM5.C; cases e9)
      | (go_at_call 25; refine Calls.mono (cache_new g _) ?_; rintro e w4 ⟨q, F0, rfl, hca, hb4⟩; obtain ⟨j0, j1, j2⟩ := Blk.c3 (w := w4) (B := w.heap.size) (by repeat (first | (with_reducible assumption) | ((with_reducible refine Blk.new ?_); (first | (focus rfl) | (focus (simp; done)) | (focus omega))) | ((with_reducible refine Blk.set1 ?_ ?_); (focus omega)) | (with_reducible refine Blk.alloc ?_) | (refine Blk.ext ?_ (by with_reducible assumption)))))
      | (go_at_call 22; refine Calls.mono (usable_any (m : Int) W Ln A c l B d ch _ (C_ext hr (by repeat (first | ((with_reducible refine Ext.set1 ?_ ?_); (first | (focus (simp; done)) | (focus (simp; omega)) | (focus omega))) | (with_reducible refine Ext.alloc ?_ _) | (with_reducible exact Ext.refl _) | (refine Ext.trans ?_ (by with_reducible assumption))))) hc (C_ext hr2 (by repeat (first | ((with_reducible refine Ext.set1 ?_ ?_); (first | (focus (simp; done)) | (focus (simp; omega)) | (focus omega))) | (with_reducible refine Ext.alloc ?_ _) | (with_reducible exact Ext.refl _) | (refine Ext.trans ?_ (by with_reducible assumption))))) hc2) ?_; rintro e w2 ⟨rfl, hb2⟩; rw [HUS.out]; obtain ⟨d0, d1, d2⟩ := Blk.c3 (w := w2) (B := w.heap.size) (by repeat (first | (with_reducible assumption) | ((with_reducible refine Blk.new ?_); (first | (focus rfl) | (focus (simp; done)) | (focus omega))) | ((with_reducible refine Blk.set1 ?_ ?_); (focus omega)) | (with_reducible refine Blk.alloc ?_) | (refine Blk.ext ?_ (by with_reducible assumption)))))
      | (go_at_call 11; refine Calls.mono (awake_yes _) ?_; rintro e w1 ⟨rfl, hb1⟩; obtain ⟨a0, a1, a2⟩ := Blk.c3 (w := w1) (B := w.heap.size) (by repeat (first | (with_reducible assumption) | ((with_reducible refine Blk.new ?_); (first | (focus rfl) | (focus (simp; done)) | (focus omega))) | ((with_reducible refine Blk.set1 ?_ ?_); (focus omega)) | (with_reducible refine Blk.alloc ?_) | (refine Blk.ext ?_ (by with_reducible assumption))))))
    have kc : Blk w4 w.heap.size (.cells #[.int .i64 (m : Int), .int .i64 W, .int .i64 Ln] 23) := (by repeat (first | (with_reducible assumption) | ((with_reducible refine Blk.new ?_); (first | (focus rfl) | (focus (simp; done)) | (focus omega))) | ((with_reducible refine Blk.set1 ?_ ?_); (focus omega)) | (with_reducible refine Blk.alloc ?_) | (refine Blk.ext ?_ (by with_reducible assumption))))
    have hx4 : Ext w w4 := (by repeat (first | ((with_reducible refine Ext.set1 ?_ ?_); (first | (focus (simp; done)) | (focus (simp; omega)) | (focus omega))) | (with_reducible refine Ext.alloc ?_ _) | (with_reducible exact Ext.refl _) | (refine Ext.trans ?_ (by with_reducible assumption))))
    have hx7 : Ext w4 w7 := hb5.trans (hb6.trans hb7)
    have kc7 := kc.ext hx7
    have zca : CaB w7 w.heap.size q (m : Int) W Ln F0 (List.replicate (m : Int).toNat []) := (hca.ext hx7).lower (by have := hb2.size; have := hb1.size; simp at this; omega)
    have zf := hf6.ext hb7
    have hdj0 : ∀ k, (Value.slice A7 R.length c7).ownBlock = some k → ¬ F0 k := fun k hk hF => by
      have h1 := (hR7.lt k hk).1
      have h2 := hca.lt k hF
      have := hb5.size
      have := hb6.size
      omega
    have hxx7 := hx4.trans hx7
    have HRL : Hid (∀ x ∈ R, x ∈ L) := fun x hx => (HL.out.2 x).2 (hRm x hx)
    have hRl' : R.length ≤ 200 := by omega
    have HD0 : Hid (Rows (m : Int) W (List.replicate (m : Int).toNat []) ∧ InL L (List.replicate (m : Int).toNat []) ∧ 0 ≤ 0 * P.length + pc (perB W m L) m (List.replicate (m : Int).toNat [])) := ⟨rows_empty hs1 hw1, inl_empty L _, Nat.zero_le _⟩
    clear hca hb1 hb2 hb4 hb5 hb6 hb7 hx7 hx4 kc hf6 hM5 hC5 hRm hRl a0 a1 a2 d0 d1 d2 j0 j1 j2
    obtain ⟨n, hn⟩ : ∃ n, R.length = n := ⟨_, rfl⟩
    rw [hn] at hR7 hdj0 hRl' ⊢
    have HN := Lib.hid hn
    clear hn
    obtain ⟨N, hN⟩ : ∃ N, P.length = N := ⟨_, rfl⟩
    rw [hN] at HD0 hmis HPB
    have HNP := Lib.hid hN
    clear hN
    go_loopw [12, 13, 38] (fun mv fv i wr => ∃ (j : Nat) (F : Nat → Prop) (rows : List (List Int)) (mi fl : Nat), i = .int .i64 j ∧ mv = .int .i64 mi ∧ fv = .int .i64 fl ∧ j ≤ n ∧ mi ≤ j ∧ fl ≤ j ∧ (CaB wr w.heap.size q (m : Int) W Ln F rows ∧ FunB wr w5.heap.size (.func (.func 34) #[] #[.pointer (some ⟨b3, 0, none⟩)]) b3 bm (fun x => decide (x ∈ P)) ∧ RowB wr w6.heap.size (.slice A7 n c7) R ∧ (∀ k, (Value.slice A7 n c7).ownBlock = some k → ¬ F k) ∧ Blk wr w.heap.size (.cells #[.int .i64 (m : Int), .int .i64 W, .int .i64 Ln] 23) ∧ Ext w wr) ∧
        Hid (Rows (m : Int) W rows ∧ InL L rows ∧ mi ≤ fl * N + pc (perB W m L) m rows)) (fun _ _ i _ => n - (Go.RowKit.intOf i).toNat)
    case atStart => exact ⟨0, F0, _, 0, 0, rfl, rfl, rfl, Nat.zero_le _, Nat.le_refl _, Nat.le_refl _, ⟨zca, zf, hR7, hdj0, kc7, hxx7⟩, HD0⟩
    case round =>
      clear zca zf hR7 hdj0 kc7 hxx7 HD0
      obtain ⟨j, F, rows, mi, fl, rfl, rfl, rfl, hj, hmj, hfj, ⟨ca0, fb0, rb0, dj0, kk0, xx0⟩, HD⟩ := hrel
      have hbw := xx0.size
      by_cases hlt : j < n
      · obtain ⟨A9, c9, e9, _, hC⟩ := rb0.C
        rw [HN.out] at e9 hC
        cases e9
        obtain ⟨ad, rfl, hcell⟩ := at_num hC j hlt
        have hjl : j < R.length := by rw [HN.out]; exact hlt
        have hxm : R.getD j 0 ∈ R := by
          rw [List.getD_eq_getElem?_getD, List.getElem?_eq_getElem hjl]
          exact List.getElem_mem _
        have hxL := HRL.out _ hxm
        clear hxm hjl hC
        obtain ⟨x, hx⟩ : ∃ x, R.getD j 0 = x := ⟨_, rfl⟩
        rw [hx] at hcell hxL
        clear hx
        have HXL := Lib.hid hxL
        obtain ⟨hx0, hx1⟩ := HL.out.lo hxL
        clear hxL
        obtain ⟨hX1, hX2, hX3⟩ := mul_fits (n := x) hx0 (by omega) hl1 hl16
        obtain ⟨X, hX⟩ : ∃ X, x * Ln = X := ⟨_, rfl⟩
        rw [hX] at hX1 hX2 hX3
        have HPX : Hid (x ∈ P ↔ perB W m L x = true) := by
          show x ∈ P ↔ _
          rw [← HPE.out]
          unfold pers
          rw [List.mem_filter]
          exact ⟨fun h => h.2, fun h => ⟨HXL.out, h⟩⟩
        obtain ⟨s0, s1, s2⟩ := kk0.c3
        by_cases hfl : 0 < j ∧ (j : Int) % (1 + ev) = 0
        · obtain ⟨hfl1, hfl2⟩ := hfl
          go_wp2_with (go_at_call 28; refine Calls.mono (cache_flush g ca0) ?_; rintro e w6' ⟨rfl, g6, hc6, hg6, hf6⟩; have kk := kk0.fr hf6 (show ¬ w.heap.size = q by have h1 := ca0.qlt; intro e; obtain ⟨gb, vs, c0⟩ := ca0; have h2 := c0.kq; rw [← e] at h2; have := Blk.agree h2 kk0; injection this with _ e _; exact absurd e (by decide)); obtain ⟨r0, r1, r2⟩ := kk.c3)
          have hz6 := hf6.size
          have ca := hc6
          have fb := fb0.flushed ca0 hf6
          have rb := rb0.flushed ca0 hf6
          have dj : ∀ k, (Value.slice (some ad) n c7).ownBlock = some k → ¬ k = g6 := fun k hk e => by have := (rb0.lt k hk).2; omega
          have xx : Ext w w6' := xx0.fr hf6 (fun k e => by have := ca0.qlt.1; omega)
          obtain ⟨rowsc, hrc⟩ : ∃ r, r = List.replicate (m : Int).toNat ([] : List Int) := ⟨_, rfl⟩
          have HDc : Hid (Rows (m : Int) W rowsc ∧ InL L rowsc ∧ mi ≤ (fl + 1) * N + pc (perB W m L) m rowsc) := by
            rw [hrc]
            refine ⟨rows_empty hs1 hw1, inl_empty L _, ?_⟩
            have h1 := HD.out.2.2
            have h2 := pc_le hm0 HD.out.1 HD.out.2.1
            rw [HPE.out, HNP.out] at h2
            rw [Nat.succ_mul]
            omega
          rw [← hrc] at ca
          have hbwc := xx.size
          have HPA := Lib.hid (pc_acc hm0 hw1 HDc.out.1 HDc.out.2.1 HXL.out hx0)
          clear ca0 fb0 rb0 dj0 kk0 xx0 hc6 hf6 hrc HD s0 s1 s2
          by_cases hin : x ∈ rowsc.getD (x % (m : Int)).toNat []
          · go_wp2_with (go_at_call 27; refine Calls.mono (cache_access (base := w.heap.size) g ca HDc.out.1 X hX1 hX2 hbwc) ?_; rw [hX3, decide_eq_true hin]; rintro e w8 ⟨rfl, F8, hc8, hF8, hf8⟩)
            refine ⟨⟨j + 1, F8, _, mi, fl + 1, by go_num, by go_num, by go_num, by omega, by omega, by omega, ⟨hc8, (fb.keep ca hf8), (rb.fr hf8 dj), fun k hk hF => ?_, (ca.keep hf8 kk (by decide) (by decide)), (xx.fr hf8 ca.fromB)⟩, HDc.out.1.acc hs1 hw1 hx0, HDc.out.2.1.acc hw1 HXL.out, by have h1 := HDc.out.2.2; have h2 := HPA.out.2; omega⟩, ?_⟩
            · rcases hF8 k hF with h | h
              · exact dj k hk h
              · have := (rb.lt k hk).2; omega
            · simp [Go.RowKit.intOf]
              omega
          · by_cases hxP : x ∈ P
            · go_wp2_with (first
                | (go_at_call 34; refine Calls.mono (fun_at (fb.keep ca hf8) x hx0 (by omega) true (by simpa using hxP)) ?_; rintro e w9 ⟨rfl, hb9⟩)
                | (go_at_call 27; refine Calls.mono (cache_access (base := w.heap.size) g ca HDc.out.1 X hX1 hX2 hbwc) ?_; rw [hX3, decide_eq_false hin]; rintro e w8 ⟨rfl, F8, hc8, hF8, hf8⟩))
              refine ⟨⟨j + 1, F8, _, mi + 1, fl + 1, by go_num, by go_num, by go_num, by omega, by omega, by omega, ⟨hc8.ext hb9, (fb.keep ca hf8).ext hb9, (rb.fr hf8 dj).ext hb9, fun k hk hF => ?_, (ca.keep hf8 kk (by decide) (by decide)).ext hb9, (xx.fr hf8 ca.fromB).trans hb9⟩, HDc.out.1.acc hs1 hw1 hx0, HDc.out.2.1.acc hw1 HXL.out, by have h1 := HDc.out.2.2; have h2 := HPA.out.1 hin (HPX.out.1 hxP); omega⟩, ?_⟩
              · rcases hF8 k hF with h | h
                · exact dj k hk h
                · have := (rb.lt k hk).2; omega
              · simp [Go.RowKit.intOf]
                omega
            · go_wp2_with (first
                | (go_at_call 34; refine Calls.mono (fun_at (fb.keep ca hf8) x hx0 (by omega) false (by simpa using hxP)) ?_; rintro e w9 ⟨rfl, hb9⟩)
                | (go_at_call 27; refine Calls.mono (cache_access (base := w.heap.size) g ca HDc.out.1 X hX1 hX2 hbwc) ?_; rw [hX3, decide_eq_false hin]; rintro e w8 ⟨rfl, F8, hc8, hF8, hf8⟩))
              refine ⟨⟨j + 1, F8, _, mi, fl + 1, by go_num, by go_num, by go_num, by omega, by omega, by omega, ⟨hc8.ext hb9, (fb.keep ca hf8).ext hb9, (rb.fr hf8 dj).ext hb9, fun k hk hF => ?_, (ca.keep hf8 kk (by decide) (by decide)).ext hb9, (xx.fr hf8 ca.fromB).trans hb9⟩, HDc.out.1.acc hs1 hw1 hx0, HDc.out.2.1.acc hw1 HXL.out, by have h1 := HDc.out.2.2; have h2 := HPA.out.2; omega⟩, ?_⟩
              · rcases hF8 k hF with h | h
                · exact dj k hk h
                · have := (rb.lt k hk).2; omega
              · simp [Go.RowKit.intOf]
                omega
        · have hfl' : ∀ h : 0 < j, ¬ (j : Int) % (1 + ev) = 0 := fun h e => hfl ⟨h, e⟩
          have ca := ca0
          have fb := fb0
          have rb := rb0
          have dj := dj0
          have kk := kk0
          have xx := xx0
          obtain ⟨rowsc, hrc⟩ : ∃ r, r = rows := ⟨_, rfl⟩
          rw [← hrc] at ca HD
          have HDc := HD
          have hbwc := hbw
          have HPA := Lib.hid (pc_acc hm0 hw1 HDc.out.1 HDc.out.2.1 HXL.out hx0)
          clear ca0 fb0 rb0 dj0 kk0 xx0 hrc HD hfl
          by_cases hj0 : 0 < j
          · have hmod := hfl' hj0
            clear hfl'
            by_cases hin : x ∈ rowsc.getD (x % (m : Int)).toNat []
            · go_wp2_with (go_at_call 27; refine Calls.mono (cache_access (base := w.heap.size) g ca HDc.out.1 X hX1 hX2 hbwc) ?_; rw [hX3, decide_eq_true hin]; rintro e w8 ⟨rfl, F8, hc8, hF8, hf8⟩)
              refine ⟨⟨j + 1, F8, _, mi, fl, by go_num, by go_num, by go_num, by omega, by omega, by omega, ⟨hc8, (fb.keep ca hf8), (rb.fr hf8 dj), fun k hk hF => ?_, (ca.keep hf8 kk (by decide) (by decide)), (xx.fr hf8 ca.fromB)⟩, HDc.out.1.acc hs1 hw1 hx0, HDc.out.2.1.acc hw1 HXL.out, by have h1 := HDc.out.2.2; have h2 := HPA.out.2; omega⟩, ?_⟩
              · rcases hF8 k hF with h | h
                · exact dj k hk h
                · have := (rb.lt k hk).2; omega
              · simp [Go.RowKit.intOf]
                omega
            · by_cases hxP : x ∈ P
              · go_wp2_with (first
                  | (go_at_call 34; refine Calls.mono (fun_at (fb.keep ca hf8) x hx0 (by omega) true (by simpa using hxP)) ?_; rintro e w9 ⟨rfl, hb9⟩)
                  | (go_at_call 27; refine Calls.mono (cache_access (base := w.heap.size) g ca HDc.out.1 X hX1 hX2 hbwc) ?_; rw [hX3, decide_eq_false hin]; rintro e w8 ⟨rfl, F8, hc8, hF8, hf8⟩))
                refine ⟨⟨j + 1, F8, _, mi + 1, fl, by go_num, by go_num, by go_num, by omega, by omega, by omega, ⟨hc8.ext hb9, (fb.keep ca hf8).ext hb9, (rb.fr hf8 dj).ext hb9, fun k hk hF => ?_, (ca.keep hf8 kk (by decide) (by decide)).ext hb9, (xx.fr hf8 ca.fromB).trans hb9⟩, HDc.out.1.acc hs1 hw1 hx0, HDc.out.2.1.acc hw1 HXL.out, by have h1 := HDc.out.2.2; have h2 := HPA.out.1 hin (HPX.out.1 hxP); omega⟩, ?_⟩
                · rcases hF8 k hF with h | h
                  · exact dj k hk h
                  · have := (rb.lt k hk).2; omega
                · simp [Go.RowKit.intOf]
                  omega
              · go_wp2_with (first
                  | (go_at_call 34; refine Calls.mono (fun_at (fb.keep ca hf8) x hx0 (by omega) false (by simpa using hxP)) ?_; rintro e w9 ⟨rfl, hb9⟩)
                  | (go_at_call 27; refine Calls.mono (cache_access (base := w.heap.size) g ca HDc.out.1 X hX1 hX2 hbwc) ?_; rw [hX3, decide_eq_false hin]; rintro e w8 ⟨rfl, F8, hc8, hF8, hf8⟩))
                refine ⟨⟨j + 1, F8, _, mi, fl, by go_num, by go_num, by go_num, by omega, by omega, by omega, ⟨hc8.ext hb9, (fb.keep ca hf8).ext hb9, (rb.fr hf8 dj).ext hb9, fun k hk hF => ?_, (ca.keep hf8 kk (by decide) (by decide)).ext hb9, (xx.fr hf8 ca.fromB).trans hb9⟩, HDc.out.1.acc hs1 hw1 hx0, HDc.out.2.1.acc hw1 HXL.out, by have h1 := HDc.out.2.2; have h2 := HPA.out.2; omega⟩, ?_⟩
                · rcases hF8 k hF with h | h
                  · exact dj k hk h
                  · have := (rb.lt k hk).2; omega
                · simp [Go.RowKit.intOf]
                  omega
          · have hj0' : ¬ (0 : Int) < (j : Int) := by omega
            clear hfl'
            by_cases hin : x ∈ rowsc.getD (x % (m : Int)).toNat []
            · go_wp2_with (go_at_call 27; refine Calls.mono (cache_access (base := w.heap.size) g ca HDc.out.1 X hX1 hX2 hbwc) ?_; rw [hX3, decide_eq_true hin]; rintro e w8 ⟨rfl, F8, hc8, hF8, hf8⟩)
              refine ⟨⟨j + 1, F8, _, mi, fl, by go_num, by go_num, by go_num, by omega, by omega, by omega, ⟨hc8, (fb.keep ca hf8), (rb.fr hf8 dj), fun k hk hF => ?_, (ca.keep hf8 kk (by decide) (by decide)), (xx.fr hf8 ca.fromB)⟩, HDc.out.1.acc hs1 hw1 hx0, HDc.out.2.1.acc hw1 HXL.out, by have h1 := HDc.out.2.2; have h2 := HPA.out.2; omega⟩, ?_⟩
              · rcases hF8 k hF with h | h
                · exact dj k hk h
                · have := (rb.lt k hk).2; omega
              · simp [Go.RowKit.intOf]
                omega
            · by_cases hxP : x ∈ P
              · go_wp2_with (first
                  | (go_at_call 34; refine Calls.mono (fun_at (fb.keep ca hf8) x hx0 (by omega) true (by simpa using hxP)) ?_; rintro e w9 ⟨rfl, hb9⟩)
                  | (go_at_call 27; refine Calls.mono (cache_access (base := w.heap.size) g ca HDc.out.1 X hX1 hX2 hbwc) ?_; rw [hX3, decide_eq_false hin]; rintro e w8 ⟨rfl, F8, hc8, hF8, hf8⟩))
                refine ⟨⟨j + 1, F8, _, mi + 1, fl, by go_num, by go_num, by go_num, by omega, by omega, by omega, ⟨hc8.ext hb9, (fb.keep ca hf8).ext hb9, (rb.fr hf8 dj).ext hb9, fun k hk hF => ?_, (ca.keep hf8 kk (by decide) (by decide)).ext hb9, (xx.fr hf8 ca.fromB).trans hb9⟩, HDc.out.1.acc hs1 hw1 hx0, HDc.out.2.1.acc hw1 HXL.out, by have h1 := HDc.out.2.2; have h2 := HPA.out.1 hin (HPX.out.1 hxP); omega⟩, ?_⟩
                · rcases hF8 k hF with h | h
                  · exact dj k hk h
                  · have := (rb.lt k hk).2; omega
                · simp [Go.RowKit.intOf]
                  omega
              · go_wp2_with (first
                  | (go_at_call 34; refine Calls.mono (fun_at (fb.keep ca hf8) x hx0 (by omega) false (by simpa using hxP)) ?_; rintro e w9 ⟨rfl, hb9⟩)
                  | (go_at_call 27; refine Calls.mono (cache_access (base := w.heap.size) g ca HDc.out.1 X hX1 hX2 hbwc) ?_; rw [hX3, decide_eq_false hin]; rintro e w8 ⟨rfl, F8, hc8, hF8, hf8⟩))
                refine ⟨⟨j + 1, F8, _, mi, fl, by go_num, by go_num, by go_num, by omega, by omega, by omega, ⟨hc8.ext hb9, (fb.keep ca hf8).ext hb9, (rb.fr hf8 dj).ext hb9, fun k hk hF => ?_, (ca.keep hf8 kk (by decide) (by decide)).ext hb9, (xx.fr hf8 ca.fromB).trans hb9⟩, HDc.out.1.acc hs1 hw1 hx0, HDc.out.2.1.acc hw1 HXL.out, by have h1 := HDc.out.2.2; have h2 := HPA.out.2; omega⟩, ?_⟩
                · rcases hF8 k hF with h | h
                  · exact dj k hk h
                  · have := (rb.lt k hk).2; omega
                · simp [Go.RowKit.intOf]
                  omega
      · obtain rfl : j = n := by omega
        have h1 := HD.out.2.2
        have h2 := pc_le hm0 HD.out.1 HD.out.2.1
        rw [HPE.out, HNP.out] at h2
        have h3 : mi ≤ (fl + 1) * N := by rw [Nat.succ_mul]; omega
        have h4 : ((fl : Int) + 1) * (N : Int) = (((fl + 1) * N : Nat) : Int) := by rw [Int.natCast_mul, Int.natCast_add]; rfl
        have h5 : (fl + 1) * N ≤ 201 * 310000 := Nat.mul_le_mul (by omega) HPB.out
        obtain ⟨Z, hZ⟩ : ∃ Z, (fl + 1) * N = Z := ⟨_, rfl⟩
        rw [hZ] at h3 h4 h5
        obtain ⟨s0, s1, s2⟩ := kk0.c3
        clear h1 h2 hZ
        go_wp2_with (go_at_call 16; refine Calls.mono (hmis _ xx0) ?_; rintro e w9 ⟨rfl, hb9⟩)
        go_ret
        exact ⟨by simp, xx0.trans hb9⟩
end Go.Proofs.Ytdbgnniedcibeaa
