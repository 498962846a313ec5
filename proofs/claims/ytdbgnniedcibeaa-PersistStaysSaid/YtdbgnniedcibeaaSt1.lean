/- The walk of ontimelaw32.PersistStays. -/
import Derived.Test.YtdbgnniedcibeaaSt0
import Derived.Test.YtdbgnniedcibeaaAcc1
import Derived.Test.YtdbgnniedcibeaaCacheF
namespace Go.Proofs.Ytdbgnniedcibeaa
open Go.RowKit Go.Maps Go.Proofs.YtdbgnniedcibeaaW.PrintWords Go.Proofs.Ytdbgnniedcibeaa.Pusable
set_option linter.unusedVariables false

theorem FunB.fr {w w' : World} {base : Nat} {f : Value} {b3 bm : Nat} {s : SB} {G : Nat → Prop} (h : FunB w base f b3 bm s) (fr : Fr G w w') (h3' : ¬ G b3) (hm' : ¬ G bm) : FunB w' base f b3 bm s := by
  obtain ⟨h1, h2, ⟨n, h3⟩, h4, h5⟩ := h
  exact ⟨h1, h2.fr fr h3', ⟨n, h3.same (fr.block bm h3.lt hm')⟩, h4, h5⟩
theorem FunB.lts {w : World} {base : Nat} {f : Value} {b3 bm : Nat} {s : SB} (h : FunB w base f b3 bm s) : b3 < w.heap.size ∧ bm < w.heap.size := by
  obtain ⟨h1, h2, ⟨n, h3⟩, h4, h5⟩ := h
  exact ⟨h2.lt, h3.lt⟩
theorem CaB.qne {w : World} {b base q : Nat} {S W L : Int} {F : Nat → Prop} {rows : List (List Int)} {v : Value} {r : List Int} (c : CaB w b q S W L F rows) (h : RowB w base v r) : v.ownBlock ≠ some q := fun e => by
  obtain ⟨gb, vs, c⟩ := c
  obtain ⟨cs, hB⟩ := h.kind q e
  have := Blk.agree c.kq hB
  injection this with _ e _
  exact absurd e (by decide)
theorem mul_fits {n L : Int} (hn : 0 ≤ n) (hn2 : n ≤ 70000) (hL : 1 ≤ L) (hL2 : L ≤ 16) : 0 ≤ n * L ∧ n * L ≤ 2000000 ∧ n * L / L = n := by
  have h1 : n * L ≤ 70000 * 16 := Int.mul_le_mul hn2 hL2 (by omega) (by omega)
  exact ⟨Int.mul_nonneg hn (by omega), by omega, Int.mul_ediv_cancel n (by omega)⟩
theorem FunB.flushed {w w' : World} {base b q : Nat} {S W L : Int} {F : Nat → Prop} {rows : List (List Int)} {f : Value} {b3 bm : Nat} {s : SB} (h : FunB w base f b3 bm s) (c : CaB w b q S W L F rows) (fr : Fr (fun k => k = q) w w') : FunB w' base f b3 bm s := by
  obtain ⟨h1, h2, ⟨n, h3⟩, h4, h5⟩ := h
  obtain ⟨es, clock, ho⟩ := h3.obj
  obtain ⟨gb, vs, c⟩ := c
  have hq := c.kq
  refine ⟨h1, h2.fr fr (fun e => ?_), ⟨n, h3.same (fr.block bm h3.lt fun e => ?_)⟩, h4, h5⟩
  · subst e
    have := Blk.agree h2 hq
    injection this with _ e _
    exact absurd e (by decide)
  · subst e
    unfold Blk at hq
    rw [ho] at hq
    cases hq
theorem RowB.flushed {w w' : World} {base b q : Nat} {S W L : Int} {F : Nat → Prop} {rows : List (List Int)} {v : Value} {r : List Int} (h : RowB w base v r) (c : CaB w b q S W L F rows) (fr : Fr (fun k => k = q) w w') : RowB w' base v r := by
  obtain ⟨gb, vs, c⟩ := c
  refine h.fr fr fun k hk e => ?_
  subst e
  obtain ⟨cs, hB⟩ := h.kind k hk
  have := Blk.agree c.kq hB
  injection this with _ e _
  exact absurd e (by decide)

theorem lines_len {l : List S44} {L : List Int} (h : IsLines l L) : L.length ≤ 65536 := by
  have := len_sub (l := L) (k := (List.range 65536).map (fun n : Nat => (n : Int))) (h.1.imp (fun h => by omega)) (fun x hx => by
    have := h.lo hx
    rw [List.mem_map]
    exact ⟨x.toNat, by rw [List.mem_range]; omega, by omega⟩)
  simpa using this

set_option maxHeartbeats 1000000 in
theorem stays_no (S W Ln : Int) (A : Option Addr) (c : Nat) (l : List S44) (B : Option Addr) (d : Nat) (ch : List Int) (w : World) (hr : k44.C w A l.length l) (hc : l.length ≤ c) (hr2 : KU.C w B ch.length ch) (hc2 : ch.length ≤ d) (hno : usB S W Ln l ch.length = false) :
    Calls Try.prog 9 #[.agg #[.int .i64 S, .int .i64 W, .int .i64 Ln], .slice A l.length c, .slice B ch.length d] w fun e w' => e = .returned (.bool true) ∧ Ext w w' := by
  have HNO := Lib.hid hno
  clear hno
  go_enter Try.func9, Try.ntmps9
  go_wp2_with (first
    | (go_at_call 22; refine Calls.mono (usable_any S W Ln A c l B d ch _ (C_ext hr (by repeat (first | ((with_reducible refine Ext.set1 ?_ ?_); (first | (focus (simp; done)) | (focus (simp; omega)) | (focus omega))) | (with_reducible refine Ext.alloc ?_ _) | (with_reducible exact Ext.refl _) | (refine Ext.trans ?_ (by with_reducible assumption))))) hc (C_ext hr2 (by repeat (first | ((with_reducible refine Ext.set1 ?_ ?_); (first | (focus (simp; done)) | (focus (simp; omega)) | (focus omega))) | (with_reducible refine Ext.alloc ?_ _) | (with_reducible exact Ext.refl _) | (refine Ext.trans ?_ (by with_reducible assumption))))) hc2) ?_; rintro e w2 ⟨rfl, hb2⟩; rw [HNO.out])
    | (go_at_call 11; refine Calls.mono (awake_yes _) ?_; rintro e w1 ⟨rfl, hb1⟩; obtain ⟨a0, a1, a2⟩ := Blk.c3 (w := w1) (B := w.heap.size) (by repeat (first | (with_reducible assumption) | ((with_reducible refine Blk.new ?_); (first | (focus rfl) | (focus (simp; done)) | (focus omega))) | ((with_reducible refine Blk.set1 ?_ ?_); (focus omega)) | (with_reducible refine Blk.alloc ?_) | (refine Blk.ext ?_ (by with_reducible assumption))))))
  go_ret
  exact ⟨rfl, (by repeat (first | ((with_reducible refine Ext.set1 ?_ ?_); (first | (focus (simp; done)) | (focus (simp; omega)) | (focus omega))) | (with_reducible refine Ext.alloc ?_ _) | (with_reducible exact Ext.refl _) | (refine Ext.trans ?_ (by with_reducible assumption))))⟩

set_option maxHeartbeats 4000000 in
theorem stays_walk (S W Ln : Int) (A : Option Addr) (c : Nat) (l : List S44) (B : Option Addr) (d : Nat) (ch : List Int) (w : World) (hr : k44.C w A l.length l) (hc : l.length ≤ c) (hr2 : KU.C w B ch.length ch) (hc2 : ch.length ≤ d) (hp : ∀ x ∈ ch, 0 ≤ x ∧ x ≤ 65535) :
    Calls Try.prog 9 #[.agg #[.int .i64 S, .int .i64 W, .int .i64 Ln], .slice A l.length c, .slice B ch.length d] w fun e w' => e = .returned (.bool true) ∧ Ext w w' := by
  cases hus : usB S W Ln l ch.length with
  | false => exact stays_no S W Ln A c l B d ch w hr hc hr2 hc2 hus
  | true =>
    have us := us_is hus
    have HUS := Lib.hid hus
    clear hus
    have g := us.geo
    have hlen : l.length ≤ 12 := us.len
    have hfew : ch.length ≤ 200 := us.few
    obtain ⟨L, hL⟩ := exists_lines l
    have hs1 := g.s1
    have hs64 := g.s64
    have hw1 := g.w1
    have hl1 := g.l1
    have hl16 := g.l16
    obtain ⟨m, rfl⟩ : ∃ m : Nat, S = m := ⟨S.toNat, by omega⟩
    have hm0 : 0 < m := by omega
    have HL := Lib.hid hL
    have HP := Lib.hid hp
    clear hL hp
    have HPL : Hid (∀ x ∈ pers W m L, 0 ≤ x ∧ x ≤ 65535) := fun x hx => HL.out.lo (List.mem_filter.1 hx).1
    have HPB : Hid ((pers W m L).length ≤ 310000) := by show (pers W m L).length ≤ 310000; have := lines_len HL.out; have := pers_le (W := W) m L; omega
    obtain ⟨P, hP⟩ : ∃ P, pers W m L = P := ⟨_, rfl⟩
    rw [hP] at HPL HPB
    have HPE := Lib.hid hP
    clear hP
    go_enter Try.func9, Try.ntmps9
    go_wp2_with (first
      | (go_at_call 26; refine Calls.mono (accesses_at A c l B d ch _ (C_ext hr (by repeat (first | ((with_reducible refine Ext.set1 ?_ ?_); (first | (focus (simp; done)) | (focus (simp; omega)) | (focus omega))) | (with_reducible refine Ext.alloc ?_ _) | (with_reducible exact Ext.refl _) | (refine Ext.trans ?_ (by with_reducible assumption))))) hlen us.hi (C_ext hr2 (by repeat (first | ((with_reducible refine Ext.set1 ?_ ?_); (first | (focus (simp; done)) | (focus (simp; omega)) | (focus omega))) | (with_reducible refine Ext.alloc ?_ _) | (with_reducible exact Ext.refl _) | (refine Ext.trans ?_ (by with_reducible assumption))))) hfew HP.out) ?_; rintro e w7 ⟨A7, c7, R, rfl, hR7, hRl, hRm, hb7⟩)
      | (go_at_call 23; refine Calls.mono (contains_at A5 c5 P.length P _ hC5 HPB.out HPL.out) ?_; rintro e w6 ⟨b3, bm, rfl, hf6, hb6⟩)
      | (go_at_call 15; refine Calls.mono (persistent_at g A c l L HL.out _ (C_ext hr (by repeat (first | ((with_reducible refine Ext.set1 ?_ ?_); (first | (focus (simp; done)) | (focus (simp; omega)) | (focus omega))) | (with_reducible refine Ext.alloc ?_ _) | (with_reducible exact Ext.refl _) | (refine Ext.trans ?_ (by with_reducible assumption))))) (by omega) us.hi) ?_; rw [Int.toNat_natCast, HPE.out]; rintro e w5 ⟨A5, c5, rfl, hM5, hb5⟩; obtain ⟨A9, c9, e9, _, hC5⟩ := hM5.C; cases e9)
      | (go_at_call 25; refine Calls.mono (cache_new g _) ?_; rintro e w4 ⟨q, F0, rfl, hca, hb4⟩; obtain ⟨j0, j1, j2⟩ := Blk.c3 (w := w4) (B := w.heap.size) (by repeat (first | (with_reducible assumption) | ((with_reducible refine Blk.new ?_); (first | (focus rfl) | (focus (simp; done)) | (focus omega))) | ((with_reducible refine Blk.set1 ?_ ?_); (focus omega)) | (with_reducible refine Blk.alloc ?_) | (refine Blk.ext ?_ (by with_reducible assumption)))))
      | (go_at_call 22; refine Calls.mono (usable_any (m : Int) W Ln A c l B d ch _ (C_ext hr (by repeat (first | ((with_reducible refine Ext.set1 ?_ ?_); (first | (focus (simp; done)) | (focus (simp; omega)) | (focus omega))) | (with_reducible refine Ext.alloc ?_ _) | (with_reducible exact Ext.refl _) | (refine Ext.trans ?_ (by with_reducible assumption))))) hc (C_ext hr2 (by repeat (first | ((with_reducible refine Ext.set1 ?_ ?_); (first | (focus (simp; done)) | (focus (simp; omega)) | (focus omega))) | (with_reducible refine Ext.alloc ?_ _) | (with_reducible exact Ext.refl _) | (refine Ext.trans ?_ (by with_reducible assumption))))) hc2) ?_; rintro e w2 ⟨rfl, hb2⟩; rw [HUS.out]; obtain ⟨d0, d1, d2⟩ := Blk.c3 (w := w2) (B := w.heap.size) (by repeat (first | (with_reducible assumption) | ((with_reducible refine Blk.new ?_); (first | (focus rfl) | (focus (simp; done)) | (focus omega))) | ((with_reducible refine Blk.set1 ?_ ?_); (focus omega)) | (with_reducible refine Blk.alloc ?_) | (refine Blk.ext ?_ (by with_reducible assumption)))))
      | (go_at_call 11; refine Calls.mono (awake_yes _) ?_; rintro e w1 ⟨rfl, hb1⟩; obtain ⟨a0, a1, a2⟩ := Blk.c3 (w := w1) (B := w.heap.size) (by repeat (first | (with_reducible assumption) | ((with_reducible refine Blk.new ?_); (first | (focus rfl) | (focus (simp; done)) | (focus omega))) | ((with_reducible refine Blk.set1 ?_ ?_); (focus omega)) | (with_reducible refine Blk.alloc ?_) | (refine Blk.ext ?_ (by with_reducible assumption))))))
    have kc : Blk w4 w.heap.size (.cells #[.int .i64 (m : Int), .int .i64 W, .int .i64 Ln] 23) := (by repeat (first | (with_reducible assumption) | ((with_reducible refine Blk.new ?_); (first | (focus rfl) | (focus (simp; done)) | (focus omega))) | ((with_reducible refine Blk.set1 ?_ ?_); (focus omega)) | (with_reducible refine Blk.alloc ?_) | (refine Blk.ext ?_ (by with_reducible assumption))))
    have hx4 : Ext w w4 := (by repeat (first | ((with_reducible refine Ext.set1 ?_ ?_); (first | (focus (simp; done)) | (focus (simp; omega)) | (focus omega))) | (with_reducible refine Ext.alloc ?_ _) | (with_reducible exact Ext.refl _) | (refine Ext.trans ?_ (by with_reducible assumption))))
    have hx7 : Ext w4 w7 := hb5.trans (hb6.trans hb7)
    have kc7 := kc.ext hx7
    have zca : CaB w7 w.heap.size q (m : Int) W Ln F0 (List.replicate (m : Int).toNat []) := (hca.ext hx7).lower (by have := hb2.size; have := hb1.size; simp at this; omega)
    have zf := hf6.ext hb7
    have hdj0 : ∀ k, (Value.slice A7 R.length c7).ownBlock = some k → ¬ F0 k := fun k hk hF => by
      have h1 := (hR7.lt k hk).1
      have h2 := hca.lt k hF
      have := hb5.size
      have := hb6.size
      omega
    have hxx7 := hx4.trans hx7
    have HRL : Hid (∀ x ∈ R, x ∈ L) := fun x hx => (HL.out.2 x).2 (hRm x hx)
    have hRl' : R.length ≤ 200 := by omega
    have hlts := zf.lts
    obtain ⟨hlt3, hltm⟩ := hlts
    have hRown : ∀ k, (Value.slice A7 R.length c7).ownBlock = some k → k < w7.heap.size := fun k hk => (hR7.lt k hk).2
    have hw07 := hxx7.size
    have hkc7 := kc7.lt
    have HD0 : Hid (Rows (m : Int) W (List.replicate (m : Int).toNat []) ∧ InL L (List.replicate (m : Int).toNat []) ∧ Held W m L [] (List.replicate (m : Int).toNat [])) := ⟨rows_empty hs1 hw1, inl_empty L _, fun x h => by cases h⟩
    clear hca hb1 hb2 hb4 hb5 hb6 hb7 hx7 hx4 kc hf6 hM5 hC5 hRm hRl a0 a1 a2 d0 d1 d2 j0 j1 j2
    obtain ⟨n, hn⟩ : ∃ n, R.length = n := ⟨_, rfl⟩
    rw [hn] at hR7 hdj0 hRl' hRown ⊢
    have HN := Lib.hid hn
    clear hn
    go_loopw [10, 37] (fun v i wr => ∃ (j : Nat) (F : Nat → Prop) (rows : List (List Int)) (A1 : Option Addr) (c1 k : Nat) (K : List Int), i = .int .i64 j ∧ j ≤ n ∧ v = .slice A1 k c1 ∧ k ≤ j ∧ (CaB wr w.heap.size q (m : Int) W Ln F rows ∧ FunB wr w5.heap.size (.func (.func 34) #[] #[.pointer (some ⟨b3, 0, none⟩)]) b3 bm (fun x => decide (x ∈ P)) ∧ RowB wr w6.heap.size (.slice A7 n c7) R ∧ (∀ k, (Value.slice A7 n c7).ownBlock = some k → ¬ F k) ∧ RowB wr w7.heap.size (.slice A1 k c1) K ∧ (∀ b, (Value.slice A1 k c1).ownBlock = some b → ¬ F b) ∧ Blk wr w.heap.size (.cells #[.int .i64 (m : Int), .int .i64 W, .int .i64 Ln] 23) ∧ w7.heap.size ≤ wr.heap.size ∧ Ext w wr) ∧
        Hid (K.length = k ∧ Rows (m : Int) W rows ∧ InL L rows ∧ Held W m L K rows)) (fun _ i _ => n - (Go.RowKit.intOf i).toNat)
    case atStart => exact ⟨0, F0, _, none, 0, 0, [], rfl, Nat.zero_le _, rfl, Nat.le_refl _, ⟨zca, zf, hR7, hdj0, RowB.nil _ _, (fun b h => by cases h), kc7, Nat.le_refl _, hxx7⟩, ⟨rfl, HD0.out⟩⟩
    case round =>
      clear zca zf hR7 hdj0 kc7 hxx7 HD0
      obtain ⟨j, F, rows, A1, c1, k, K, rfl, hj, rfl, hkj, ⟨ca, fb, rb, dj, kb, dk, kk, hw7, xx⟩, HD⟩ := hrel
      have hbw := xx.size
      by_cases hlt : j < n
      · obtain ⟨A9, c9, e9, _, hC⟩ := rb.C
        rw [HN.out] at e9 hC
        cases e9
        obtain ⟨ad, rfl, hcell⟩ := at_num hC j hlt
        have hjl : j < R.length := by rw [HN.out]; exact hlt
        have hxm : R.getD j 0 ∈ R := by
          rw [List.getD_eq_getElem?_getD, List.getElem?_eq_getElem hjl]
          exact List.getElem_mem _
        have hxL := HRL.out _ hxm
        clear hxm hjl hC
        obtain ⟨x, hx⟩ : ∃ x, R.getD j 0 = x := ⟨_, rfl⟩
        rw [hx] at hcell hxL
        clear hx
        have HXL := Lib.hid hxL
        obtain ⟨hx0, hx1⟩ := HL.out.lo hxL
        clear hxL
        obtain ⟨hX1, hX2, hX3⟩ := mul_fits (n := x) hx0 (by omega) hl1 hl16
        obtain ⟨X, hX⟩ : ∃ X, x * Ln = X := ⟨_, rfl⟩
        rw [hX] at hX1 hX2 hX3
        have HPX : Hid (x ∈ P ↔ perB W m L x = true) := by
          show x ∈ P ↔ _
          rw [← HPE.out]
          unfold pers
          rw [List.mem_filter]
          exact ⟨fun h => h.2, fun h => ⟨HXL.out, h⟩⟩
        obtain ⟨s0, s1, s2⟩ := kk.c3
        have HD2 : Hid (Rows (m : Int) W (cAcc (m : Int) W rows x) ∧ InL L (cAcc (m : Int) W rows x) ∧ Held W m L K (cAcc (m : Int) W rows x)) := ⟨HD.out.2.1.acc hs1 hw1 hx0, HD.out.2.2.1.acc hw1 HXL.out, held_acc hm0 hw1 HD.out.2.1 HD.out.2.2.1 HD.out.2.2.2 HXL.out hx0⟩
        by_cases hxP : x ∈ P
        · go_wp2_with (first
            | (at_builtin; refine wp_append_int rfl _ _ rfl w7.heap.size (.slice A1 k c1) K k HD.out.1 w9.heap.size x rfl rfl (Blk.new rfl) (((kb.fr hf8 dk).ext hb9).alloc _) (by omega) (by have := hf8.size; have := hb9.size; simp; omega) ?_; intro A10 c10 w10 hM10 hf10 hown10)
            | (go_at_call 34; refine Calls.mono (fun_at (fb.keep ca hf8) x hx0 (by omega) true (by simpa using hxP)) ?_; rintro e w9 ⟨rfl, hb9⟩)
            | (go_at_call 27; refine Calls.mono (cache_access (base := w.heap.size) g ca HD.out.2.1 X hX1 hX2 hbw) ?_; rw [hX3]; rintro e w8 ⟨rfl, F8, hc8, hF8, hf8⟩))
          have hz8 := hf8.size
          have hz9 := hb9.size
          have hx9 : Ext w8 (w9.alloc (.cells #[.int .i64 x] 3)) := hb9.alloc _
          have hd8 : ∀ b, (Value.slice A1 k c1).ownBlock = some b → ¬ F8 b := fun b hb hF => by
            rcases hF8 b hF with h | h
            · exact dk b hb h
            · have := (kb.lt b hb).2; omega
          obtain ⟨rowsz, hrz⟩ : ∃ r, cAcc (m : Int) W rows x = r := ⟨_, rfl⟩
          have HACC : Hid (x ∈ rowsz.getD (x % (m : Int)).toNat []) := by show x ∈ _; rw [← hrz]; exact acc_in hm0 hw1 HD.out.2.1 x
          rw [hrz] at hc8 HD2
          have caz : CaB w10 w.heap.size q (m : Int) W Ln F8 rowsz := (hc8.ext hx9).fr hf10 (fun b hF hb => hd8 b hb hF) (fun e => ca.qne kb e)
          have fbz := ((fb.keep ca hf8).ext hx9).fr hf10 (fun e => by have := (kb.lt _ e).1; omega) (fun e => by have := (kb.lt _ e).1; omega)
          have rbz := ((rb.fr hf8 dj).ext hx9).fr hf10 (fun b hb e => by have := (kb.lt _ e).1; have := hRown b hb; omega)
          have kkz := ((ca.keep hf8 kk (by decide) (by decide)).ext hx9).fr hf10 (fun e => by have := (kb.lt _ e).1; omega)
          have xxz : Ext w w10 := ((xx.fr hf8 ca.fromB).trans hx9).fr hf10 (fun b hb => by have := (kb.lt b hb).1; omega)
          have djz : ∀ b, (Value.slice (some ad) n c7).ownBlock = some b → ¬ F8 b := fun b hb hF => by
            rcases hF8 b hF with h | h
            · exact dj b hb h
            · have := (rb.lt b hb).2; omega
          have dkz : ∀ b, (Value.slice A10 (k + 1) c10).ownBlock = some b → ¬ F8 b := fun b hb hF => by
            rcases hown10 with h | h
            · exact hd8 b (h ▸ hb) hF
            · rw [h] at hb
              have := hc8.lt b hF
              simp at hb
              omega
          obtain ⟨K2, hK2⟩ : ∃ K2, K ++ [x] = K2 := ⟨_, rfl⟩
          have HZ : Hid (K2.length = k + 1 ∧ Rows (m : Int) W rowsz ∧ InL L rowsz ∧ Held W m L K2 rowsz) := by
            refine ⟨?_, HD2.out.1, HD2.out.2.1, fun z hz => ?_⟩
            · rw [← hK2, List.length_append, HD.out.1]; rfl
            · rw [← hK2] at hz
              rcases List.mem_append.1 hz with hz | hz
              · exact HD2.out.2.2 z hz
              · simp at hz
                subst hz
                exact ⟨hx0, hx1, HPX.out.1 hxP, HACC.out⟩
          have kbz := hM10
          rw [hK2] at kbz
          have hwz : w7.heap.size ≤ w10.heap.size := by have := hf10.size; simp at this; omega
          obtain ⟨wz, hwz'⟩ : ∃ wz, wz = w10 := ⟨_, rfl⟩
          rw [← hwz'] at caz fbz rbz kkz xxz kbz hwz ⊢
          clear ca fb rb dj kb dk kk xx hM10 hf10 hown10 hc8 hf8 hF8 hb9 hx9 hwz' hK2 hrz hd8 hcell s0 s1 s2 HD HD2 HACC
          have hzw := xxz.size
          have HKL := Lib.hid HZ.out.1
          obtain ⟨A8, c8, e8, _, hCk⟩ := kbz.C
          rw [HKL.out] at e8 hCk
          cases e8
          obtain ⟨t0, t1, t2⟩ := kkz.c3
          obtain ⟨wp, hwp⟩ : ∃ wp, wp = wr := ⟨wr, rfl⟩
          subst hwp
          go_wp2
          go_loopw [56] (fun i wv => ∃ t : Nat, i = .int .i64 t ∧ t ≤ (k + 1) ∧ Ext wz wv) (fun i _ => (k + 1) - (Go.RowKit.intOf i).toNat)
          case atStart => exact ⟨0, rfl, Nat.zero_le _, Ext.refl _⟩
          case round =>
            obtain ⟨t, rfl, ht, hez⟩ := hrel
            by_cases htk : t < (k + 1)
            · obtain ⟨bd, rfl, hcell2⟩ := at_num (C_ext hCk hez) t htk
              have hyl : t < K2.length := by rw [HKL.out]; exact htk
              have hym : K2.getD t 0 ∈ K2 := by
                rw [List.getD_eq_getElem?_getD, List.getElem?_eq_getElem hyl]
                exact List.getElem_mem _
              have hheld := HZ.out.2.2.2 _ hym
              clear hym hyl
              obtain ⟨y, hy⟩ : ∃ y, K2.getD t 0 = y := ⟨_, rfl⟩
              rw [hy] at hcell2 hheld
              clear hy
              obtain ⟨hy0, hy1, _, hymem⟩ := hheld
              have HMEM := Lib.hid hymem
              clear hymem
              obtain ⟨hY1, hY2, hY3⟩ := mul_fits (n := y) hy0 (by omega) hl1 hl16
              obtain ⟨Y, hY⟩ : ∃ Y, y * Ln = Y := ⟨_, rfl⟩
              rw [hY] at hY1 hY2 hY3
              obtain ⟨v0, v1, v2⟩ := (kkz.ext hez).c3
              go_wp2_with (go_at_call 29; refine Calls.mono (cache_probe g (caz.ext hez) HZ.out.2.1 Y hY1 hY2) ?_; rw [hY3, decide_eq_true (show 0 ≤ cAge (m : Int) rowsz y from age_in HMEM.out)]; rintro e w12 ⟨rfl, hb12⟩)
              go_round
              case rel => exact ⟨t + 1, by go_num, by omega, hez.trans hb12⟩
              case measure => simp [Go.RowKit.intOf]; omega
            · obtain rfl : t = (k + 1) := by omega
              go_wp2
              go_round
              case rel => exact ⟨j + 1, F8, rowsz, A10, c10, (k + 1), K2, by go_num, by omega, rfl, by omega, ⟨caz.ext hez, fbz.ext hez, rbz.ext hez, djz, kbz.ext hez, dkz, kkz.ext hez, by have := hez.size; omega, xxz.trans hez⟩, HZ⟩
              case measure => simp [Go.RowKit.intOf]; omega
        · go_wp2_with (first
            | (go_at_call 34; refine Calls.mono (fun_at (fb.keep ca hf8) x hx0 (by omega) false (by simpa using hxP)) ?_; rintro e w9 ⟨rfl, hb9⟩)
            | (go_at_call 27; refine Calls.mono (cache_access (base := w.heap.size) g ca HD.out.2.1 X hX1 hX2 hbw) ?_; rw [hX3]; rintro e w8 ⟨rfl, F8, hc8, hF8, hf8⟩))
          have hz8 := hf8.size
          have hz9 := hb9.size
          obtain ⟨rowsz, hrz⟩ : ∃ r, cAcc (m : Int) W rows x = r := ⟨_, rfl⟩
          rw [hrz] at hc8 HD2
          have caz : CaB w9 w.heap.size q (m : Int) W Ln F8 rowsz := hc8.ext hb9
          have fbz := (fb.keep ca hf8).ext hb9
          have rbz := (rb.fr hf8 dj).ext hb9
          have kkz := (ca.keep hf8 kk (by decide) (by decide)).ext hb9
          have xxz : Ext w w9 := (xx.fr hf8 ca.fromB).trans hb9
          have djz : ∀ b, (Value.slice (some ad) n c7).ownBlock = some b → ¬ F8 b := fun b hb hF => by
            rcases hF8 b hF with h | h
            · exact dj b hb h
            · have := (rb.lt b hb).2; omega
          have dkz : ∀ b, (Value.slice A1 k c1).ownBlock = some b → ¬ F8 b := fun b hb hF => by
            rcases hF8 b hF with h | h
            · exact dk b hb h
            · have := (kb.lt b hb).2; omega
          obtain ⟨K2, hK2⟩ : ∃ K2, K = K2 := ⟨_, rfl⟩
          have HZ : Hid (K2.length = k ∧ Rows (m : Int) W rowsz ∧ InL L rowsz ∧ Held W m L K2 rowsz) := by
            rw [← hK2]
            exact ⟨HD.out.1, HD2.out⟩
          have kbz := (kb.fr hf8 dk).ext hb9
          rw [hK2] at kbz
          have hwz : w7.heap.size ≤ w9.heap.size := by omega
          obtain ⟨wz, hwz'⟩ : ∃ wz, wz = w9 := ⟨_, rfl⟩
          rw [← hwz'] at caz fbz rbz kkz xxz kbz hwz ⊢
          clear ca fb rb dj kb dk kk xx hc8 hf8 hF8 hb9 hwz' hK2 hrz hcell s0 s1 s2 HD HD2
          have hzw := xxz.size
          have HKL := Lib.hid HZ.out.1
          obtain ⟨A8, c8, e8, _, hCk⟩ := kbz.C
          rw [HKL.out] at e8 hCk
          cases e8
          obtain ⟨t0, t1, t2⟩ := kkz.c3
          obtain ⟨wp, hwp⟩ : ∃ wp, wp = wr := ⟨wr, rfl⟩
          subst hwp
          go_wp2
          go_loopw [56] (fun i wv => ∃ t : Nat, i = .int .i64 t ∧ t ≤ k ∧ Ext wz wv) (fun i _ => k - (Go.RowKit.intOf i).toNat)
          case atStart => exact ⟨0, rfl, Nat.zero_le _, Ext.refl _⟩
          case round =>
            obtain ⟨t, rfl, ht, hez⟩ := hrel
            by_cases htk : t < k
            · obtain ⟨bd, rfl, hcell2⟩ := at_num (C_ext hCk hez) t htk
              have hyl : t < K2.length := by rw [HKL.out]; exact htk
              have hym : K2.getD t 0 ∈ K2 := by
                rw [List.getD_eq_getElem?_getD, List.getElem?_eq_getElem hyl]
                exact List.getElem_mem _
              have hheld := HZ.out.2.2.2 _ hym
              clear hym hyl
              obtain ⟨y, hy⟩ : ∃ y, K2.getD t 0 = y := ⟨_, rfl⟩
              rw [hy] at hcell2 hheld
              clear hy
              obtain ⟨hy0, hy1, _, hymem⟩ := hheld
              have HMEM := Lib.hid hymem
              clear hymem
              obtain ⟨hY1, hY2, hY3⟩ := mul_fits (n := y) hy0 (by omega) hl1 hl16
              obtain ⟨Y, hY⟩ : ∃ Y, y * Ln = Y := ⟨_, rfl⟩
              rw [hY] at hY1 hY2 hY3
              obtain ⟨v0, v1, v2⟩ := (kkz.ext hez).c3
              go_wp2_with (go_at_call 29; refine Calls.mono (cache_probe g (caz.ext hez) HZ.out.2.1 Y hY1 hY2) ?_; rw [hY3, decide_eq_true (show 0 ≤ cAge (m : Int) rowsz y from age_in HMEM.out)]; rintro e w12 ⟨rfl, hb12⟩)
              go_round
              case rel => exact ⟨t + 1, by go_num, by omega, hez.trans hb12⟩
              case measure => simp [Go.RowKit.intOf]; omega
            · obtain rfl : t = k := by omega
              go_wp2
              go_round
              case rel => exact ⟨j + 1, F8, rowsz, A1, c1, _, K2, by go_num, by omega, rfl, by omega, ⟨caz.ext hez, fbz.ext hez, rbz.ext hez, djz, kbz.ext hez, dkz, kkz.ext hez, by have := hez.size; omega, xxz.trans hez⟩, HZ⟩
              case measure => simp [Go.RowKit.intOf]; omega
      · obtain rfl : j = n := by omega
        go_wp2
        go_ret
        exact ⟨rfl, xx⟩
end Go.Proofs.Ytdbgnniedcibeaa
