/- The walk of ontimelaw32.PersistMisses. -/
import Derived.Test.YtdbgnniedcibeaaSt0
import Derived.Test.YtdbgnniedcibeaaAcc1
import Derived.Test.YtdbgnniedcibeaaCacheF
namespace Go.Proofs.Ytdbgnniedcibeaa
open Go.RowKit Go.Maps Go.Proofs.YtdbgnniedcibeaaW.PrintWords Go.Proofs.Ytdbgnniedcibeaa.Pusable
set_option linter.unusedVariables false

theorem FunB.fr {w w' : World} {base : Nat} {f : Value} {b3 bm : Nat} {s : SB} {G : Nat → Prop} (h : FunB w base f b3 bm s) (fr : Fr G w w') (h3' : ¬ G b3) (hm' : ¬ G bm) : FunB w' base f b3 bm s := by
  obtain ⟨h1, h2, ⟨n, h3⟩, h4, h5⟩ := h
  exact ⟨h1, h2.fr fr h3', ⟨n, h3.same (fr.block bm h3.lt hm')⟩, h4, h5⟩
theorem FunB.lts {w : World} {base : Nat} {f : Value} {b3 bm : Nat} {s : SB} (h : FunB w base f b3 bm s) : b3 < w.heap.size ∧ bm < w.heap.size := by
  obtain ⟨h1, h2, ⟨n, h3⟩, h4, h5⟩ := h
  exact ⟨h2.lt, h3.lt⟩
theorem IMap.look1 {w : World} {b n : Nat} {f : FM} (h : IMap w b n f) {x : Int} (hx : I64 x) (c : Int) (hc : (f x).getD 0 = c) :
    (Instr.lookup 51 (.map (some b)) (.int .i64 x) false).run Try.prog w = .ok (.int .i64 c) w := by
  subst hc
  obtain ⟨D, hown, hi⟩ := h
  obtain ⟨v, ps, hrun, hv⟩ := hown.lookup keyedI Try.underlying51 (zeroI w) (plainElem_int Try.underlying3 (by decide)) (keyI hx)
  rw [hrun]
  obtain ⟨c, rfl, hc, _⟩ := plainElem_int_inv Try.underlying3 hv
  have hc := congrArg Prod.fst hc
  cases hf : f x with
  | none =>
    rw [atKey_of_not_has (by rw [hi.has x hx, hf]; rfl)] at hc
    cases hc
    rfl
  | some b =>
    rw [hi.at_ x b hx hf] at hc
    cases hc
    rfl
theorem IMap.len1 {w : World} {b n : Nat} {f : FM} (h : IMap w b n f) : ∃ Z : Nat, Z ≤ n ∧ ∀ ty, (Builtin.len_ #[51] ty #[.map (some b)]).run Try.prog w = .ok (.int .i64 (Z : Int)) w := by
  obtain ⟨D, hown, hi⟩ := h
  exact ⟨Maps.size D, hown.size_le, fun ty => hown.len Try.underlying51 ty⟩
theorem IMap.obj {w : World} {b n : Nat} {f : FM} (h : IMap w b n f) : ∃ es clock, w.heap[b]? = some (.map es clock) := by
  obtain ⟨D, ⟨es, clock, hb, r⟩, i⟩ := h
  exact ⟨es, clock, hb⟩
/-- The lines K have missed once. -/
def once (K : List Int) : FM := fun y => if y ∈ K then some 1 else none
theorem once_put (K : List Int) (x : Int) : ∀ y, put (once K) x 1 y = once (K ++ [x]) y := fun y => by
  unfold put once
  by_cases c : y = x
  · subst c; simp
  · simp [c]

theorem CaB.qne {w : World} {b base q : Nat} {S W L : Int} {F : Nat → Prop} {rows : List (List Int)} {v : Value} {r : List Int} (c : CaB w b q S W L F rows) (h : RowB w base v r) : v.ownBlock ≠ some q := fun e => by
  obtain ⟨gb, vs, c⟩ := c
  obtain ⟨cs, hB⟩ := h.kind q e
  have := Blk.agree c.kq hB
  injection this with _ e _
  exact absurd e (by decide)
theorem mul_fits {n L : Int} (hn : 0 ≤ n) (hn2 : n ≤ 70000) (hL : 1 ≤ L) (hL2 : L ≤ 16) : 0 ≤ n * L ∧ n * L ≤ 2000000 ∧ n * L / L = n := by
  have h1 : n * L ≤ 70000 * 16 := Int.mul_le_mul hn2 hL2 (by omega) (by omega)
  exact ⟨Int.mul_nonneg hn (by omega), by omega, Int.mul_ediv_cancel n (by omega)⟩
theorem FunB.flushed {w w' : World} {base b q : Nat} {S W L : Int} {F : Nat → Prop} {rows : List (List Int)} {f : Value} {b3 bm : Nat} {s : SB} (h : FunB w base f b3 bm s) (c : CaB w b q S W L F rows) (fr : Fr (fun k => k = q) w w') : FunB w' base f b3 bm s := by
  obtain ⟨h1, h2, ⟨n, h3⟩, h4, h5⟩ := h
  obtain ⟨es, clock, ho⟩ := h3.obj
  obtain ⟨gb, vs, c⟩ := c
  have hq := c.kq
  refine ⟨h1, h2.fr fr (fun e => ?_), ⟨n, h3.same (fr.block bm h3.lt fun e => ?_)⟩, h4, h5⟩
  · subst e
    have := Blk.agree h2 hq
    injection this with _ e _
    exact absurd e (by decide)
  · subst e
    unfold Blk at hq
    rw [ho] at hq
    cases hq
theorem RowB.flushed {w w' : World} {base b q : Nat} {S W L : Int} {F : Nat → Prop} {rows : List (List Int)} {v : Value} {r : List Int} (h : RowB w base v r) (c : CaB w b q S W L F rows) (fr : Fr (fun k => k = q) w w') : RowB w' base v r := by
  obtain ⟨gb, vs, c⟩ := c
  refine h.fr fr fun k hk e => ?_
  subst e
  obtain ⟨cs, hB⟩ := h.kind k hk
  have := Blk.agree c.kq hB
  injection this with _ e _
  exact absurd e (by decide)

theorem lines_len {l : List S44} {L : List Int} (h : IsLines l L) : L.length ≤ 65536 := by
  have := len_sub (l := L) (k := (List.range 65536).map (fun n : Nat => (n : Int))) (h.1.imp (fun h => by omega)) (fun x hx => by
    have := h.lo hx
    rw [List.mem_map]
    exact ⟨x.toNat, by rw [List.mem_range]; omega, by omega⟩)
  simpa using this

set_option maxHeartbeats 1000000 in
theorem misses_no (S W Ln : Int) (A : Option Addr) (c : Nat) (l : List S44) (B : Option Addr) (d : Nat) (ch : List Int) (w : World) (hr : k44.C w A l.length l) (hc : l.length ≤ c) (hr2 : KU.C w B ch.length ch) (hc2 : ch.length ≤ d) (hno : usB S W Ln l ch.length = false) :
    Calls Try.prog 7 #[.agg #[.int .i64 S, .int .i64 W, .int .i64 Ln], .slice A l.length c, .slice B ch.length d] w fun e w' => e = .returned (.bool true) ∧ Ext w w' := by
  have HNO := Lib.hid hno
  clear hno
  go_enter Try.func7, Try.ntmps7
  go_wp2_with (first
    | (go_at_call 22; refine Calls.mono (usable_any S W Ln A c l B d ch _ (C_ext hr (by repeat (first | ((with_reducible refine Ext.set1 ?_ ?_); (first | (focus (simp; done)) | (focus (simp; omega)) | (focus omega))) | (with_reducible refine Ext.alloc ?_ _) | (with_reducible exact Ext.refl _) | (refine Ext.trans ?_ (by with_reducible assumption))))) hc (C_ext hr2 (by repeat (first | ((with_reducible refine Ext.set1 ?_ ?_); (first | (focus (simp; done)) | (focus (simp; omega)) | (focus omega))) | (with_reducible refine Ext.alloc ?_ _) | (with_reducible exact Ext.refl _) | (refine Ext.trans ?_ (by with_reducible assumption))))) hc2) ?_; rintro e w2 ⟨rfl, hb2⟩; rw [HNO.out])
    | (go_at_call 11; refine Calls.mono (awake_yes _) ?_; rintro e w1 ⟨rfl, hb1⟩; obtain ⟨a0, a1, a2⟩ := Blk.c3 (w := w1) (B := w.heap.size) (by repeat (first | (with_reducible assumption) | ((with_reducible refine Blk.new ?_); (first | (focus rfl) | (focus (simp; done)) | (focus omega))) | ((with_reducible refine Blk.set1 ?_ ?_); (focus omega)) | (with_reducible refine Blk.alloc ?_) | (refine Blk.ext ?_ (by with_reducible assumption))))))
  go_ret
  exact ⟨rfl, (by repeat (first | ((with_reducible refine Ext.set1 ?_ ?_); (first | (focus (simp; done)) | (focus (simp; omega)) | (focus omega))) | (with_reducible refine Ext.alloc ?_ _) | (with_reducible exact Ext.refl _) | (refine Ext.trans ?_ (by with_reducible assumption))))⟩

set_option maxHeartbeats 4000000 in
theorem misses_walk (S W Ln : Int) (A : Option Addr) (c : Nat) (l : List S44) (B : Option Addr) (d : Nat) (ch : List Int) (w : World) (hr : k44.C w A l.length l) (hc : l.length ≤ c) (hr2 : KU.C w B ch.length ch) (hc2 : ch.length ≤ d) (hp : ∀ x ∈ ch, 0 ≤ x ∧ x ≤ 65535) :
    Calls Try.prog 7 #[.agg #[.int .i64 S, .int .i64 W, .int .i64 Ln], .slice A l.length c, .slice B ch.length d] w fun e w' => e = .returned (.bool true) ∧ Ext w w' := by
  cases hus : usB S W Ln l ch.length with
  | false => exact misses_no S W Ln A c l B d ch w hr hc hr2 hc2 hus
  | true =>
    have us := us_is hus
    have HUS := Lib.hid hus
    clear hus
    have g := us.geo
    have hlen : l.length ≤ 12 := us.len
    have hfew : ch.length ≤ 200 := us.few
    obtain ⟨L, hL⟩ := exists_lines l
    have hs1 := g.s1
    have hs64 := g.s64
    have hw1 := g.w1
    have hl1 := g.l1
    have hl16 := g.l16
    obtain ⟨m, rfl⟩ : ∃ m : Nat, S = m := ⟨S.toNat, by omega⟩
    have hm0 : 0 < m := by omega
    have HL := Lib.hid hL
    have HP := Lib.hid hp
    clear hL hp
    have HPL : Hid (∀ x ∈ pers W m L, 0 ≤ x ∧ x ≤ 65535) := fun x hx => HL.out.lo (List.mem_filter.1 hx).1
    have HPB : Hid ((pers W m L).length ≤ 310000) := by show (pers W m L).length ≤ 310000; have := lines_len HL.out; have := pers_le (W := W) m L; omega
    have hmis := fun (w' : World) (hw' : Ext w w') => misses_at g A c l L HL.out w' (C_ext hr hw') (by omega) us.hi
    rw [Int.toNat_natCast] at hmis
    have hmm := @run_makeMap Try.prog
    obtain ⟨P, hP⟩ : ∃ P, pers W m L = P := ⟨_, rfl⟩
    rw [hP] at HPL HPB hmis
    have HPE := Lib.hid hP
    clear hP
    go_enter Try.func7, Try.ntmps7
    go_wp2_with (first
      | (go_at_call 26; refine Calls.mono (accesses_at A c l B d ch _ (C_ext hr (by repeat (first | ((with_reducible refine Ext.set1 ?_ ?_); (first | (focus (simp; done)) | (focus (simp; omega)) | (focus omega))) | (with_reducible refine Ext.alloc ?_ _) | (with_reducible exact Ext.refl _) | (refine Ext.trans ?_ (by with_reducible assumption))))) hlen us.hi (C_ext hr2 (by repeat (first | ((with_reducible refine Ext.set1 ?_ ?_); (first | (focus (simp; done)) | (focus (simp; omega)) | (focus omega))) | (with_reducible refine Ext.alloc ?_ _) | (with_reducible exact Ext.refl _) | (refine Ext.trans ?_ (by with_reducible assumption))))) hfew HP.out) ?_; rintro e w7 ⟨A7, c7, R, rfl, hR7, hRl, hRm, hb7⟩)
      | (go_at_call 23; refine Calls.mono (contains_at A5 c5 P.length P _ hC5 HPB.out HPL.out) ?_; rintro e w6 ⟨b3, bm, rfl, hf6, hb6⟩)
      | (go_at_call 15; refine Calls.mono (persistent_at g A c l L HL.out _ (C_ext hr (by repeat (first | ((with_reducible refine Ext.set1 ?_ ?_); (first | (focus (simp; done)) | (focus (simp; omega)) | (focus omega))) | (with_reducible refine Ext.alloc ?_ _) | (with_reducible exact Ext.refl _) | (refine Ext.trans ?_ (by with_reducible assumption))))) (by omega) us.hi) ?_; rw [Int.toNat_natCast, HPE.out]; rintro e w5 ⟨A5, c5, rfl, hM5, hb5⟩; obtain ⟨A9, c9, e9, _, hC5⟩ := hM5.C; cases e9)
      | (go_at_call 25; refine Calls.mono (cache_new g _) ?_; rintro e w4 ⟨q, F0, rfl, hca, hb4⟩; obtain ⟨j0, j1, j2⟩ := Blk.c3 (w := w4) (B := w.heap.size) (by repeat (first | (with_reducible assumption) | ((with_reducible refine Blk.new ?_); (first | (focus rfl) | (focus (simp; done)) | (focus omega))) | ((with_reducible refine Blk.set1 ?_ ?_); (focus omega)) | (with_reducible refine Blk.alloc ?_) | (refine Blk.ext ?_ (by with_reducible assumption)))))
      | (go_at_call 22; refine Calls.mono (usable_any (m : Int) W Ln A c l B d ch _ (C_ext hr (by repeat (first | ((with_reducible refine Ext.set1 ?_ ?_); (first | (focus (simp; done)) | (focus (simp; omega)) | (focus omega))) | (with_reducible refine Ext.alloc ?_ _) | (with_reducible exact Ext.refl _) | (refine Ext.trans ?_ (by with_reducible assumption))))) hc (C_ext hr2 (by repeat (first | ((with_reducible refine Ext.set1 ?_ ?_); (first | (focus (simp; done)) | (focus (simp; omega)) | (focus omega))) | (with_reducible refine Ext.alloc ?_ _) | (with_reducible exact Ext.refl _) | (refine Ext.trans ?_ (by with_reducible assumption))))) hc2) ?_; rintro e w2 ⟨rfl, hb2⟩; rw [HUS.out]; obtain ⟨d0, d1, d2⟩ := Blk.c3 (w := w2) (B := w.heap.size) (by repeat (first | (with_reducible assumption) | ((with_reducible refine Blk.new ?_); (first | (focus rfl) | (focus (simp; done)) | (focus omega))) | ((with_reducible refine Blk.set1 ?_ ?_); (focus omega)) | (with_reducible refine Blk.alloc ?_) | (refine Blk.ext ?_ (by with_reducible assumption)))))
      | (go_at_call 11; refine Calls.mono (awake_yes _) ?_; rintro e w1 ⟨rfl, hb1⟩; obtain ⟨a0, a1, a2⟩ := Blk.c3 (w := w1) (B := w.heap.size) (by repeat (first | (with_reducible assumption) | ((with_reducible refine Blk.new ?_); (first | (focus rfl) | (focus (simp; done)) | (focus omega))) | ((with_reducible refine Blk.set1 ?_ ?_); (focus omega)) | (with_reducible refine Blk.alloc ?_) | (refine Blk.ext ?_ (by with_reducible assumption))))))
    have kc : Blk w4 w.heap.size (.cells #[.int .i64 (m : Int), .int .i64 W, .int .i64 Ln] 23) := (by repeat (first | (with_reducible assumption) | ((with_reducible refine Blk.new ?_); (first | (focus rfl) | (focus (simp; done)) | (focus omega))) | ((with_reducible refine Blk.set1 ?_ ?_); (focus omega)) | (with_reducible refine Blk.alloc ?_) | (refine Blk.ext ?_ (by with_reducible assumption))))
    have hx4 : Ext w w4 := (by repeat (first | ((with_reducible refine Ext.set1 ?_ ?_); (first | (focus (simp; done)) | (focus (simp; omega)) | (focus omega))) | (with_reducible refine Ext.alloc ?_ _) | (with_reducible exact Ext.refl _) | (refine Ext.trans ?_ (by with_reducible assumption))))
    have hx7 : Ext w4 w7 := hb5.trans (hb6.trans (((Ext.refl w6).alloc _).trans hb7))
    have kc7 := kc.ext hx7
    have zca : CaB w7 w.heap.size q (m : Int) W Ln F0 (List.replicate (m : Int).toNat []) := (hca.ext hx7).lower (by have := hb2.size; have := hb1.size; simp at this; omega)
    have zf := (hf6.ext ((Ext.refl w6).alloc (.map #[] 0))).ext hb7
    have him7 : IMap w7 w6.heap.size 0 (once []) := ((IMap.made' rfl).congr (fun x => by simp [noF, once])).ext hb7
    have hR7' : RowB w7 (w6.heap.size + 1) (.slice A7 R.length c7) R := hR7.lower (by simp)
    have hdj0 : ∀ k, (Value.slice A7 R.length c7).ownBlock = some k → ¬ F0 k := fun k hk hF => by
      have h1 := (hR7'.lt k hk).1
      have h2 := hca.lt k hF
      have := hb5.size
      have := hb6.size
      omega
    have hxx7 := hx4.trans hx7
    have HRL : Hid (∀ x ∈ R, x ∈ L) := fun x hx => (HL.out.2 x).2 (hRm x hx)
    have hRl' : R.length ≤ 200 := by omega
    have hlt3 : b3 < w6.heap.size := hf6.lts.1
    have hltm : bm < w6.heap.size := hf6.lts.2
    have hqM : q < w6.heap.size := by have := hca.qlt.2; have := hb5.size; have := hb6.size; omega
    have hkM : w.heap.size < w6.heap.size := by have := kc.lt; have := hb5.size; have := hb6.size; omega
    have HD0 : Hid (Rows (m : Int) W (List.replicate (m : Int).toNat []) ∧ InL L (List.replicate (m : Int).toNat []) ∧ Held W m L [] (List.replicate (m : Int).toNat [])) := ⟨rows_empty hs1 hw1, inl_empty L _, fun x h => by cases h⟩
    clear hca hb1 hb2 hb4 hb5 hb6 hb7 hx7 hx4 kc hf6 hM5 hC5 hRm hRl a0 a1 a2 d0 d1 d2 j0 j1 j2 hR7
    obtain ⟨n, hn⟩ : ∃ n, R.length = n := ⟨_, rfl⟩
    rw [hn] at hR7' hdj0 hRl' ⊢
    have HN := Lib.hid hn
    clear hn
    go_loopw [36] (fun i wr => ∃ (j : Nat) (F : Nat → Prop) (rows : List (List Int)) (k : Nat) (K : List Int), i = .int .i64 j ∧ j ≤ n ∧ k ≤ j ∧ (CaB wr w.heap.size q (m : Int) W Ln F rows ∧ FunB wr w5.heap.size (.func (.func 34) #[] #[.pointer (some ⟨b3, 0, none⟩)]) b3 bm (fun x => decide (x ∈ P)) ∧ RowB wr (w6.heap.size + 1) (.slice A7 n c7) R ∧ (∀ k, (Value.slice A7 n c7).ownBlock = some k → ¬ F k) ∧ IMap wr w6.heap.size k (once K) ∧ Blk wr w.heap.size (.cells #[.int .i64 (m : Int), .int .i64 W, .int .i64 Ln] 23) ∧ Ext w wr) ∧
        Hid (K.length = k ∧ K.Nodup ∧ (∀ x ∈ K, x ∈ P) ∧ Rows (m : Int) W rows ∧ InL L rows ∧ Held W m L K rows)) (fun i _ => n - (Go.RowKit.intOf i).toNat)
    case atStart => exact ⟨0, F0, _, 0, [], rfl, Nat.zero_le _, Nat.le_refl _, ⟨zca, zf, hR7', hdj0, him7, kc7, hxx7⟩, ⟨rfl, List.nodup_nil, (fun x h => by cases h), HD0.out⟩⟩
    case round =>
      clear zca zf hR7' hdj0 kc7 hxx7 HD0 him7
      obtain ⟨j, F, rows, k, K, rfl, hj, hkj, ⟨ca, fb, rb, dj, him, kk, xx⟩, HD⟩ := hrel
      have hbw := xx.size
      by_cases hlt : j < n
      · obtain ⟨A9, c9, e9, _, hC⟩ := rb.C
        rw [HN.out] at e9 hC
        cases e9
        obtain ⟨ad, rfl, hcell⟩ := at_num hC j hlt
        have hjl : j < R.length := by rw [HN.out]; exact hlt
        have hxm : R.getD j 0 ∈ R := by
          rw [List.getD_eq_getElem?_getD, List.getElem?_eq_getElem hjl]
          exact List.getElem_mem _
        have hxL := HRL.out _ hxm
        clear hxm hjl hC
        obtain ⟨x, hx⟩ : ∃ x, R.getD j 0 = x := ⟨_, rfl⟩
        rw [hx] at hcell hxL
        clear hx
        have HXL := Lib.hid hxL
        obtain ⟨hx0, hx1⟩ := HL.out.lo hxL
        clear hxL
        obtain ⟨hX1, hX2, hX3⟩ := mul_fits (n := x) hx0 (by omega) hl1 hl16
        obtain ⟨X, hX⟩ : ∃ X, x * Ln = X := ⟨_, rfl⟩
        rw [hX] at hX1 hX2 hX3
        have HPX : Hid (x ∈ P ↔ perB W m L x = true) := by
          show x ∈ P ↔ _
          rw [← HPE.out]
          unfold pers
          rw [List.mem_filter]
          exact ⟨fun h => h.2, fun h => ⟨HXL.out, h⟩⟩
        obtain ⟨s0, s1, s2⟩ := kk.c3
        have HD2 : Hid (Rows (m : Int) W (cAcc (m : Int) W rows x) ∧ InL L (cAcc (m : Int) W rows x) ∧ Held W m L K (cAcc (m : Int) W rows x)) := ⟨HD.out.2.2.2.1.acc hs1 hw1 hx0, HD.out.2.2.2.2.1.acc hw1 HXL.out, held_acc hm0 hw1 HD.out.2.2.2.1 HD.out.2.2.2.2.1 HD.out.2.2.2.2.2 HXL.out hx0⟩
        by_cases hin : x ∈ rows.getD (x % (m : Int)).toNat []
        · go_wp2_with (go_at_call 27; refine Calls.mono (cache_access (base := w.heap.size) g ca HD.out.2.2.2.1 X hX1 hX2 hbw) ?_; rw [hX3, decide_eq_true hin]; rintro e w8 ⟨rfl, F8, hc8, hF8, hf8⟩)
          obtain ⟨es, clock, ho⟩ := him.obj
          refine ⟨⟨j + 1, F8, _, k, K, by go_num, by omega, by omega, ⟨hc8, fb.keep ca hf8, rb.fr hf8 dj, fun b hb hF => ?_, him.same (ca.keepMap hf8 ho), ca.keep hf8 kk (by decide) (by decide), xx.fr hf8 ca.fromB⟩, HD.out.1, HD.out.2.1, HD.out.2.2.1, HD2.out⟩, ?_⟩
          · rcases hF8 b hF with h | h
            · exact dj b hb h
            · have := (rb.lt b hb).2; omega
          · simp [Go.RowKit.intOf]
            omega
        · have hxK : ¬ x ∈ K := fun h => hin (HD.out.2.2.2.2.2 x h).2.2.2
          have HXK := Lib.hid hxK
          clear hxK
          obtain ⟨es, clock, ho⟩ := him.obj
          by_cases hxP : x ∈ P
          · go_wp2_with (first
              | (at_mapUpdate; refine wpList_store_im _ rfl _ _ _ rfl w6.heap.size k (once K) rfl him9 (by unfold maxLen; omega) x 1 rfl rfl (.of (by omega) (by omega)) (.of (by omega) (by omega)) ?_; intro w10 him10 hg10; have hl10 := him10.look1 (x := x) (.of (by omega) (by omega)) 1 (by simp [put]))
              | (go_at_call 34; refine Calls.mono (fun_at (fb.keep ca hf8) x hx0 (by omega) true (by simpa using hxP)) ?_; rintro e w9 ⟨rfl, hb9⟩; have him9 := (him.same (ca.keepMap hf8 ho)).ext hb9; have hl9 := him9.look1 (x := x) (.of (by omega) (by omega)) 0 (by unfold once; rw [if_neg HXK.out]; rfl))
              | (go_at_call 27; refine Calls.mono (cache_access (base := w.heap.size) g ca HD.out.2.2.2.1 X hX1 hX2 hbw) ?_; rw [hX3, decide_eq_false hin]; rintro e w8 ⟨rfl, F8, hc8, hF8, hf8⟩))
            have hfr : Fr (fun b => b = w6.heap.size) w9 w10 := ⟨hg10.os, hg10.tape, hg10.output, hg10.size, fun b hb hF => hg10.block b hb (fun e => hF (Option.some.inj e))⟩
            obtain ⟨es9, clock9, ho9⟩ := him9.obj
            have hnF : ¬ F8 w6.heap.size := (hc8.ext hb9).out (o := .map es9 clock9) ho9 (fun cs => ⟨(by intro e; cases e), (by intro e; cases e)⟩)
            refine ⟨⟨j + 1, F8, _, k + 1, K ++ [x], by go_num, by omega, by omega, ⟨(hc8.ext hb9).fr hfr (fun b hF e => hnF (e ▸ hF)) (by omega), ((fb.keep ca hf8).ext hb9).fr hfr (by omega) (by omega), ((rb.fr hf8 dj).ext hb9).fr hfr (fun b hb e => by have := (rb.lt b hb).1; omega), fun b hb hF => ?_, him10.congr (once_put K x), ((ca.keep hf8 kk (by decide) (by decide)).ext hb9).fr hfr (by omega), ((xx.fr hf8 ca.fromB).trans hb9).fr hfr (fun b e => by omega)⟩, ?_, ?_, fun y hy => ?_, HD2.out.1, HD2.out.2.1, fun y hy => ?_⟩, ?_⟩
            · rcases hF8 b hF with h | h
              · exact dj b hb h
              · have := (rb.lt b hb).2; omega
            · rw [List.length_append, HD.out.1]; rfl
            · exact List.nodup_append.2 ⟨HD.out.2.1, by simp, fun a ha b hb e => by
                simp at hb
                subst hb
                subst e
                exact HXK.out ha⟩
            · rcases List.mem_append.1 hy with hy | hy
              · exact HD.out.2.2.1 y hy
              · simp at hy
                subst hy
                exact hxP
            · rcases List.mem_append.1 hy with hy | hy
              · exact HD2.out.2.2 y hy
              · simp at hy
                subst hy
                exact ⟨hx0, hx1, HPX.out.1 hxP, acc_in hm0 hw1 HD.out.2.2.2.1 y⟩
            · simp [Go.RowKit.intOf]
              omega
          · go_wp2_with (first
              | (go_at_call 34; refine Calls.mono (fun_at (fb.keep ca hf8) x hx0 (by omega) false (by simpa using hxP)) ?_; rintro e w9 ⟨rfl, hb9⟩)
              | (go_at_call 27; refine Calls.mono (cache_access (base := w.heap.size) g ca HD.out.2.2.2.1 X hX1 hX2 hbw) ?_; rw [hX3, decide_eq_false hin]; rintro e w8 ⟨rfl, F8, hc8, hF8, hf8⟩))
            refine ⟨⟨j + 1, F8, _, k, K, by go_num, by omega, by omega, ⟨hc8.ext hb9, (fb.keep ca hf8).ext hb9, (rb.fr hf8 dj).ext hb9, fun b hb hF => ?_, (him.same (ca.keepMap hf8 ho)).ext hb9, (ca.keep hf8 kk (by decide) (by decide)).ext hb9, (xx.fr hf8 ca.fromB).trans hb9⟩, HD.out.1, HD.out.2.1, HD.out.2.2.1, HD2.out⟩, ?_⟩
            · rcases hF8 b hF with h | h
              · exact dj b hb h
              · have := (rb.lt b hb).2; omega
            · simp [Go.RowKit.intOf]
              omega
      · obtain rfl : j = n := by omega
        have hkP : k ≤ P.length := by rw [← HD.out.1]; exact len_sub HD.out.2.1 HD.out.2.2.1
        obtain ⟨N, hN⟩ : ∃ N, P.length = N := ⟨_, rfl⟩
        rw [hN] at hmis hkP
        clear hN
        obtain ⟨Z, hZ, hlen⟩ := him.len1
        obtain ⟨s0, s1, s2⟩ := kk.c3
        go_wp2_with (go_at_call 16; refine Calls.mono (hmis _ xx) ?_; rintro e w9 ⟨rfl, hb9⟩)
        go_ret
        exact ⟨by simp; omega, xx.trans hb9⟩
end Go.Proofs.Ytdbgnniedcibeaa
