/- The walk of ontimelaw30.MustBounds. -/
import Derived.Test.YtaekkfgggmighaaMuS
import Derived.Test.YtaekkfgggmighaaOpenM
import Derived.BigQuiet
namespace Go.Proofs.Ytaekkfgggmighaa
open Go.RowKit Go.Maps Go.BigFrame Go.Proofs.YtaekkfgggmighaaW.PrintWords Go.Proofs.Ytaekkfgggmighaa.Pgreat
set_option linter.unusedVariables false

theorem Holds1.C {w : World} {base : Nat} {v : Value} {K : List Int} (h : Holds1 w base v K) : ∃ A c, v = .slice A K.length c ∧ K.length ≤ c ∧ c ≤ maxLen ∧ KI.C w A K.length K := by
  rcases h.1.2 with ⟨rfl, h0⟩ | ⟨g, cap, cur, rfl, _, hg, hle, hm, _, _⟩
  · obtain rfl : K = [] := List.eq_nil_of_length_eq_zero h0
    exact ⟨none, 0, rfl, Nat.le_refl _, Nat.zero_le _, Kd.C_nil _ _⟩
  · refine ⟨some ⟨g, 0, none⟩, cap, rfl, hle, hm, rfl, by unfold maxLen at hm; omega, fun _ => ⟨_, rfl, fun j q hj => ⟨[.int .i64 q], rfl, rfl, fun i u hu => ?_⟩⟩⟩
    cases i with
    | succ _ => cases hu
    | zero =>
      cases hu
      have hjl : j < K.length := (List.getElem?_eq_some_iff.1 hj).1
      have := h.1.cells (g := g) rfl j (.int .i64 q) (by rw [List.getElem?_map, hj]; rfl)
      show w.cell? (Addr.add ⟨g, 0, none⟩ (j * 1 + 0)) = _
      rw [Nat.mul_one, Nat.add_zero]
      exact this
/-- What an access of x does to the bound of y. -/
theorem acc_cases {S W : Int} {f : FM} {x y a : Int} (hf : f y = some a) :
    (y % S ≠ x % S ∧ y ≠ x ∧ uAcc S W f x y = some a) ∨ (y % S = x % S ∧ (uAcc S W f x y = none ∨ (y = x ∧ uAcc S W f x y = some 0) ∨ (y ≠ x ∧ (uAcc S W f x y = some a ∨ uAcc S W f x y = some (a + 1))))) := by
  by_cases hyx : y = x
  · subst hyx
    refine .inr ⟨rfl, .inr (.inl ⟨rfl, ?_⟩)⟩
    unfold uAcc put
    rw [if_pos rfl]
  · have e : uAcc S W f x y = mUp W (accM S x ((f x).getD W)) f y := by
      unfold uAcc put
      rw [if_neg hyx]
    by_cases hs : y % S = x % S
    · refine .inr ⟨hs, ?_⟩
      cases hm : accM S x ((f x).getD W) y a with
      | true =>
        by_cases hc : a + 1 < W
        · rw [e, mUp_up hf hm hc]
          exact .inr (.inr ⟨hyx, .inr rfl⟩)
        · rw [e, mUp_out hf hm hc]
          exact .inl rfl
      | false =>
        rw [e, mUp_keep hf hm]
        exact .inr (.inr ⟨hyx, .inl rfl⟩)
    · refine .inl ⟨hs, hyx, ?_⟩
      have hm : accM S x ((f x).getD W) y a = false := by unfold accM; simp [hs]
      rw [e, mUp_keep hf hm]
theorem range_98 {S W L : Int} (g : Geo S W L) (p : Option Nat) (w : World) :
    Calls Try.prog 32 #[.agg #[.int .i64 S, .int .i64 W, .int .i64 L, .map p], .int .i64 9, .int .i64 8] w fun e w' => e = .returned (.agg #[.int .i64 S, .int .i64 W, .int .i64 L, .map p]) ∧ Ext w w' := by
  have hm : max (9 : Int) 0 = 9 := by omega
  go_enter Try.func32, Try.ntmps32
  go_wp2_with (first
    | (go_at_call 41; refine Calls.mono (must_zero_no g p _) ?_; rintro e w1 ⟨rfl, hb1⟩; have hz1 := hb1.size; simp at hz1
       have q1 : w.heap.size < w1.heap.size := (by omega); have q1b : w.heap.size + 1 < w1.heap.size := (by omega); have q1c : w.heap.size + 1 + 1 < w1.heap.size := (by omega); have q1d : w.heap.size + 1 + 1 + 1 < w1.heap.size := (by omega)
       have ks : Blk w1 w.heap.size (.cells #[.int .i64 S, .int .i64 W, .int .i64 L, .map p] 28) := (by exact (by repeat (first | (with_reducible assumption) | ((with_reducible refine Blk.new ?_); (first | (focus rfl) | (focus (simp; done)) | (focus omega))) | (with_reducible apply Blk.put4) | (with_reducible apply Blk.put1) | ((with_reducible refine Blk.far4 ?_ ?_); (focus omega)) | ((with_reducible refine Blk.set1 ?_ ?_); (focus omega)) | (with_reducible refine Blk.alloc ?_) | (with_reducible refine Blk.drew ?_) | (refine Blk.ext ?_ (by with_reducible assumption)))))
       have kl : Blk w1 (w.heap.size + 1) (.cells #[.int .i64 9] 3) := (by exact (by repeat (first | (with_reducible assumption) | ((with_reducible refine Blk.new ?_); (first | (focus rfl) | (focus (simp; done)) | (focus omega))) | (with_reducible apply Blk.put4) | (with_reducible apply Blk.put1) | ((with_reducible refine Blk.far4 ?_ ?_); (focus omega)) | ((with_reducible refine Blk.set1 ?_ ?_); (focus omega)) | (with_reducible refine Blk.alloc ?_) | (with_reducible refine Blk.drew ?_) | (refine Blk.ext ?_ (by with_reducible assumption)))))
       have kh : Blk w1 (w.heap.size + 1 + 1) (.cells #[.int .i64 8] 3) := (by exact (by repeat (first | (with_reducible assumption) | ((with_reducible refine Blk.new ?_); (first | (focus rfl) | (focus (simp; done)) | (focus omega))) | (with_reducible apply Blk.put4) | (with_reducible apply Blk.put1) | ((with_reducible refine Blk.far4 ?_ ?_); (focus omega)) | ((with_reducible refine Blk.set1 ?_ ?_); (focus omega)) | (with_reducible refine Blk.alloc ?_) | (with_reducible refine Blk.drew ?_) | (refine Blk.ext ?_ (by with_reducible assumption)))))
       have kr : Blk w1 (w.heap.size + 1 + 1 + 1) (.cells #[.int .i64 0, .int .i64 0, .int .i64 0, .map none] 28) := (by exact (by repeat (first | (with_reducible assumption) | ((with_reducible refine Blk.new ?_); (first | (focus rfl) | (focus (simp; done)) | (focus omega))) | (with_reducible apply Blk.put4) | (with_reducible apply Blk.put1) | ((with_reducible refine Blk.far4 ?_ ?_); (focus omega)) | ((with_reducible refine Blk.set1 ?_ ?_); (focus omega)) | (with_reducible refine Blk.alloc ?_) | (with_reducible refine Blk.drew ?_) | (refine Blk.ext ?_ (by with_reducible assumption)))))
       have hx1 : Ext w w1 := (by exact (by repeat (first | ((with_reducible refine Ext.set1 ?_ ?_); (first | (focus (simp; done)) | (focus (simp; omega)) | (focus omega))) | (with_reducible refine Ext.alloc ?_ _) | (with_reducible exact Ext.refl _) | (refine Ext.trans ?_ (by with_reducible assumption)))))
       obtain ⟨a0, a1, a2, a3⟩ := ks.c4; obtain ⟨b0, b1⟩ := kl.c1; obtain ⟨c0, c1⟩ := kh.c1; obtain ⟨e0, e1, e2, e3⟩ := kr.c4; obtain ⟨f0, f1, f2, f3⟩ := kr.f4))
  refine bodyPost_ret (v := .agg #[.int .i64 S, .int .i64 W, .int .i64 L, .map p]) ?_ rfl ⟨rfl, (by repeat (first | ((with_reducible refine Ext.set1 ?_ ?_); (first | (focus (simp; done)) | (focus (simp; omega)) | (focus omega))) | (with_reducible refine Ext.alloc ?_ _) | (with_reducible exact Ext.refl _) | (refine Ext.trans ?_ (by with_reducible assumption))))⟩
  simp [results, Try.results32, go_sem, e0, e1, e2, e3]
theorem nil_lines (S W L : Int) (w : World) :
    Calls Try.prog 28 #[.agg #[.int .i64 S, .int .i64 W, .int .i64 L, .map none]] w fun e w' => e = .returned (.slice none 0 0) ∧ Ext w w' :=
  (must_lines S W L none 0 noF w (.inl ⟨rfl, fun _ => rfl⟩) (by omega)).mono fun e w' ⟨v, K, ⟨he, hd, _⟩, hh, hb⟩ => by
    have hK : K = [] := hd.unique ⟨List.Pairwise.nil, fun x => by simp [noF]⟩
    have := hh.2.2 hK
    exact ⟨by rw [he, this], hb⟩
theorem self_equal {S W L : Int} (p : Option Nat) (n : Nat) (f : FM) (w : World) (h : IMapO w p n f) :
    Calls Try.prog 31 #[.agg #[.int .i64 S, .int .i64 W, .int .i64 L, .map p], .agg #[.int .i64 S, .int .i64 W, .int .i64 L, .map p]] w fun e w' => e = .returned (.bool true) ∧ Ext w w' :=
  (must_equal p p n n f f w h h).mono fun e w' h => h.yes fun _ => rfl

set_option maxHeartbeats 1000000 in
theorem bounds_no (S W L : Int) (A : Option Addr) (c : Nat) (l : List S37) (x : Int) (w : World) (hr : k37.C w A l.length l) (hc : l.length ≤ c) (hno : vldB S W L = false ∨ greatB l = true) :
    Calls Try.prog 5 #[.agg #[.int .i64 S, .int .i64 W, .int .i64 L], .slice A l.length c, .int .i64 x] w fun e w' => e = .returned (.bool true) ∧ Ext w w' := by
  have HNO : Hid (vldB S W L = false ∨ greatB l = true ∨ greatB [] = true) := by
    show _ ∨ _ ∨ _
    rcases hno with h | h
    · exact .inl h
    · exact .inr (.inl h)
  clear hno
  go_enter Try.func5, Try.ntmps5
  go_wp2_with (first
    | (go_at_call 12; refine Calls.mono (states_no A c l none 0 [] _ (C_ext hr (by exact (by repeat (first | ((with_reducible refine Ext.set1 ?_ ?_); (first | (focus (simp; done)) | (focus (simp; omega)) | (focus omega))) | (with_reducible refine Ext.alloc ?_ _) | (with_reducible exact Ext.refl _) | (refine Ext.trans ?_ (by with_reducible assumption)))))) hc (Kd.C_nil _ _) (Nat.le_refl _) HNO.out) ?_; rintro e w2 ⟨S', W', L', rfl, hb2⟩)
    | (go_at_call 11; refine Calls.mono (awake_yes _) ?_; rintro e w1 ⟨rfl, hb1⟩; obtain ⟨a0, a1, a2⟩ := Blk.c3 (w := w1) (B := w.heap.size) (by repeat (first | (with_reducible assumption) | ((with_reducible refine Blk.new ?_); (first | (focus rfl) | (focus (simp; done)) | (focus omega))) | ((with_reducible refine Blk.set1 ?_ ?_); (focus omega)) | (with_reducible refine Blk.alloc ?_) | (refine Blk.ext ?_ (by with_reducible assumption))))))
  go_ret
  exact ⟨rfl, (by repeat (first | ((with_reducible refine Ext.set1 ?_ ?_); (first | (focus (simp; done)) | (focus (simp; omega)) | (focus omega))) | (with_reducible refine Ext.alloc ?_ _) | (with_reducible exact Ext.refl _) | (refine Ext.trans ?_ (by with_reducible assumption))))⟩
set_option maxHeartbeats 1000000 in
theorem bounds_far {S W L : Int} (g : Geo S W L) (A : Option Addr) (c : Nat) (l : List S37) (x : Int) (w : World) (hr : k37.C w A l.length l) (hc : l.length ≤ c) (hg : greatB l = false) (hx : x < 0 ∨ 1000 < x) :
    Calls Try.prog 5 #[.agg #[.int .i64 S, .int .i64 W, .int .i64 L], .slice A l.length c, .int .i64 x] w fun e w' => e = .returned (.bool true) ∧ Ext w w' := by
  have HG := Lib.hid hg; clear hg
  have hdx : (decide (x < 0) || decide (1000 < x)) = true := by simpa using hx
  by_cases h0 : x < 0
  · go_enter Try.func5, Try.ntmps5
    go_wp2_with (first
      | (go_at_call 12; refine Calls.mono (states_yes g A c l none 0 [] _ (C_ext hr (by exact (by repeat (first | ((with_reducible refine Ext.set1 ?_ ?_); (first | (focus (simp; done)) | (focus (simp; omega)) | (focus omega))) | (with_reducible refine Ext.alloc ?_ _) | (with_reducible exact Ext.refl _) | (refine Ext.trans ?_ (by with_reducible assumption)))))) hc (Kd.C_nil _ _) (Nat.le_refl _) HG.out rfl) ?_; rintro e w2 ⟨p, q, rfl, hp, hq, hb2⟩)
      | (go_at_call 11; refine Calls.mono (awake_yes _) ?_; rintro e w1 ⟨rfl, hb1⟩; obtain ⟨a0, a1, a2⟩ := Blk.c3 (w := w1) (B := w.heap.size) (by repeat (first | (with_reducible assumption) | ((with_reducible refine Blk.new ?_); (first | (focus rfl) | (focus (simp; done)) | (focus omega))) | ((with_reducible refine Blk.set1 ?_ ?_); (focus omega)) | (with_reducible refine Blk.alloc ?_) | (refine Blk.ext ?_ (by with_reducible assumption))))))
    go_ret
    exact ⟨rfl, (by repeat (first | ((with_reducible refine Ext.set1 ?_ ?_); (first | (focus (simp; done)) | (focus (simp; omega)) | (focus omega))) | (with_reducible refine Ext.alloc ?_ _) | (with_reducible exact Ext.refl _) | (refine Ext.trans ?_ (by with_reducible assumption))))⟩
  · have h1 : 1000 < x := by omega
    go_enter Try.func5, Try.ntmps5
    go_wp2_with (first
      | (go_at_call 12; refine Calls.mono (states_yes g A c l none 0 [] _ (C_ext hr (by exact (by repeat (first | ((with_reducible refine Ext.set1 ?_ ?_); (first | (focus (simp; done)) | (focus (simp; omega)) | (focus omega))) | (with_reducible refine Ext.alloc ?_ _) | (with_reducible exact Ext.refl _) | (refine Ext.trans ?_ (by with_reducible assumption)))))) hc (Kd.C_nil _ _) (Nat.le_refl _) HG.out rfl) ?_; rintro e w2 ⟨p, q, rfl, hp, hq, hb2⟩)
      | (go_at_call 11; refine Calls.mono (awake_yes _) ?_; rintro e w1 ⟨rfl, hb1⟩; obtain ⟨a0, a1, a2⟩ := Blk.c3 (w := w1) (B := w.heap.size) (by repeat (first | (with_reducible assumption) | ((with_reducible refine Blk.new ?_); (first | (focus rfl) | (focus (simp; done)) | (focus omega))) | ((with_reducible refine Blk.set1 ?_ ?_); (focus omega)) | (with_reducible refine Blk.alloc ?_) | (refine Blk.ext ?_ (by with_reducible assumption))))))
    go_ret
    exact ⟨rfl, (by repeat (first | ((with_reducible refine Ext.set1 ?_ ?_); (first | (focus (simp; done)) | (focus (simp; omega)) | (focus omega))) | (with_reducible refine Ext.alloc ?_ _) | (with_reducible exact Ext.refl _) | (refine Ext.trans ?_ (by with_reducible assumption))))⟩

set_option maxRecDepth 10000 in
set_option maxHeartbeats 8000000 in
theorem bounds_walk (S W L : Int) (A : Option Addr) (c : Nat) (l : List S37) (x : Int) (w : World) (hr : k37.C w A l.length l) (hc : l.length ≤ c) (hp2 : ∀ x ∈ l, 0 ≤ x.f2 ∧ x.f2 ≤ 255) (hwx : I64 x) :
    Calls Try.prog 5 #[.agg #[.int .i64 S, .int .i64 W, .int .i64 L], .slice A l.length c, .int .i64 x] w fun e w' => e = .returned (.bool true) ∧ Ext w w' := by
  clear hp2
  by_cases hno : vldB S W L = false ∨ greatB l = true
  · exact bounds_no S W L A c l x w hr hc hno
  have hv : vldB S W L = true := by
    cases h : vldB S W L with
    | false => exact absurd (.inl h) hno
    | true => rfl
  have hg : greatB l = false := by
    cases h : greatB l with
    | false => rfl
    | true => exact absurd (.inr h) hno
  clear hno
  have g := (vld_iff _ _ _).1 hv
  clear hv
  by_cases hx : x < 0 ∨ 1000 < x
  · exact bounds_far g A c l x w hr hc hg hx
  have hx0 : 0 ≤ x := by omega
  have hx1 : x ≤ 1000 := by omega
  clear hx
  have hl100 := (great_no hg).1
  have hsts := fun w h => states_yes g A c l none 0 [] w h hc (Kd.C_nil _ _) (Nat.le_refl _) hg rfl
  clear hg
  obtain ⟨n, hn⟩ : ∃ n, l.length = n := ⟨_, rfl⟩
  rw [hn] at hr hc hl100 hsts ⊢
  clear hn
  obtain ⟨f, hf⟩ : ∃ f, uDos S W l = f := ⟨_, rfl⟩
  rw [hf] at hsts
  clear hf
  have gw := g.w1
  have gs := g.s1
  have gw8 := g.w8
  have HACC : Hid (uAcc S W f x x = some 0) := by
    show _ = _
    unfold uAcc put
    rw [if_pos rfl]
  go_enter Try.func5, Try.ntmps5
  go_wp2_with (first
    | (go_at_call 28; refine Calls.mono (must_lines S W L p _ f _ (hp4.ext hb4).1 (by omega)) ?_; rintro e w5 ⟨v5, K, ⟨rfl, hdom, hkl⟩, hh, hb5⟩; obtain ⟨A5, c5, rfl, hc5, hmx5, hK⟩ := hh.C; have HDOM := Lib.hid hdom; clear hdom hh)
    | (go_at_call 25; refine Calls.mono (age_mb x p3 _ _ _ (hp3.alloc _) (.of (by omega) (by omega)) 0 true (by rw [HACC.out]; rfl) (by rw [HACC.out]; rfl)) ?_; rintro e w4 ⟨rfl, hb4⟩; have kt := (Blk.new (w := w3) (o := mustO S W L p3) rfl).ext hb4; have k7 : Blk w4 w2.heap.size (mustO S W L p) := (by exact (by repeat (first | (with_reducible assumption) | ((with_reducible refine Blk.new ?_); (first | (focus rfl) | (focus (simp; done)) | (focus omega))) | (with_reducible apply Blk.put4) | (with_reducible apply Blk.put1) | ((with_reducible refine Blk.far4 ?_ ?_); (focus omega)) | ((with_reducible refine Blk.set1 ?_ ?_); (focus omega)) | (with_reducible refine Blk.alloc ?_) | (with_reducible refine Blk.drew ?_) | (refine Blk.ext ?_ (by with_reducible assumption))))); have hp4 : MB (w3.alloc (mustO S W L p3)) W n f p := hpx.alloc _; obtain ⟨d0, d1, d2, d3⟩ := k7.c4)
    | (go_at_call 27; refine Calls.mono (must_access g x hx0 (by omega) p n f _ (hp.ext (by repeat (first | ((with_reducible refine Ext.set1 ?_ ?_); (first | (focus (simp; done)) | (focus (simp; omega)) | (focus omega))) | (with_reducible refine Ext.alloc ?_ _) | (with_reducible exact Ext.refl _) | (refine Ext.trans ?_ (by with_reducible assumption))))) (by omega)) ?_; rintro e w3 ⟨p3, rfl, hp3, hb3⟩; have hpx : MB w3 W n f p := hp.ext (by exact (by repeat (first | ((with_reducible refine Ext.set1 ?_ ?_); (first | (focus (simp; done)) | (focus (simp; omega)) | (focus omega))) | (with_reducible refine Ext.alloc ?_ _) | (with_reducible exact Ext.refl _) | (refine Ext.trans ?_ (by with_reducible assumption))))); have q3 : w2.heap.size < w3.heap.size := (by have := hb3.size; simp at this; omega))
    | (go_at_call 12; refine Calls.mono (hsts _ (C_ext hr (by exact (by repeat (first | ((with_reducible refine Ext.set1 ?_ ?_); (first | (focus (simp; done)) | (focus (simp; omega)) | (focus omega))) | (with_reducible refine Ext.alloc ?_ _) | (with_reducible exact Ext.refl _) | (refine Ext.trans ?_ (by with_reducible assumption))))))) ?_; rintro e w2 ⟨p, q, rfl, hp, hq, hb2⟩; have q2 : w.heap.size < w2.heap.size := (by have := hb2.size; have := hb1.size; simp at this; omega))
    | (go_at_call 11; refine Calls.mono (awake_yes _) ?_; rintro e w1 ⟨rfl, hb1⟩; obtain ⟨a0, a1, a2⟩ := Blk.c3 (w := w1) (B := w.heap.size) (by repeat (first | (with_reducible assumption) | ((with_reducible refine Blk.new ?_); (first | (focus rfl) | (focus (simp; done)) | (focus omega))) | ((with_reducible refine Blk.set1 ?_ ?_); (focus omega)) | (with_reducible refine Blk.alloc ?_) | (refine Blk.ext ?_ (by with_reducible assumption))))))
  have kt5 := kt.ext hb5
  have k75 := k7.ext hb5
  have kc5 : Blk w5 w.heap.size (.cells #[.int .i64 S, .int .i64 W, .int .i64 L] 23) := (by repeat (first | (with_reducible assumption) | ((with_reducible refine Blk.new ?_); (first | (focus rfl) | (focus (simp; done)) | (focus omega))) | (with_reducible apply Blk.put4) | (with_reducible apply Blk.put1) | ((with_reducible refine Blk.far4 ?_ ?_); (focus omega)) | ((with_reducible refine Blk.set1 ?_ ?_); (focus omega)) | (with_reducible refine Blk.alloc ?_) | (with_reducible refine Blk.drew ?_) | (refine Blk.ext ?_ (by with_reducible assumption))))
  have hp5 : MB w5 W n f p := (hp4.ext hb4).ext hb5
  have hp35 : MB w5 W (n + 1) (uAcc S W f x) p3 := ((hp3.alloc _).ext hb4).ext hb5
  have hx5 : Ext w w5 := (by repeat (first | ((with_reducible refine Ext.set1 ?_ ?_); (first | (focus (simp; done)) | (focus (simp; omega)) | (focus omega))) | (with_reducible refine Ext.alloc ?_ _) | (with_reducible exact Ext.refl _) | (refine Ext.trans ?_ (by with_reducible assumption))))
  clear hb1 hb2 hb3 hb4 hb5 hp hq hp3 hp4 hpx kt k7 a0 a1 a2 d0 d1 d2 d3 hsts
  obtain ⟨kl, hkl'⟩ : ∃ kl, K.length = kl := ⟨_, rfl⟩
  rw [hkl'] at hc5 hK hkl ⊢
  have HKL := Lib.hid hkl'
  clear hkl'
  have hm0 := Int.emod_nonneg x (show S ≠ 0 by omega)
  have hsetx := fun w' => set_yes g x hx0 w'
  go_loopw [56] (fun i wz => ∃ j : Nat, i = .int .i64 j ∧ j ≤ kl ∧ Ext w5 wz) (fun i _ => kl - (Go.RowKit.intOf i).toNat)
  case atStart => exact ⟨0, rfl, Nat.zero_le _, Ext.refl _⟩
  case round =>
    obtain ⟨j, rfl, hj, hek⟩ := hrel
    have yt := kt5.ext hek
    have y7 := k75.ext hek
    have yc := kc5.ext hek
    have yp := hp5.ext hek
    have yp3 := hp35.ext hek
    by_cases hkk : j < kl
    · obtain ⟨ad, rfl, hcell⟩ := at_num (C_ext hK hek) j hkk
      have hym : K.getD j 0 ∈ K := by rw [List.getD_eq_getElem?_getD, List.getElem?_eq_getElem (by rw [HKL.out]; exact hkk)]; exact List.getElem_mem _
      obtain ⟨a, hfy⟩ := Option.isSome_iff_exists.1 ((HDOM.out.2 _).1 hym)
      obtain ⟨y, hy⟩ : ∃ y, K.getD j 0 = y := ⟨_, rfl⟩
      rw [hy] at hcell hfy
      clear hy hym
      obtain ⟨hy0, ha0, haW⟩ := hp5.2 y a hfy
      have hyI := (hp5.1.dom hfy).1.lo
      have hcs := acc_cases (S := S) (W := W) (x := x) hfy
      have HFY := Lib.hid hfy
      clear hfy
      have hset1' := fun w' => set_yes g y hy0 w'
      obtain ⟨ys, hys⟩ : ∃ ys, y % S = ys := ⟨_, rfl⟩
      obtain ⟨xs, hxs⟩ : ∃ xs, x % S = xs := ⟨_, rfl⟩
      have hset1 : ∀ w', Calls Try.prog 29 #[.agg #[.int .i64 S, .int .i64 W, .int .i64 L], .int .i64 y] w' fun e w'' => e = .returned (.int .i64 ys) ∧ Ext w' w'' := fun w' => by rw [← hys]; exact hset1' w'
      have hset2 : ∀ w', Calls Try.prog 29 #[.agg #[.int .i64 S, .int .i64 W, .int .i64 L], .int .i64 x] w' fun e w'' => e = .returned (.int .i64 xs) ∧ Ext w' w'' := fun w' => by rw [← hxs]; exact hsetx w'
      rw [hys, hxs] at hcs
      clear hset1' hys hxs
      have hd1 : decide (a < 0) = false := by simp; omega
      have hd2 : decide (W ≤ a) = false := by simp; omega
      obtain ⟨t0, t1, t2, t3⟩ := y7.c4
      rcases hcs with ⟨hne, hyx, hft⟩ | ⟨he, hft | ⟨hyx, hft⟩ | ⟨hyx, hft | hft⟩⟩
      · have HFT := Lib.hid hft
        clear hft
        have hdn : (ys == xs) = false := by simpa using hne
        have hdn2 : (ys != xs) = true := by simpa using hne
        have hdx : (y == x) = false := by simpa using hyx
        have hdx2 : (y != x) = true := by simpa using hyx
        go_wp2_with (first
          | (have gq := hb41; clear gq; go_at_call 25; refine Calls.mono (age_mb y p3 _ _ _ (yp3.ext hb41) (.of (by omega) (by omega)) a true (by rw [HFT.out]; rfl) (by rw [HFT.out]; rfl)) ?_; rintro e w42 ⟨rfl, hb42⟩)
          | (go_at_call 25; refine Calls.mono (age_mb y p n f _ yp (.of (by omega) (by omega)) a true (by rw [HFY.out]; rfl) (by rw [HFY.out]; rfl)) ?_; rintro e w41 ⟨rfl, hb41⟩; obtain ⟨t0, t1, t2, t3⟩ := (yt.ext hb41).c4))
        have hE41 := hek.trans (hb41.trans hb42)
        have zc := yc.ext (hb41.trans hb42)
        have z7 := y7.ext (hb41.trans hb42)
        clear yp yp3 HFT HFY y7 yt yc t0 t1 t2 t3 hb41 hb42 hcell hsetx hK
        refine wp_region_m (by kernel_rfl) ?_
        repeat (
          first
            | go_big_quiet_skip
            | (go_big_quiet_want
               go_big_quiet_op
               first
                 | go_big_quiet_on
                 | (apply Exists.intro
                    refine ⟨fun w' hw' => ?_, ?_⟩
                    · (first
                      | (go_at_call 29; (with_reducible refine Calls.mono (hset1 w') ?_); rintro e w'' ⟨rfl, hx⟩; exact ⟨rfl, hw'.trans hx⟩)
                      | (go_at_call 29; (with_reducible refine Calls.mono (hset2 w') ?_); rintro e w'' ⟨rfl, hx⟩; exact ⟨rfl, hw'.trans hx⟩)
                      | (obtain ⟨q0, q1, q2⟩ := (zc.ext hw').c3; go_simp; rfl)
                      | (obtain ⟨q0, q1, q2, q3⟩ := (z7.ext hw').c4; go_simp; rfl))
                    go_big_quiet_on)))
        refine wpQuiet_nil ?_
        intro w7 hb7
        go_wp2
        refine ⟨⟨j + 1, by go_num, by omega, hE41.trans hb7⟩, ?_⟩
        simp [Go.RowKit.intOf]
        omega
      · have HFT := Lib.hid hft
        clear hft
        subst he
        go_wp2_with (first
          | (have gq := hb41; clear gq; go_at_call 25; refine Calls.mono (age_mb y p3 _ _ _ (yp3.ext hb41) (.of (by omega) (by omega)) 0 false (by rw [HFT.out]; rfl) (by rw [HFT.out]; rfl)) ?_; rintro e w42 ⟨rfl, hb42⟩)
          | (go_at_call 25; refine Calls.mono (age_mb y p n f _ yp (.of (by omega) (by omega)) a true (by rw [HFY.out]; rfl) (by rw [HFY.out]; rfl)) ?_; rintro e w41 ⟨rfl, hb41⟩; obtain ⟨t0, t1, t2, t3⟩ := (yt.ext hb41).c4))
        have hE41 := hek.trans (hb41.trans hb42)
        have zc := yc.ext (hb41.trans hb42)
        have z7 := y7.ext (hb41.trans hb42)
        clear yp yp3 HFT HFY y7 yt yc t0 t1 t2 t3 hb41 hb42 hcell hsetx hK
        refine wp_region_m (by kernel_rfl) ?_
        repeat (
          first
            | go_big_quiet_skip
            | (go_big_quiet_want
               go_big_quiet_op
               first
                 | go_big_quiet_on
                 | (apply Exists.intro
                    refine ⟨fun w' hw' => ?_, ?_⟩
                    · (first
                      | (go_at_call 29; (with_reducible refine Calls.mono (hset1 w') ?_); rintro e w'' ⟨rfl, hx⟩; exact ⟨rfl, hw'.trans hx⟩)
                      | (go_at_call 29; (with_reducible refine Calls.mono (hset2 w') ?_); rintro e w'' ⟨rfl, hx⟩; exact ⟨rfl, hw'.trans hx⟩)
                      | (obtain ⟨q0, q1, q2⟩ := (zc.ext hw').c3; go_simp; rfl)
                      | (obtain ⟨q0, q1, q2, q3⟩ := (z7.ext hw').c4; go_simp; rfl))
                    go_big_quiet_on)))
        refine wpQuiet_nil ?_
        intro w7 hb7
        go_wp2
        refine ⟨⟨j + 1, by go_num, by omega, hE41.trans hb7⟩, ?_⟩
        simp [Go.RowKit.intOf]
        omega
      · have HFT := Lib.hid hft
        clear hft
        subst he
        subst hyx
        go_wp2_with (first
          | (have gq := hb41; clear gq; go_at_call 25; refine Calls.mono (age_mb y p3 _ _ _ (yp3.ext hb41) (.of (by omega) (by omega)) 0 true (by rw [HFT.out]; rfl) (by rw [HFT.out]; rfl)) ?_; rintro e w42 ⟨rfl, hb42⟩)
          | (go_at_call 25; refine Calls.mono (age_mb y p n f _ yp (.of (by omega) (by omega)) a true (by rw [HFY.out]; rfl) (by rw [HFY.out]; rfl)) ?_; rintro e w41 ⟨rfl, hb41⟩; obtain ⟨t0, t1, t2, t3⟩ := (yt.ext hb41).c4))
        have hE41 := hek.trans (hb41.trans hb42)
        have zc := yc.ext (hb41.trans hb42)
        have z7 := y7.ext (hb41.trans hb42)
        clear yp yp3 HFT HFY y7 yt yc t0 t1 t2 t3 hb41 hb42 hcell hsetx hK
        refine wp_region_m (by kernel_rfl) ?_
        repeat (
          first
            | go_big_quiet_skip
            | (go_big_quiet_want
               go_big_quiet_op
               first
                 | go_big_quiet_on
                 | (apply Exists.intro
                    refine ⟨fun w' hw' => ?_, ?_⟩
                    · (first
                      | (go_at_call 29; (with_reducible refine Calls.mono (hset1 w') ?_); rintro e w'' ⟨rfl, hx⟩; exact ⟨rfl, hw'.trans hx⟩)
                      | (go_at_call 29; (with_reducible refine Calls.mono (hset2 w') ?_); rintro e w'' ⟨rfl, hx⟩; exact ⟨rfl, hw'.trans hx⟩)
                      | (obtain ⟨q0, q1, q2⟩ := (zc.ext hw').c3; go_simp; rfl)
                      | (obtain ⟨q0, q1, q2, q3⟩ := (z7.ext hw').c4; go_simp; rfl))
                    go_big_quiet_on)))
        refine wpQuiet_nil ?_
        intro w7 hb7
        go_wp2
        refine ⟨⟨j + 1, by go_num, by omega, hE41.trans hb7⟩, ?_⟩
        simp [Go.RowKit.intOf]
        omega
      · have HFT := Lib.hid hft
        clear hft
        subst he
        have hdx : (y == x) = false := by simpa using hyx
        have hdx2 : (y != x) = true := by simpa using hyx
        go_wp2_with (first
          | (have gq := hb41; clear gq; go_at_call 25; refine Calls.mono (age_mb y p3 _ _ _ (yp3.ext hb41) (.of (by omega) (by omega)) a true (by rw [HFT.out]; rfl) (by rw [HFT.out]; rfl)) ?_; rintro e w42 ⟨rfl, hb42⟩)
          | (go_at_call 25; refine Calls.mono (age_mb y p n f _ yp (.of (by omega) (by omega)) a true (by rw [HFY.out]; rfl) (by rw [HFY.out]; rfl)) ?_; rintro e w41 ⟨rfl, hb41⟩; obtain ⟨t0, t1, t2, t3⟩ := (yt.ext hb41).c4))
        have hE41 := hek.trans (hb41.trans hb42)
        have zc := yc.ext (hb41.trans hb42)
        have z7 := y7.ext (hb41.trans hb42)
        clear yp yp3 HFT HFY y7 yt yc t0 t1 t2 t3 hb41 hb42 hcell hsetx hK
        refine wp_region_m (by kernel_rfl) ?_
        repeat (
          first
            | go_big_quiet_skip
            | (go_big_quiet_want
               go_big_quiet_op
               first
                 | go_big_quiet_on
                 | (apply Exists.intro
                    refine ⟨fun w' hw' => ?_, ?_⟩
                    · (first
                      | (go_at_call 29; (with_reducible refine Calls.mono (hset1 w') ?_); rintro e w'' ⟨rfl, hx⟩; exact ⟨rfl, hw'.trans hx⟩)
                      | (go_at_call 29; (with_reducible refine Calls.mono (hset2 w') ?_); rintro e w'' ⟨rfl, hx⟩; exact ⟨rfl, hw'.trans hx⟩)
                      | (obtain ⟨q0, q1, q2⟩ := (zc.ext hw').c3; go_simp; rfl)
                      | (obtain ⟨q0, q1, q2, q3⟩ := (z7.ext hw').c4; go_simp; rfl))
                    go_big_quiet_on)))
        refine wpQuiet_nil ?_
        intro w7 hb7
        go_wp2
        refine ⟨⟨j + 1, by go_num, by omega, hE41.trans hb7⟩, ?_⟩
        simp [Go.RowKit.intOf]
        omega
      · have HFT := Lib.hid hft
        clear hft
        subst he
        have hdx : (y == x) = false := by simpa using hyx
        have hdx2 : (y != x) = true := by simpa using hyx
        have hda : (a + 1 == a) = false := by simp; omega
        have hda2 : (a + 1 != a) = true := by simp; omega
        go_wp2_with (first
          | (have gq := hb41; clear gq; go_at_call 25; refine Calls.mono (age_mb y p3 _ _ _ (yp3.ext hb41) (.of (by omega) (by omega)) (a + 1) true (by rw [HFT.out]; rfl) (by rw [HFT.out]; rfl)) ?_; rintro e w42 ⟨rfl, hb42⟩)
          | (go_at_call 25; refine Calls.mono (age_mb y p n f _ yp (.of (by omega) (by omega)) a true (by rw [HFY.out]; rfl) (by rw [HFY.out]; rfl)) ?_; rintro e w41 ⟨rfl, hb41⟩; obtain ⟨t0, t1, t2, t3⟩ := (yt.ext hb41).c4))
        have hE41 := hek.trans (hb41.trans hb42)
        have zc := yc.ext (hb41.trans hb42)
        have z7 := y7.ext (hb41.trans hb42)
        clear yp yp3 HFT HFY y7 yt yc t0 t1 t2 t3 hb41 hb42 hcell hsetx hK
        refine wp_region_m (by kernel_rfl) ?_
        repeat (
          first
            | go_big_quiet_skip
            | (go_big_quiet_want
               go_big_quiet_op
               first
                 | go_big_quiet_on
                 | (apply Exists.intro
                    refine ⟨fun w' hw' => ?_, ?_⟩
                    · (first
                      | (go_at_call 29; (with_reducible refine Calls.mono (hset1 w') ?_); rintro e w'' ⟨rfl, hx⟩; exact ⟨rfl, hw'.trans hx⟩)
                      | (go_at_call 29; (with_reducible refine Calls.mono (hset2 w') ?_); rintro e w'' ⟨rfl, hx⟩; exact ⟨rfl, hw'.trans hx⟩)
                      | (obtain ⟨q0, q1, q2⟩ := (zc.ext hw').c3; go_simp; rfl)
                      | (obtain ⟨q0, q1, q2, q3⟩ := (z7.ext hw').c4; go_simp; rfl))
                    go_big_quiet_on)))
        refine wpQuiet_nil ?_
        intro w7 hb7
        go_wp2
        refine ⟨⟨j + 1, by go_num, by omega, hE41.trans hb7⟩, ?_⟩
        simp [Go.RowKit.intOf]
        omega
    · obtain rfl : j = kl := by omega
      obtain ⟨t0, t1, t2, t3⟩ := y7.c4
      go_wp2
      refine wp_region_m (by kernel_rfl) ?_
      repeat (
        first
          | go_big_quiet_skip
          | (go_big_quiet_want
             go_big_quiet_op
             first
               | go_big_quiet_on
               | (apply Exists.intro
                  refine ⟨fun w' hw' => ?_, ?_⟩
                  · (first
                    | (go_at_call 30; refine Calls.mono (must_forget S W L p w') ?_; rintro e w'' ⟨rfl, hx⟩; exact ⟨rfl, hw'.trans hx⟩)
                    | (go_at_call 28; refine Calls.mono (nil_lines S W L w') ?_; rintro e w'' ⟨rfl, hx⟩; exact ⟨rfl, hw'.trans hx⟩)
                    | (go_at_call 32; refine Calls.mono (range_98 g p w') ?_; rintro e w'' ⟨rfl, hx⟩; exact ⟨rfl, hw'.trans hx⟩)
                    | (go_at_call 27; refine Calls.mono (must_access_neg g (-5) (by omega) p w') ?_; rintro e w'' ⟨rfl, hx⟩; exact ⟨rfl, hw'.trans hx⟩)
                    | (go_at_call 31; refine Calls.mono (self_equal p n f w' ((yp.ext hw').1)) ?_; rintro e w'' ⟨rfl, hx⟩; exact ⟨rfl, hw'.trans hx⟩)
                    | (obtain ⟨q0, q1, q2⟩ := (yc.ext hw').c3; go_simp; rfl)
                    | (obtain ⟨q0, q1, q2, q3⟩ := (y7.ext hw').c4; go_simp; rfl))
                  go_big_quiet_on)))
      refine wpQuiet_nil ?_
      intro w7 hb7
      go_wp2
      go_ret
      exact ⟨rfl, hx5.trans (hek.trans hb7)⟩
end Go.Proofs.Ytaekkfgggmighaa
