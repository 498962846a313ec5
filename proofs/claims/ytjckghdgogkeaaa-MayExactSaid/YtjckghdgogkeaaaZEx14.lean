/- The contracts of ontimelaw31.line and ontimelaw31.touch. -/
import Derived.Test.YtjckghdgogkeaaaZEx11
import Derived.Test.YtjckghdgogkeaaaZEx12
namespace Go.Proofs.Ytjckghdgogkeaaa
open Go.RowKit Go.Maps Go.Proofs.YtjckghdgogkeaaaW.PrintWords Go.Proofs.Ytjckghdgogkeaaa.PMayDescribes
set_option linter.unusedVariables false

set_option maxHeartbeats 1000000 in
theorem line_none (lo hi pk : Int) (h : hi < max lo 0) (w : World) :
    Calls Try.prog 22 #[.agg #[.int .i64 lo, .int .i64 hi, .int .u8 pk]] w fun e w' => e = .returned (.tuple #[.int .i64 0, .bool false]) ∧ Ext w w' := by
  by_cases c : 0 ≤ lo
  · have h' : hi < lo := by omega
    have e : max lo 0 = lo := by omega
    go_enter Try.func22, Try.ntmps22
    go_wp2
    refine bodyPost_ret (v := .tuple #[.int .i64 0, .bool false]) ?_ rfl ⟨rfl, (by repeat (first | ((with_reducible refine Ext.set1 ?_ ?_); (first | (focus (simp; done)) | (focus (simp; omega)) | (focus omega))) | (with_reducible refine Ext.alloc ?_ _) | (with_reducible exact Ext.refl _) | (refine Ext.trans ?_ (by with_reducible assumption))))⟩
    simp [results, Try.results22, go_sem]
  · have h' : hi < 0 := by omega
    have e : max lo 0 = 0 := by omega
    go_enter Try.func22, Try.ntmps22
    go_wp2
    refine bodyPost_ret (v := .tuple #[.int .i64 0, .bool false]) ?_ rfl ⟨rfl, (by repeat (first | ((with_reducible refine Ext.set1 ?_ ?_); (first | (focus (simp; done)) | (focus (simp; omega)) | (focus omega))) | (with_reducible refine Ext.alloc ?_ _) | (with_reducible exact Ext.refl _) | (refine Ext.trans ?_ (by with_reducible assumption))))⟩
    simp [results, Try.results22, go_sem]
set_option maxHeartbeats 1000000 in
theorem line_some (lo hi pk : Int) (h : max lo 0 ≤ hi) (h2 : hi ≤ 4000) (h3 : -4000 ≤ lo) (h4 : 0 ≤ pk) (h5 : pk ≤ 255) (w : World) :
    Calls Try.prog 22 #[.agg #[.int .i64 lo, .int .i64 hi, .int .u8 pk]] w fun e w' => e = .returned (.tuple #[.int .i64 (max lo 0 + pk % (hi - max lo 0 + 1)), .bool true]) ∧ Ext w w' := by
  have hm1 := Int.emod_nonneg pk (show hi - max lo 0 + 1 ≠ 0 by omega)
  have hm2 := Int.emod_lt_of_pos pk (show 0 < hi - max lo 0 + 1 by omega)
  by_cases c : 0 ≤ lo
  · have h' : ¬ hi < lo := by omega
    have e : max lo 0 = lo := by omega
    rw [e] at hm1 hm2 ⊢
    go_enter Try.func22, Try.ntmps22
    go_wp2
    refine bodyPost_ret (v := .tuple #[.int .i64 (lo + pk % (hi - lo + 1)), .bool true]) ?_ rfl ⟨rfl, (by repeat (first | ((with_reducible refine Ext.set1 ?_ ?_); (first | (focus (simp; done)) | (focus (simp; omega)) | (focus omega))) | (with_reducible refine Ext.alloc ?_ _) | (with_reducible exact Ext.refl _) | (refine Ext.trans ?_ (by with_reducible assumption))))⟩
    simp [results, Try.results22, go_sem]
  · have h' : ¬ hi < 0 := by omega
    have e : max lo 0 = 0 := by omega
    rw [e] at hm1 hm2 ⊢
    rw [Int.sub_zero] at hm1 hm2 ⊢
    rw [Int.zero_add]
    go_enter Try.func22, Try.ntmps22
    go_wp2
    refine bodyPost_ret (v := .tuple #[.int .i64 (pk % (hi + 1)), .bool true]) ?_ rfl ⟨rfl, (by repeat (first | ((with_reducible refine Ext.set1 ?_ ?_); (first | (focus (simp; done)) | (focus (simp; omega)) | (focus omega))) | (with_reducible refine Ext.alloc ?_ _) | (with_reducible exact Ext.refl _) | (refine Ext.trans ?_ (by with_reducible assumption))))⟩
    simp [results, Try.results22, go_sem]

theorem mul_fits {n L : Int} (hn : 0 ≤ n) (hn2 : n ≤ 70000) (hL : 1 ≤ L) (hL2 : L ≤ 16) : 0 ≤ n * L ∧ n * L ≤ 2000000 ∧ n * L / L = n := by
  have h1 : n * L ≤ 70000 * 16 := Int.mul_le_mul hn2 hL2 (by omega) (by omega)
  exact ⟨Int.mul_nonneg hn (by omega), by omega, Int.mul_ediv_cancel n (by omega)⟩
set_option maxHeartbeats 1000000 in
theorem touch_at {w : World} {base q : Nat} {S W L : Int} {F : Nat → Prop} {rows : List (List Int)} (g : Geo S W L) (h : CaB w base q S W L F rows) (hr : Rows S W rows) (n : Int) (hn : 0 ≤ n) (hn2 : n ≤ 70000) (hbw : base ≤ w.heap.size) :
    Calls Try.prog 25 #[.pointer (some ⟨q, 0, none⟩), .agg #[.int .i64 S, .int .i64 W, .int .i64 L], .int .i64 n] w fun e w' => e = .returned (.tuple #[]) ∧ ∃ F', CaB w' base q S W L F' (cAcc S W rows n) ∧ (∀ k, F' k → F k ∨ w.heap.size ≤ k) ∧ Fr F w w' := by
  obtain ⟨b1, b2, b3⟩ := mul_fits hn hn2 g.l1 g.l16
  obtain ⟨x, hx⟩ : ∃ x, n * L = x := ⟨_, rfl⟩
  rw [hx] at b1 b2 b3
  go_enter Try.func25, Try.ntmps25
  go_wp2_with (go_at_call 40; refine Calls.mono (cache_access (base := base) g (h.ext ((Ext.refl _).alloc _)) hr x b1 b2 (by simp; omega)) ?_; rintro e w2 ⟨rfl, F', hc, hF, hf⟩)
  rw [b3] at hc
  refine bodyPost_end (v := .tuple #[]) (by simp [results, go_sem]) rfl ⟨rfl, F', hc, fun k hk => ?_, (Fr.ofExt F ((Ext.refl _).alloc _)).trans hf⟩
  rcases hF k hk with h1 | h1
  · exact .inl h1
  · right; simp at h1; omega

/-- The steps lie in w as v, in a block of their own from base on. -/
def StpB (w : World) (base : Nat) (v : Value) (l : List S45) : Prop := k45.R 45 w base (fun k => some k = v.ownBlock) v l
theorem StpB.own {w : World} {base : Nat} {v : Value} {l : List S45} (h : StpB w base v l) {g : Nat} (hg : some g = v.ownBlock) : g < w.heap.size ∧ ∃ cells, w.heap[g]? = some (.cells cells 45 (0, 0)) := by
  obtain ⟨_, _, h2, q, hq, cells, hb⟩ := (Kd.R_bound h).1 g hg.symm
  have : q = 45 := by
    rcases List.mem_cons.1 hq with h | h
    · exact h
    · cases h
  subst this
  exact ⟨h2, cells, hb⟩
theorem StpB.ext {w w' : World} {base : Nat} {v : Value} {l : List S45} (h : StpB w base v l) (e : Ext w w') : StpB w' base v l := Kd.R_below h e
theorem StpB.alloc {w : World} {base : Nat} {v : Value} {l : List S45} (h : StpB w base v l) (o : Obj) : StpB (w.alloc o) base v l := h.ext ((Ext.refl w).alloc o)
theorem StpB.set {w : World} {base : Nat} {v : Value} {l : List S45} {g k : Nat} {cs : Array Value} {t : TypeId} {u : Value} (hb : Blk w g (.cells cs t)) (ht : t ≠ 45) (h : StpB w base v l) : StpB (w.setCell ⟨g, k, none⟩ u) base v l := by
  refine Kd.R_far h (p := ⟨g, k, none⟩) (fun j hj => ?_) u
  rintro rfl
  obtain ⟨_, cells, he⟩ := h.own hj
  unfold Blk at hb
  rw [hb] at he
  cases he
  exact ht rfl
theorem StpB.set5 {w : World} {base B : Nat} {v a b c d e a' b' c' d' e' : Value} {t : TypeId} {l : List S45} (h : StpB w base v l) (hb : Blk w B (.cells #[a, b, c, d, e] t)) (ht : t ≠ 45) : StpB (((((w.setCell ⟨B, 0, none⟩ a').setCell ⟨B, 1, none⟩ b').setCell ⟨B, 2, none⟩ c').setCell ⟨B, 3, none⟩ d').setCell ⟨B, 4, none⟩ e') base v l :=
  ((((h.set hb ht).set hb.put ht).set hb.put.put ht).set hb.put.put.put ht).set hb.put.put.put.put ht
theorem StpB.of {w : World} {base : Nat} {ok : Nat → Prop} {v : Value} {l : List S45} (h : k45.R 45 w base ok v l) : StpB w base v l :=
  ⟨fun k hk => hk.symm, h.2.imp_ (fun p c hp => by obtain rfl := k45_openM hp; exact k45_mkM _ _ _ _)⟩
theorem StpB.keep {w w' : World} {base b q : Nat} {S W L : Int} {F : Nat → Prop} {rows : List (List Int)} {v : Value} {l : List S45} (h : StpB w base v l) (c : CaB w b q S W L F rows) (f : Fr F w w') : StpB w' base v l := by
  refine Kd.R_move h fun k hk => ?_
  obtain ⟨hlt, cells, he⟩ := h.own hk
  exact f.block k hlt (c.out (o := .cells cells 45) he (cells_ne (by decide) (by decide)))
theorem StB.keep {w w' : World} {b q : Nat} {S W L : Int} {F : Nat → Prop} {rows : List (List Int)} {W' : Int} {n : Nat} {st : St} {u : Bool} {p : Option Nat} (hs : StB w W' n st u p) (c : CaB w b q S W L F rows) (f : Fr F w w') : StB w' W' n st u p := by
  rcases hs with hs | ⟨h1, g, h2, h3, h4⟩
  · exact .inl hs
  · refine .inr ⟨h1, g, h2, h3.same fun b e => ?_, h4⟩
    rcases h3 with ⟨rfl, _⟩ | ⟨b', rfl, h3⟩
    · cases e
    · cases e
      obtain ⟨D, ⟨es, clock, hb, _⟩, _⟩ := h3
      exact c.keepMap f hb
/-- The store of a whole may state leaves the cache as it is. -/
theorem CaB.set {w : World} {base q g k : Nat} {S W L : Int} {F : Nat → Prop} {rows : List (List Int)} {cs : Array Value} {t : TypeId} {u : Value} (h : CaB w base q S W L F rows) (hb : Blk w g (.cells cs t)) (h1 : t ≠ 3) (h2 : t ≠ 28) (h3 : t ≠ 77) : CaB (w.setCell ⟨g, k, none⟩ u) base q S W L F rows := by
  refine h.fr (G := fun j => j = g) ((Fr.refl _ _).setCell rfl) (fun j hj e => ?_) (fun e => ?_)
  · subst e
    exact h.out hb (cells_ne h1 h2) hj
  · subst e
    obtain ⟨gb, vs, h⟩ := h
    have := Blk.agree h.kq hb
    injection this with _ e _
    exact h3 e.symm
theorem CaB.set5 {w : World} {base q B : Nat} {S W L : Int} {F : Nat → Prop} {rows : List (List Int)} {a b c d e a' b' c' d' e' : Value} {t : TypeId} (h : CaB w base q S W L F rows) (hb : Blk w B (.cells #[a, b, c, d, e] t)) (h1 : t ≠ 3) (h2 : t ≠ 28) (h3 : t ≠ 77) : CaB (((((w.setCell ⟨B, 0, none⟩ a').setCell ⟨B, 1, none⟩ b').setCell ⟨B, 2, none⟩ c').setCell ⟨B, 3, none⟩ d').setCell ⟨B, 4, none⟩ e') base q S W L F rows :=
  ((((h.set hb h1 h2 h3).set hb.put h1 h2 h3).set hb.put.put h1 h2 h3).set hb.put.put.put h1 h2 h3).set hb.put.put.put.put h1 h2 h3

/-- Whether a state has a line. -/
def hasB (st : St) (x : Int) : Bool := match st with
  | none => true
  | some f => (f x).isSome
theorem age_has (S W L x : Int) (hx0 : 0 ≤ x) (hx : x ≤ 1000000) (u : Bool) (p : Option Nat) (n : Nat) (st : St) (w : World) (h : StB w W n st u p) :
    Calls Try.prog 23 #[.agg #[.int .i64 S, .int .i64 W, .int .i64 L, .bool u, .map p], .int .i64 x] w fun e w' => ∃ c, e = .returned (.tuple #[.int .i64 c, .bool (hasB st x)]) ∧ Ext w w' := by
  rcases h with ⟨rfl, rfl, rfl⟩ | ⟨rfl, f, rfl, him, _⟩
  · refine (may_age_unknown S W L x none w).mono ?_
    rintro e w' ⟨rfl, hb⟩
    exact ⟨0, by rw [decide_eq_true hx0]; rfl, hb⟩
  · refine (may_age S W L x p n f w him (.of (by omega) (by omega)) _ _ rfl rfl).mono ?_
    rintro e w' ⟨rfl, hb⟩
    exact ⟨_, rfl, hb⟩
theorem has_in {S : Int} {st : St} {rows : List (List Int)} (h : Descr S st rows) {i : Nat} {x : Int} (hx : x ∈ rows.getD i []) : hasB st x = true := by
  cases st with
  | none => rfl
  | some f =>
    obtain ⟨b, hb⟩ := in_state h hx
    show (f x).isSome = true
    rw [hb]; rfl
theorem probe_out {S : Int} {st : St} {rows : List (List Int)} (h : Descr S st rows) {x : Int} (hx : hasB st x = false) : ¬ 0 ≤ cAge S rows x := fun hc => by
  unfold cAge at hc
  rcases idx_cases (rows.getD (x % S).toNat []) x with ⟨k, _, _, hmem, _⟩ | ⟨e, _, _⟩
  · rw [has_in h hmem] at hx; cases hx
  · rw [e] at hc; omega

theorem steps_lit {w : World} {base B : Nat} (hB : B = w.heap.size) (hb : base ≤ w.heap.size) : k45.R 45 (w.alloc (.cells #[] 45)) base (fun _ => True) (.slice (some ⟨B, 0, none⟩) 0 0) [] := by
  subst hB
  refine ⟨fun _ _ => trivial, [], ⟨rfl, .inr ⟨w.heap.size, 0, #[], rfl, hb, heap_alloc_new w _, Nat.le_refl _, Nat.zero_le _, rfl, rfl⟩⟩, rfl, fun j p hj => by simp at hj⟩
theorem wp_append_steps {ops : Array Oper} {rest : List Oper} {o : Oper} {a : Act} {Q : Exit → Act → World → Prop} {w0 W : World} (hgd : o.guard = none) (s x : Operand)
    (ho : o.op = .call { callee := .builtin .append, args := #[s, x], argTypes := #[24, 24] })
    (v : Value) (xs ys zs : List S45) (hz : xs ++ ys = zs) (n : Nat) (hn : zs.length = n) (A : Option Addr) (m c : Nat) (hs : a.eval s = v) (hx : a.eval x = .slice A m c) (HO : k45.R 45 W w0.heap.size (fun _ => True) v xs) (HC : k45.C W A m ys) (HB : Ext w0 W) (hlx : xs.length ≤ 1000) (hm : m ≤ 1000)
    (h : ∀ A1 c1 w1, k45.R 45 w1 w0.heap.size (fun _ => True) (.slice A1 n c1) zs → n ≤ c1 → Ext w0 w1 → wpList Try.prog ops Q rest (a.put o.dst (.slice A1 n c1)) w1) : wpList Try.prog ops Q (o :: rest) a W := by
  refine Kd.R_append_rows k45 (Rr := k45.K W) (w0 := w0) (W := W) w0.heap.size hgd s x 24 45 (.agg #[.int .i64 0, .int .i64 0, .int .u8 0]) 24 ho Try.underlying24 (by kernel_rfl) rfl (by decide) (by decide) v xs ys A m c (fun _ => True) (fun _ => False) hs hx HO HC (fun x cs hp => by obtain rfl := k45_open hp; exact k45_mkM _ _ _ _) (fun k hk => hk.elim) (fun _ _ => trivial) HB HB.size (by omega) ?_
  intro v1 w1 h1 h2 _ _
  rw [hz] at h1
  obtain ⟨A1, c1, rfl, hc1, _⟩ := Kd.R_reads h1
  rw [hn] at h1 hc1 ⊢
  exact h A1 c1 w1 h1 hc1 h2
end Go.Proofs.Ytjckghdgogkeaaa
