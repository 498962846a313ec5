/- The contract of cache.Access. -/
import Derived.Test.YtdbgnniedcibeaaCacheB
import Derived.Test.YtdbgnniedcibeaaCp0
import Derived.Deep.QuietTactic
namespace Go.Proofs.Ytdbgnniedcibeaa
open Go.RowKit
set_option linter.unusedVariables false

/-- A region that draws its order, whose operations read what lies in w and call what leaves that as it is: one walk, in the text's order. -/
theorem wp_region_e {id : Nat} {Q : Exit → Act → World → Prop} {a : Act} {w : World} {l : List Oper} (hB : Region.lexB .any l.toArray = true)
    (h : wpQuiet Try.prog l.toArray (Ext w) (fun a' => ∀ w', Ext w w' → Q .normal a' w') l a) : (Code.region id l.toArray true).wp Try.prog Q a w :=
  wp_region_quiet (C := Ext w) (by kernel_rfl) hB (Ext.drew (Ext.refl w)) (by simpa using h)

theorem idx_cases (r : List Int) (y : Int) : (∃ k, k < r.length ∧ Lib.idxOf r y = (k : Int) ∧ y ∈ r ∧ r.erase y = r.eraseIdx k) ∨ (Lib.idxOf r y = -1 ∧ ¬ y ∈ r ∧ r.erase y = r) := by
  by_cases h : y ∈ r
  · have hq := List.idxOf_lt_length_of_mem h
    refine .inl ⟨r.idxOf y, hq, ?_, h, List.erase_eq_eraseIdx_of_idxOf rfl⟩
    have := Lib.idxOf_hit r r.length (r.idxOf y) y hq (Nat.le_refl _) (by rw [List.getD, List.getElem?_eq_getElem hq]; exact List.getElem_idxOf hq) (fun j hj e => by
      have hjl : j < r.length := by omega
      rw [List.getD, List.getElem?_eq_getElem hjl] at e
      have h5 := List.not_of_lt_findIdx (p := (· == y)) hj
      simp at h5
      exact h5 (by simpa using e))
    rwa [List.take_length] at this
  · refine .inr ⟨?_, h, List.erase_of_not_mem h⟩
    have := Lib.idxOf_miss r r.length y (fun j hj e => h (by rw [← e, List.getD, List.getElem?_eq_getElem hj]; exact List.getElem_mem hj))
    rwa [List.take_length] at this

theorem vs_cell {w : World} {g : Nat} {vs : List Value} {t : TypeId} {i : Nat} {v : Value} (h : Blk w g (.cells vs.toArray t)) (hv : vs[i]? = some v) : w.cell? ⟨g, i, none⟩ = some v ∧ w.frozen? ⟨g, i, none⟩ = false := ⟨by rw [h.cell]; simpa using hv, h.free i⟩
theorem Blk.putL {w : World} {g i : Nat} {vs : List Value} {t : TypeId} {u : Value} (h : Blk w g (.cells vs.toArray t)) : Blk (w.setCell ⟨g, i, none⟩ u) g (.cells (vs.set i u).toArray t) := by
  have := h.put (k := i) (u := u)
  rwa [List.setIfInBounds_toArray] at this

theorem row_delete1 {w : World} {base : Nat} {v : Value} {r : List Int} (h : RowB w base v r) (k : Nat) (hk : k < r.length) :
    Calls Try.prog 38 #[v, .int .i64 (k : Int), .int .i64 ((k : Int) + 1)] w fun e w' => ∃ A c, e = .returned (.slice A (r.eraseIdx k).length c) ∧ RowB w' base (.slice A (r.eraseIdx k).length c) (r.eraseIdx k) ∧ (Value.slice A (r.eraseIdx k).length c).ownBlock = v.ownBlock ∧ Fr (fun j => v.ownBlock = some j) w w' := by
  have := row_delete h k hk
  rw [Int.natCast_succ] at this
  refine this.mono ?_
  rintro e w' ⟨v', rfl, h1, h2, h3⟩
  obtain ⟨A, c, rfl, _⟩ := h1.slice
  exact ⟨A, c, rfl, h1, h2, h3⟩
theorem row_insert1 {w : World} {base : Nat} {v : Value} {r : List Int} {x : Int} {vb : Nat} (h : RowB w base v r) (hv : Blk w vb (.cells #[.int .i64 x] 3)) (hne : v.ownBlock ≠ some vb) (hr : r.length ≤ 1000) (hbw : base ≤ w.heap.size) :
    Calls Try.prog 39 #[v, .int .i64 0, .slice (some ⟨vb, 0, none⟩) 1 1] w fun e w' => ∃ A c, e = .returned (.slice A (r.length + 1) c) ∧ RowB w' base (.slice A (r.length + 1) c) (x :: r) ∧ ((Value.slice A (r.length + 1) c).ownBlock = v.ownBlock ∨ (Value.slice A (r.length + 1) c).ownBlock = some w.heap.size) ∧ Fr (fun j => v.ownBlock = some j) w w' := by
  refine (row_insert h hv hne hr hbw).mono ?_
  rintro e w' ⟨v', rfl, h1, h2, h3⟩
  obtain ⟨A, c, rfl, _⟩ := h1.slice
  exact ⟨A, c, rfl, h1, h2, h3⟩
/-- what is stored into the row's block of slices, and new blocks, leave the row as it is -/
theorem RowB.store {w : World} {base g o : Nat} {v u : Value} {r : List Int} (h : RowB w base v r) (hg : ∀ k, v.ownBlock = some k → k ≠ g) : RowB (w.setCell ⟨g, o, none⟩ u) base v r :=
  h.fr (F := fun k => k = g) ((Fr.refl _ _).setCell rfl) fun k hk e => hg k hk e
theorem RowB.alloc {w : World} {base : Nat} {v : Value} {r : List Int} (h : RowB w base v r) (o : Obj) : RowB (w.alloc o) base v r := h.ext ((Ext.refl _).alloc o)

theorem set_at {W L : Int} {m i : Nat} (h : Geo (m : Int) W L) (x : Int) (hx : 0 ≤ x) (hi : x % (m : Int) = (i : Int)) (w : World) :
    Calls Try.prog 32 #[.agg #[.int .i64 (m : Int), .int .i64 W, .int .i64 L], .int .i64 x] w fun e w' => e = .returned (.int .i64 (i : Int)) ∧ Ext w w' := by
  have := set_yes h x hx w
  rw [hi] at this
  exact this
theorem CaP.cells (m : Nat) {w : World} {base q g : Nat} {W L : Int} {F : Nat → Prop} {vs : List Value} {rows : List (List Int)} (h : CaP w base q (m : Int) W L F g vs rows) :
    Blk w q (.cells #[.int .i64 (m : Int), .int .i64 W, .int .i64 L, .slice (some ⟨g, 0, none⟩) m m] 64) := h.kq

set_option maxHeartbeats 1000000 in
theorem access_hit {w : World} {base q gb m i : Nat} {W L : Int} {F : Nat → Prop} {vs : List Value} {rows : List (List Int)} (g : Geo (m : Int) W L) (h : CaP w base q (m : Int) W L F gb vs rows) (x y : Int) (hx : 0 ≤ x) (hx2 : x ≤ 2000000) (hy : x / L = y) (hbw : base ≤ w.heap.size)
    (hi : y % (m : Int) = (i : Int)) (r r2 : List Int) (hr : rows.getD i [] = r) (k : Nat) (hk : k < r.length) (hr2 : r2 = r.eraseIdx k) (he : Lib.idxOf r y = (k : Int)) (hle : (r.length : Int) ≤ W) :
    Calls Try.prog 27 #[.pointer (some ⟨q, 0, none⟩), .int .i64 x] w fun e w' => e = .returned (.bool true) ∧ ∃ F', CaB w' base q (m : Int) W L F' (rows.set i (y :: r2)) ∧ (∀ k, F' k → F k ∨ w.heap.size ≤ k) ∧ Fr F w w' := by
  have hs1 := g.s1
  have hs64 := g.s64
  have hw8 := g.w8
  have hl1 := g.l1
  have hy0 : 0 ≤ y := by rw [← hy]; exact Int.ediv_nonneg hx (by omega)
  have him : i < m := by have := Int.emod_lt_of_pos y (show 0 < (m : Int) by omega); omega
  obtain ⟨v, hv, hrow, hvF, hvg⟩ := h.at_ (i := i) (by omega)
  rw [hr] at hrow
  obtain ⟨A, c, rfl, hrc⟩ := hrow.slice
  have kq := h.cells m
  have kg := h.kg
  obtain ⟨a0, a1, a2, a3⟩ := kq.c4
  obtain ⟨b0, b1⟩ := vs_cell kg hv
  go_enter Try.func27, Try.ntmps27
  go_wp2_with (first
    | (go_at_call 36; refine Calls.mono (line_yes g x hx hx2 _) ?_; rintro e w1 ⟨rfl, hb1⟩; rw [hy]))
  have kq1 := kq.ext hb1
  have kg1 := kg.ext hb1
  refine wp_region_e (by kernel_rfl) ?_
  repeat (
    refine wpQuiet_step (fun K hK => ?_)
    go_simp
    first
      | (refine hK _ ?_; clear hK K)
      | (refine ⟨_, fun w' hw' => rfl, hK _ ?_⟩; clear hK K)
      | (apply Exists.intro
         refine ⟨fun w' hw' => ?_, hK _ ?_⟩
         (first
           | (go_at_call 32; refine Calls.mono (set_at g y hy0 hi w') ?_; rintro e w'' ⟨rfl, hx⟩; exact ⟨rfl, hw'.trans hx⟩)
           | (obtain ⟨q0, q1, q2, q3⟩ := (kq1.ext hw').c4; go_simp; rfl))
         clear hK K))
  refine wpQuiet_nil ?_
  intro w2 hw2
  have hx2 : Ext w w2 := hb1.trans hw2
  have kq2 := kq.ext hx2
  have kg2 := kg.ext hx2
  have row2 := hrow.ext hx2
  have hz2 := hx2.size
  obtain ⟨c0, c1⟩ := vs_cell kg2 hv
  clear a0 a1 a2 a3 b0 b1 kq1 kg1 hb1 hw2
  have hgo : ∀ k, (Value.slice A r.length c).ownBlock = some k → ¬ k = gb ∧ ¬ k = q := fun k hk => ⟨hvg k hk, fun e => h.fq (e ▸ hvF k hk)⟩
  have hl2 : (r2.length : Int) + 1 ≤ W := by rw [hr2, List.length_eraseIdx, if_pos hk]; omega
  have hqg : q ≠ gb := fun e => h.fq (by rw [e]; exact h.fg)
  have hiv : i < vs.length := (List.getElem?_eq_some_iff.1 hv).1
  have HR2 := Lib.hid hr2
  clear hr2
  go_wp2_with (first
    | (go_at_call 39; (refine Calls.mono (row_insert1 (base := base) ((row3.store fun k hk => (hgo k (hbk3 ▸ hk)).1).alloc _) (Blk.new (by simp)) (fun e => by have := (row3.lt _ e).2; omega) (by omega) (by have := hf3.size; simp; omega)) ?_; rintro e w4 ⟨A4, c4, rfl, row4, hbk4, hf4⟩; have kg4 := Blk.fr kg3.putL.alloc hf4 (fun e => (hgo gb (hbk3 ▸ e)).1 rfl); have kq4 := Blk.fr (kq3.set1 hqg).alloc hf4 (fun e => (hgo q (hbk3 ▸ e)).2 rfl); obtain ⟨f0, f1⟩ := vs_cell (i := i) kg4 (by rw [List.getElem?_set, if_pos rfl, if_pos hiv]); obtain ⟨p0, p1, p2, p3⟩ := kq4.c4))
    | (go_at_call 38; refine Calls.mono (row_delete1 row2 k hk) ?_; rw [← HR2.out]; rintro e w3 ⟨A3, c3, rfl, row3, hbk3, hf3⟩; have kg3 := kg2.fr hf3 (fun e => (hgo gb e).1 rfl); have kq3 := kq2.fr hf3 (fun e => (hgo q e).2 rfl); obtain ⟨d0, d1⟩ := vs_cell kg3 hv)
    | (go_at_call 37; refine Calls.mono (row_index row2 y (by omega)) ?_; rintro e w3 ⟨rfl, hw3⟩; rw [he]; obtain rfl := hw3.symm))
  have hz3 := hf3.size
  have hz4 := hf4.size
  simp at hz4
  have row5 : RowB (w4.setCell ⟨gb, i, none⟩ (.slice A4 (r2.length + 1) c4)) base (.slice A4 (r2.length + 1) c4) (y :: r2) := row4.store fun k hk => by
    rcases hbk4 with e | e
    · rw [e, hbk3] at hk; exact (hgo k hk).1
    · rw [e] at hk; have := kg2.lt; simp at hk; omega
  have kq5 : Blk (w4.setCell ⟨gb, i, none⟩ (.slice A4 (r2.length + 1) c4)) q _ := kq4.set1 hqg
  have kg5 : Blk (w4.setCell ⟨gb, i, none⟩ (.slice A4 (r2.length + 1) c4)) gb (.cells ((vs.set i (.slice A3 r2.length c3)).set i (.slice A4 (r2.length + 1) c4)).toArray 29) := kg4.putL
  rw [List.set_set] at kg5
  have hfr : Fr (fun k => k = gb ∨ (Value.slice A r.length c).ownBlock = some k) w (w4.setCell ⟨gb, i, none⟩ (.slice A4 (r2.length + 1) c4)) :=
    ((Fr.ofExt _ hx2).trans ((hf3.mono fun k _ hk => .inr hk).trans ((((Fr.refl _ w3).setCell (.inl rfl)).alloc _).trans ((hf4.mono fun k _ hk => .inr (hbk3 ▸ hk)).setCell (.inl rfl)))))
  have hn5 : ∀ k, (Value.slice A4 (r2.length + 1) c4).ownBlock = some k → (Value.slice A r.length c).ownBlock = some k ∨ w.heap.size ≤ k := fun k hk => by
    rcases hbk4 with e | e
    · rw [e, hbk3] at hk; exact .inl hk
    · rw [e] at hk; simp at hk; right; omega
  obtain ⟨w5, hw5⟩ : ∃ w5, w5 = w4.setCell ⟨gb, i, none⟩ (.slice A4 (r2.length + 1) c4) := ⟨_, rfl⟩
  rw [← hw5] at row5 kq5 kg5 hfr ⊢
  clear hw5 d0 d1 f0 f1 p0 p1 p2 p3 c0 c1
  refine wp_region_e (by kernel_rfl) ?_
  repeat (
    refine wpQuiet_step (fun K hK => ?_)
    go_simp
    first
      | (refine hK _ ?_; clear hK K)
      | (refine ⟨_, fun w' hw' => rfl, hK _ ?_⟩; clear hK K)
      | (apply Exists.intro
         refine ⟨fun w' hw' => ?_, hK _ ?_⟩
         (obtain ⟨q0, q1, q2, q3⟩ := (kq5.ext hw').c4; obtain ⟨r0, r1⟩ := vs_cell (i := i) (kg5.ext hw') (by rw [List.getElem?_set, if_pos rfl, if_pos hiv]); go_simp; rfl)
         clear hK K))
  refine wpQuiet_nil ?_
  intro w6 hw6
  go_wp2
  go_ret
  exact ⟨rfl, CaP.put h hv (hfr.ext hw6) (kg5.ext hw6) (row5.ext hw6) hn5⟩
set_option maxHeartbeats 1000000 in
theorem access_miss {w : World} {base q gb m i : Nat} {W L : Int} {F : Nat → Prop} {vs : List Value} {rows : List (List Int)} (g : Geo (m : Int) W L) (h : CaP w base q (m : Int) W L F gb vs rows) (x y : Int) (hx : 0 ≤ x) (hx2 : x ≤ 2000000) (hy : x / L = y) (hbw : base ≤ w.heap.size)
    (hi : y % (m : Int) = (i : Int)) (r : List Int) (hr : rows.getD i [] = r) (he : Lib.idxOf r y = -1) (hle : (r.length : Int) < W) :
    Calls Try.prog 27 #[.pointer (some ⟨q, 0, none⟩), .int .i64 x] w fun e w' => e = .returned (.bool false) ∧ ∃ F', CaB w' base q (m : Int) W L F' (rows.set i (y :: r)) ∧ (∀ k, F' k → F k ∨ w.heap.size ≤ k) ∧ Fr F w w' := by
  have hs1 := g.s1
  have hs64 := g.s64
  have hw8 := g.w8
  have hl1 := g.l1
  have hy0 : 0 ≤ y := by rw [← hy]; exact Int.ediv_nonneg hx (by omega)
  have him : i < m := by have := Int.emod_lt_of_pos y (show 0 < (m : Int) by omega); omega
  obtain ⟨v, hv, hrow, hvF, hvg⟩ := h.at_ (i := i) (by omega)
  rw [hr] at hrow
  obtain ⟨A, c, rfl, hrc⟩ := hrow.slice
  have kq := h.cells m
  have kg := h.kg
  obtain ⟨a0, a1, a2, a3⟩ := kq.c4
  obtain ⟨b0, b1⟩ := vs_cell kg hv
  go_enter Try.func27, Try.ntmps27
  go_wp2_with (first
    | (go_at_call 36; refine Calls.mono (line_yes g x hx hx2 _) ?_; rintro e w1 ⟨rfl, hb1⟩; rw [hy]))
  have kq1 := kq.ext hb1
  have kg1 := kg.ext hb1
  refine wp_region_e (by kernel_rfl) ?_
  repeat (
    refine wpQuiet_step (fun K hK => ?_)
    go_simp
    first
      | (refine hK _ ?_; clear hK K)
      | (refine ⟨_, fun w' hw' => rfl, hK _ ?_⟩; clear hK K)
      | (apply Exists.intro
         refine ⟨fun w' hw' => ?_, hK _ ?_⟩
         (first
           | (go_at_call 32; refine Calls.mono (set_at g y hy0 hi w') ?_; rintro e w'' ⟨rfl, hx⟩; exact ⟨rfl, hw'.trans hx⟩)
           | (obtain ⟨q0, q1, q2, q3⟩ := (kq1.ext hw').c4; go_simp; rfl))
         clear hK K))
  refine wpQuiet_nil ?_
  intro w2 hw2
  have hx2 : Ext w w2 := hb1.trans hw2
  have kq2 := kq.ext hx2
  have kg2 := kg.ext hx2
  have row2 := hrow.ext hx2
  have hz2 := hx2.size
  obtain ⟨c0, c1⟩ := vs_cell kg2 hv
  clear a0 a1 a2 a3 b0 b1 kq1 kg1 hb1 hw2
  have hgo : ∀ k, (Value.slice A r.length c).ownBlock = some k → ¬ k = gb ∧ ¬ k = q := fun k hk => ⟨hvg k hk, fun e => h.fq (e ▸ hvF k hk)⟩
  have hqg : q ≠ gb := fun e => h.fq (by rw [e]; exact h.fg)
  have hiv : i < vs.length := (List.getElem?_eq_some_iff.1 hv).1
  go_wp2_with (first
    | (go_at_call 39; (refine Calls.mono (row_insert1 (base := base) (row2.alloc _) (Blk.new (by simp)) (fun e => by have := (row2.lt _ e).2; omega) (by omega) (by simp; omega)) ?_; rintro e w4 ⟨A4, c4, rfl, row4, hbk4, hf4⟩; have kg4 := Blk.fr kg2.alloc hf4 (fun e => (hgo gb e).1 rfl); have kq4 := Blk.fr kq2.alloc hf4 (fun e => (hgo q e).2 rfl); obtain ⟨f0, f1⟩ := vs_cell (i := i) kg4 hv; obtain ⟨p0, p1, p2, p3⟩ := kq4.c4))
    | (go_at_call 37; refine Calls.mono (row_index row2 y (by omega)) ?_; rintro e w3 ⟨rfl, hw3⟩; rw [he]; obtain rfl := hw3.symm))
  have hz4 := hf4.size
  simp at hz4
  have row5 : RowB (w4.setCell ⟨gb, i, none⟩ (.slice A4 (r.length + 1) c4)) base (.slice A4 (r.length + 1) c4) (y :: r) := row4.store fun k hk => by
    rcases hbk4 with e | e
    · rw [e] at hk; exact (hgo k hk).1
    · rw [e] at hk; have := kg2.lt; simp at hk; omega
  have kq5 : Blk (w4.setCell ⟨gb, i, none⟩ (.slice A4 (r.length + 1) c4)) q _ := kq4.set1 hqg
  have kg5 : Blk (w4.setCell ⟨gb, i, none⟩ (.slice A4 (r.length + 1) c4)) gb (.cells (vs.set i (.slice A4 (r.length + 1) c4)).toArray 29) := kg4.putL
  have hfr : Fr (fun k => k = gb ∨ (Value.slice A r.length c).ownBlock = some k) w (w4.setCell ⟨gb, i, none⟩ (.slice A4 (r.length + 1) c4)) :=
    ((Fr.ofExt _ hx2).trans (((Fr.refl _ w2).alloc _).trans ((hf4.mono fun k _ hk => .inr hk).setCell (.inl rfl))))
  have hn5 : ∀ k, (Value.slice A4 (r.length + 1) c4).ownBlock = some k → (Value.slice A r.length c).ownBlock = some k ∨ w.heap.size ≤ k := fun k hk => by
    rcases hbk4 with e | e
    · rw [e] at hk; exact .inl hk
    · rw [e] at hk; simp at hk; right; omega
  obtain ⟨w5, hw5⟩ : ∃ w5, w5 = w4.setCell ⟨gb, i, none⟩ (.slice A4 (r.length + 1) c4) := ⟨_, rfl⟩
  rw [← hw5] at row5 kq5 kg5 hfr ⊢
  clear hw5 f0 f1 p0 p1 p2 p3 c0 c1
  refine wp_region_e (by kernel_rfl) ?_
  repeat (
    refine wpQuiet_step (fun K hK => ?_)
    go_simp
    first
      | (refine hK _ ?_; clear hK K)
      | (refine ⟨_, fun w' hw' => rfl, hK _ ?_⟩; clear hK K)
      | (apply Exists.intro
         refine ⟨fun w' hw' => ?_, hK _ ?_⟩
         (obtain ⟨q0, q1, q2, q3⟩ := (kq5.ext hw').c4; obtain ⟨r0, r1⟩ := vs_cell (i := i) (kg5.ext hw') (by rw [List.getElem?_set, if_pos rfl, if_pos hiv]); go_simp; rfl)
         clear hK K))
  refine wpQuiet_nil ?_
  intro w6 hw6
  go_wp2
  go_ret
  exact ⟨rfl, CaP.put h hv (hfr.ext hw6) (kg5.ext hw6) (row5.ext hw6) hn5⟩
theorem row_insert2 {w : World} {base : Nat} {v : Value} {r : List Int} {x : Int} {vb : Nat} (h : RowB w base v r) (hv : Blk w vb (.cells #[.int .i64 x] 3)) (hne : v.ownBlock ≠ some vb) (hr : r.length ≤ 1000) (hbw : base ≤ w.heap.size) :
    Calls Try.prog 39 #[v, .int .i64 0, .slice (some ⟨vb, 0, none⟩) 1 1] w fun e w' => ∃ g4 c, e = .returned (.slice (some ⟨g4, 0, none⟩) (r.length + 1) c) ∧ r.length + 1 ≤ c ∧ c ≤ 9223372036854775807 ∧ RowB w' base (.slice (some ⟨g4, 0, none⟩) (r.length + 1) c) (x :: r) ∧ ((Value.slice (some ⟨g4, 0, none⟩) (r.length + 1) c).ownBlock = v.ownBlock ∨ (Value.slice (some ⟨g4, 0, none⟩) (r.length + 1) c).ownBlock = some w.heap.size) ∧ Fr (fun j => v.ownBlock = some j) w w' := by
  refine (row_insert h hv hne hr hbw).mono ?_
  rintro e w' ⟨v', rfl, h1, h2, h3⟩
  rcases h1.cases with ⟨_, h0⟩ | ⟨g, cap, cur, rfl, hb, hB, hn, hc, hs, ht⟩
  · cases h0
  · exact ⟨g, cap, rfl, by simpa using hn, hc, h1, h2, h3⟩
theorem RowB.cut {w : World} {base g n c : Nat} {r : List Int} (h : RowB w base (.slice (some ⟨g, 0, none⟩) n c) r) (k : Nat) (hk : k ≤ r.length) : RowB w base (.slice (some ⟨g, 0, none⟩) k c) (r.take k) := by
  rcases h.cases with ⟨e, _⟩ | ⟨g', cap, cur, e, hb, hB, hn, hc, hs, ht⟩
  · cases e
  · cases e
    have hl : (r.take k).length = k := by rw [List.length_take]; omega
    have := RowB.intro (r := r.take k) hb hB (by omega) hc hs (fun j hj => by
      rw [ht j (by omega)]
      rw [List.getD_eq_getElem?_getD, List.getD_eq_getElem?_getD, List.getElem?_take, if_pos (by omega)])
    rw [hl] at this
    exact this

set_option maxHeartbeats 1000000 in
theorem access_full {w : World} {base q gb m i : Nat} {W L : Int} {F : Nat → Prop} {vs : List Value} {rows : List (List Int)} (g : Geo (m : Int) W L) (h : CaP w base q (m : Int) W L F gb vs rows) (x y : Int) (hx : 0 ≤ x) (hx2 : x ≤ 2000000) (hy : x / L = y) (hbw : base ≤ w.heap.size)
    (hi : y % (m : Int) = (i : Int)) (r : List Int) (hr : rows.getD i [] = r) (he : Lib.idxOf r y = -1) (hle : (r.length : Int) = W) :
    Calls Try.prog 27 #[.pointer (some ⟨q, 0, none⟩), .int .i64 x] w fun e w' => e = .returned (.bool false) ∧ ∃ F', CaB w' base q (m : Int) W L F' (rows.set i ((y :: r).take r.length)) ∧ (∀ k, F' k → F k ∨ w.heap.size ≤ k) ∧ Fr F w w' := by
  subst hle
  have hs1 := g.s1
  have hw1 := g.w1
  have hs64 := g.s64
  have hw8 := g.w8
  have hl1 := g.l1
  have hy0 : 0 ≤ y := by rw [← hy]; exact Int.ediv_nonneg hx (by omega)
  have him : i < m := by have := Int.emod_lt_of_pos y (show 0 < (m : Int) by omega); omega
  obtain ⟨v, hv, hrow, hvF, hvg⟩ := h.at_ (i := i) (by omega)
  rw [hr] at hrow
  obtain ⟨A, c, rfl, hrc⟩ := hrow.slice
  have kq := h.cells m
  have kg := h.kg
  have hkgl := kg.lt
  obtain ⟨a0, a1, a2, a3⟩ := kq.c4
  obtain ⟨b0, b1⟩ := vs_cell kg hv
  go_enter Try.func27, Try.ntmps27
  go_wp2_with (first
    | (go_at_call 36; refine Calls.mono (line_yes g x hx hx2 _) ?_; rintro e w1 ⟨rfl, hb1⟩; rw [hy]))
  have kq1 := kq.ext hb1
  have kg1 := kg.ext hb1
  refine wp_region_e (by kernel_rfl) ?_
  repeat (
    refine wpQuiet_step (fun K hK => ?_)
    go_simp
    first
      | (refine hK _ ?_; clear hK K)
      | (refine ⟨_, fun w' hw' => rfl, hK _ ?_⟩; clear hK K)
      | (apply Exists.intro
         refine ⟨fun w' hw' => ?_, hK _ ?_⟩
         (first
           | (go_at_call 32; refine Calls.mono (set_at g y hy0 hi w') ?_; rintro e w'' ⟨rfl, hx⟩; exact ⟨rfl, hw'.trans hx⟩)
           | (obtain ⟨q0, q1, q2, q3⟩ := (kq1.ext hw').c4; go_simp; rfl))
         clear hK K))
  refine wpQuiet_nil ?_
  intro w2 hw2
  have hx2 : Ext w w2 := hb1.trans hw2
  have kq2 := kq.ext hx2
  have kg2 := kg.ext hx2
  have row2 := hrow.ext hx2
  have hz2 := hx2.size
  obtain ⟨c0, c1⟩ := vs_cell kg2 hv
  clear a0 a1 a2 a3 b0 b1 kq1 kg1 hb1 hw2
  have hgo : ∀ k, (Value.slice A r.length c).ownBlock = some k → ¬ k = gb ∧ ¬ k = q := fun k hk => ⟨hvg k hk, fun e => h.fq (e ▸ hvF k hk)⟩
  have hqg : q ≠ gb := fun e => h.fq (by rw [e]; exact h.fg)
  have hiv : i < vs.length := (List.getElem?_eq_some_iff.1 hv).1
  go_wp2_with (first
    | (go_at_call 39; (refine Calls.mono (row_insert2 (base := base) (row2.alloc _) (Blk.new (by simp)) (fun e => by have := (row2.lt _ e).2; omega) (by omega) (by simp; omega)) ?_; rintro e w4 ⟨g4, c4, rfl, hc4, hm4, row4, hbk4, hf4⟩; have kg4 := Blk.fr kg2.alloc hf4 (fun e => (hgo gb e).1 rfl); have kq4 := Blk.fr kq2.alloc hf4 (fun e => (hgo q e).2 rfl); obtain ⟨f0, f1⟩ := vs_cell (i := i) kg4 hv; obtain ⟨p0, p1, p2, p3⟩ := kq4.c4))
    | (go_at_call 37; refine Calls.mono (row_index row2 y (by omega)) ?_; rintro e w3 ⟨rfl, hw3⟩; rw [he]; obtain rfl := hw3.symm))
  have hz4 := hf4.size
  simp at hz4
  have row5 : RowB (w4.setCell ⟨gb, i, none⟩ (.slice (some ⟨g4, 0, none⟩) (r.length + 1) c4)) base (.slice (some ⟨g4, 0, none⟩) (r.length + 1) c4) (y :: r) := row4.store fun k hk => by
    rcases hbk4 with e | e
    · rw [e] at hk; exact (hgo k hk).1
    · rw [e] at hk; have := kg2.lt; simp at hk; omega
  have kq5 : Blk (w4.setCell ⟨gb, i, none⟩ (.slice (some ⟨g4, 0, none⟩) (r.length + 1) c4)) q _ := kq4.set1 hqg
  have kg5 : Blk (w4.setCell ⟨gb, i, none⟩ (.slice (some ⟨g4, 0, none⟩) (r.length + 1) c4)) gb (.cells (vs.set i (.slice (some ⟨g4, 0, none⟩) (r.length + 1) c4)).toArray 29) := kg4.putL
  have hfr : Fr (fun k => k = gb ∨ (Value.slice A r.length c).ownBlock = some k) w (w4.setCell ⟨gb, i, none⟩ (.slice (some ⟨g4, 0, none⟩) (r.length + 1) c4)) :=
    ((Fr.ofExt _ hx2).trans (((Fr.refl _ w2).alloc _).trans ((hf4.mono fun k _ hk => .inr hk).setCell (.inl rfl))))
  have hn5 : ∀ k, (Value.slice (some ⟨g4, 0, none⟩) (r.length + 1) c4).ownBlock = some k → (Value.slice A r.length c).ownBlock = some k ∨ w.heap.size ≤ k := fun k hk => by
    rcases hbk4 with e | e
    · rw [e] at hk; exact .inl hk
    · rw [e] at hk; simp at hk; right; omega
  obtain ⟨w5, hw5⟩ : ∃ w5, w5 = w4.setCell ⟨gb, i, none⟩ (.slice (some ⟨g4, 0, none⟩) (r.length + 1) c4) := ⟨_, rfl⟩
  rw [← hw5] at row5 kq5 kg5 hfr ⊢
  clear hw5 f0 f1 p0 p1 p2 p3 c0 c1
  refine wp_region_e (by kernel_rfl) ?_
  repeat (
    refine wpQuiet_step (fun K hK => ?_)
    go_simp
    first
      | (refine hK _ ?_; clear hK K)
      | (refine ⟨_, fun w' hw' => rfl, hK _ ?_⟩; clear hK K)
      | (apply Exists.intro
         refine ⟨fun w' hw' => ?_, hK _ ?_⟩
         (obtain ⟨q0, q1, q2, q3⟩ := (kq5.ext hw').c4; obtain ⟨r0, r1⟩ := vs_cell (i := i) (kg5.ext hw') (by rw [List.getElem?_set, if_pos rfl, if_pos hiv]); go_simp; rfl)
         clear hK K))
  refine wpQuiet_nil ?_
  intro w6 hw6
  have kq6 := kq5.ext hw6
  have kg6 := kg5.ext hw6
  have row6 := row5.ext hw6
  have hfr6 := hfr.ext hw6
  have hww : (r.length : Int) < (r.length : Int) + 1 := by omega
  go_wp2
  obtain ⟨q0, q1, q2, q3⟩ := kq6.c4
  obtain ⟨r0, r1⟩ := vs_cell (i := i) kg6 (by rw [List.getElem?_set, if_pos rfl, if_pos hiv])
  go_region
  go_wp2
  go_ret
  have kg7 := kg6.putL (i := i) (u := .slice (some ⟨g4, 0, none⟩) r.length c4)
  rw [List.set_set] at kg7
  have row7 : RowB (w6.setCell ⟨gb, i, none⟩ (.slice (some ⟨g4, 0, none⟩) r.length c4)) base (.slice (some ⟨g4, 0, none⟩) r.length c4) ((y :: r).take r.length) := (row6.cut r.length (by simp)).store fun k hk => by
    rcases hn5 k hk with e | e
    · exact (hgo k e).1
    · have h1 := hkgl
      omega
  exact ⟨rfl, CaP.put h hv (hfr6.setCell (.inl rfl)).drew kg7 (row7.ext ((Ext.refl _).drew)) hn5⟩

/-- An access. -/
theorem cache_access {w : World} {base q : Nat} {S W L : Int} {F : Nat → Prop} {rows : List (List Int)} (g : Geo S W L) (h : CaB w base q S W L F rows) (hr : Rows S W rows) (x : Int) (hx : 0 ≤ x) (hx2 : x ≤ 2000000) (hbw : base ≤ w.heap.size) :
    Calls Try.prog 27 #[.pointer (some ⟨q, 0, none⟩), .int .i64 x] w fun e w' => e = .returned (.bool (decide (x / L ∈ rows.getD (x / L % S).toNat []))) ∧ ∃ F', CaB w' base q S W L F' (cAcc S W rows (x / L)) ∧ (∀ k, F' k → F k ∨ w.heap.size ≤ k) ∧ Fr F w w' := by
  obtain ⟨gb, vs, h⟩ := h
  have hs1 := g.s1
  have hw1 := g.w1
  obtain ⟨m, rfl⟩ : ∃ m : Nat, S = m := ⟨S.toNat, by omega⟩
  obtain ⟨y, hy⟩ : ∃ y, x / L = y := ⟨_, rfl⟩
  have hm1 := Int.emod_nonneg y (show (m : Int) ≠ 0 by omega)
  obtain ⟨i, hi⟩ : ∃ i : Nat, y % (m : Int) = i := ⟨(y % (m : Int)).toNat, by omega⟩
  rw [hy]
  unfold cAcc
  rw [hi, Int.toNat_natCast]
  obtain ⟨r, hrr⟩ : ∃ r, rows.getD i [] = r := ⟨_, rfl⟩
  have hsh := hr.short i
  rw [hrr] at hsh ⊢
  rcases idx_cases r y with ⟨k, hk, he, hmem, her⟩ | ⟨he, hmem, her⟩
  · have := access_hit g h x y hx hx2 hy hbw hi r _ hrr k hk rfl he hsh
    have e1 : cRow W y r = y :: r.eraseIdx k := by
      unfold cRow
      rw [her, List.take_of_length_le]
      rw [List.length_cons, List.length_eraseIdx, if_pos hk]
      omega
    rw [e1, decide_eq_true hmem]
    exact this
  · rw [decide_eq_false hmem]
    by_cases c : (r.length : Int) < W
    · have := access_miss g h x y hx hx2 hy hbw hi r hrr he c
      have e1 : cRow W y r = y :: r := by
        unfold cRow
        rw [her, List.take_of_length_le]
        rw [List.length_cons]
        omega
      rw [e1]
      exact this
    · have c' : (r.length : Int) = W := by omega
      have := access_full g h x y hx hx2 hy hbw hi r hrr he c'
      have e1 : cRow W y r = (y :: r).take r.length := by
        unfold cRow
        rw [her, ← c', Int.toNat_natCast]
      rw [e1]
      exact this

theorem cache_access_neg {w : World} {q : Nat} (x : Int) (hx : x < 0) :
    Calls Try.prog 27 #[.pointer (some ⟨q, 0, none⟩), .int .i64 x] w fun e w' => e = .returned (.bool false) ∧ Ext w w' := by
  go_enter Try.func27, Try.ntmps27
  go_wp2
  go_ret
  exact ⟨rfl, Ext.refl _⟩
end Go.Proofs.Ytdbgnniedcibeaa
