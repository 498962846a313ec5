/- The contracts of ontimelaw31.small and ontimelaw31.after. -/
import Derived.Test.YtjckghdgogkeaaaRef1
import Derived.Test.YtjckghdgogkeaaaMay9
namespace Go.Proofs.Ytjckghdgogkeaaa
open Go.RowKit Go.Maps Go.Proofs.YtjckghdgogkeaaaW.PrintWords Go.Proofs.Ytjckghdgogkeaaa.PMayDescribes
set_option linter.unusedVariables false

/-! ### small -/
def okStep (x : S45) : Bool := decide (¬ x.f0 < -4000 ∧ ¬ x.f0 > 4000 ∧ ¬ x.f1 < -4000 ∧ ¬ x.f1 > 4000)
def smallB (S W L : Int) (l : List S45) : Bool := vldB S W L && (decide (S ≤ 16) && (decide (W ≤ 16) && (decide (l.length ≤ 40) && l.all okStep)))
theorem power_f (n most : Int) (hm : most ≤ 64) : cache_power.f n most = some (powB n most) := by
  unfold cache_power.f
  by_cases h1 : n ≥ 1
  · rw [if_pos h1]
    by_cases h2 : n ≤ most
    · rw [if_pos h2, w64 (by omega), pow_bits n h1 (by omega)]
      unfold powB
      simp [h2]
    · rw [if_neg h2]
      unfold powB
      simp; omega
  · rw [if_neg h1]
    have : powB n most = false := by unfold powB Pow; simp; omega
    rw [this]
theorem valid_f (S W L : Int) : cache_Valid.f S W L = some (vldB S W L) := by
  unfold cache_Valid.f
  rw [power_f _ _ (by omega), power_f _ _ (by omega)]
  unfold vldB
  simp only [Option.bind_some]
  by_cases h1 : powB S 64 = true
  · rw [if_pos h1]
    by_cases h2 : W ≥ 1
    · rw [if_pos h2]
      by_cases h3 : W ≤ 8
      · rw [if_pos h3]
        have h2' : 1 ≤ W := h2
        simp [h1, h2', h3]
      · rw [if_neg h3]
        simp [h1, h3]
    · rw [if_neg h2]
      have h2' : ¬ 1 ≤ W := h2
      simp [h1, h2']
  · rw [if_neg h1]
    simp [h1]
theorem small_l0 (l : List S45) (hl : l.length < 100000) : ∀ (r pre : List S45) (k : Nat), l = pre ++ r → r.length + 1 ≤ k → ontimelaw31_small.l0 k l (l.length : Int) (pre.length : Int) = some (r.all okStep) := by
  intro r
  induction r with
  | nil =>
    intro pre k h hk
    obtain ⟨k, rfl⟩ : ∃ j, k = j + 1 := ⟨k - 1, by omega⟩
    simp only [List.append_nil] at h
    subst h
    rw [ontimelaw31_small.l0, if_neg (by omega)]
    rfl
  | cons a t ih =>
    intro pre k h hk
    obtain ⟨k, rfl⟩ : ∃ j, k = j + 1 := ⟨k - 1, by simp at hk; omega⟩
    have hlt : (pre.length : Int) < (l.length : Int) := by subst h; simp; omega
    have hr : rd_T45 l (pre.length : Int) = a := rowAt h _
    have hw : wrap64 ((pre.length : Int) + 1) = ((pre ++ [a]).length : Int) := by
      simp only [List.length_append, List.length_singleton]
      rw [w64] <;> omega
    simp only [List.length_cons] at hk
    rw [ontimelaw31_small.l0, if_pos hlt, if_pos (by omega), if_pos hlt, hr, hw, ih (pre ++ [a]) k (by simp [h]) (by omega)]
    simp only [List.all_cons]
    by_cases c1 : a.f0 < -4000
    · rw [if_pos c1]; simp [okStep]; intro; omega
    rw [if_neg c1]
    by_cases c2 : a.f0 > 4000
    · rw [if_pos c2]; simp [okStep]; intro; omega
    rw [if_neg c2]
    by_cases c3 : a.f1 < -4000
    · rw [if_pos c3]; simp [okStep]; intros; omega
    rw [if_neg c3]
    by_cases c4 : a.f1 > 4000
    · rw [if_pos c4]; simp [okStep]; intros; omega
    rw [if_neg c4]
    have : okStep a = true := by unfold okStep; exact decide_eq_true ⟨c1, c2, c3, c4⟩
    rw [this]; rfl
theorem small_f (S W L : Int) (l : List S45) : ∃ k, ontimelaw31_small.f k S W L l = some (smallB S W L l) := by
  refine ⟨60, ?_⟩
  unfold ontimelaw31_small.f smallB
  rw [valid_f]
  simp only [Option.bind_some]
  by_cases h1 : vldB S W L = true
  · rw [if_pos h1]
    by_cases h2 : S > 16
    · rw [if_pos h2, ontimelaw31_small.j0]
      have : ¬ S ≤ 16 := by omega
      simp [this]
    rw [if_neg h2]
    by_cases h3 : W > 16
    · rw [if_pos h3, ontimelaw31_small.j0]
      have : ¬ W ≤ 16 := by omega
      simp [this]
    rw [if_neg h3, ontimelaw31_small.j0]
    by_cases h4 : l.length ≤ 40
    · have e : ¬ (l.length : Int) > 40 := by omega
      have h2' : S ≤ 16 := by omega
      have h3' : W ≤ 16 := by omega
      simp only [e, decide_false, Bool.false_eq_true, if_false]
      have := small_l0 l (by omega) l [] 59 rfl (by omega)
      simp only [List.length_nil] at this
      rw [show ((0 : Nat) : Int) = 0 from rfl] at this
      rw [this]
      simp [h1, h2', h3', h4]
    · have e : (l.length : Int) > 40 := by omega
      simp [e, h4]
  · rw [if_neg h1, ontimelaw31_small.j0]
    simp [h1]
theorem small_any (S W L : Int) (A : Option Addr) (c : Nat) (l : List S45) (w : World) (hr : k45.C w A l.length l) (hc : l.length ≤ c) :
    Calls Try.prog 12 #[.agg #[.int .i64 S, .int .i64 W, .int .i64 L], .slice A l.length c] w fun e w' => e = .returned (.bool (smallB S W L l)) ∧ Ext w w' := by
  obtain ⟨k, h⟩ := small_f S W L l
  exact ontimelaw31_small.calls k S W L A c l _ w hr hc h
structure SmallIs (S W L : Int) (l : List S45) : Prop where
  geo : Geo S W L
  s16 : S ≤ 16
  len : l.length ≤ 40
  step : ∀ x ∈ l, -4000 ≤ x.f0 ∧ x.f0 ≤ 4000 ∧ -4000 ≤ x.f1 ∧ x.f1 ≤ 4000
theorem small_is {S W L : Int} {l : List S45} (h : smallB S W L l = true) : SmallIs S W L l := by
  unfold smallB at h
  simp only [Bool.and_eq_true, decide_eq_true_eq] at h
  obtain ⟨h1, h2, h3, h4, h5⟩ := h
  refine ⟨(vld_iff _ _ _).1 h1, h2, h4, fun x hx => ?_⟩
  have := List.all_eq_true.1 h5 x hx
  simp only [okStep, decide_eq_true_eq] at this
  omega

/-! ### after -/
def sSteps (S W : Int) : St → List S45 → St := List.foldl fun st x => sStep S W st x.f0 x.f1
def rSteps (S W : Int) : RS → List S45 → RS := List.foldl fun s x => rStep S W s x.f0 x.f1
theorem Rel.steps {S W : Int} (hS : 0 < S) (hW : 1 ≤ W) : ∀ (l : List S45) {st : St} {s : RS}, Rel W st s → Rel W (sSteps S W st l) (rSteps S W s l)
  | [], _, _, h => h
  | x :: t, _, _, h => Rel.steps hS hW t (h.step hS hW x.f0 x.f1)
theorem rSteps_len (S W : Int) : ∀ (l : List S45) (s : RS), (rSteps S W s l).2.length ≤ s.2.length + 64 * l.length
  | [], s => by simp [rSteps]
  | x :: t, s => by
    have h1 := rSteps_len S W t (rStep S W s x.f0 x.f1)
    have h2 := rStep_len S W s x.f0 x.f1
    show (rSteps S W (rStep S W s x.f0 x.f1) t).2.length ≤ _
    simp only [List.length_cons]
    omega
/-- The reference's list lies in w as v, in a block of its own from base on. -/
def RfB (w : World) (base : Nat) (v : Value) (l : List S81) : Prop := k81.R 81 w base (fun k => some k = v.ownBlock) v l
theorem RfB.own {w : World} {base : Nat} {v : Value} {l : List S81} (h : RfB w base v l) {g : Nat} (hg : some g = v.ownBlock) : g < w.heap.size ∧ ∃ cells, w.heap[g]? = some (.cells cells 81 (0, 0)) := by
  obtain ⟨_, _, h2, q, hq, cells, hb⟩ := (Kd.R_bound h).1 g hg.symm
  have : q = 81 := by
    rcases List.mem_cons.1 hq with h | h
    · exact h
    · cases h
  subst this
  exact ⟨h2, cells, hb⟩
theorem RfB.ext {w w' : World} {base : Nat} {v : Value} {l : List S81} (h : RfB w base v l) (e : Ext w w') : RfB w' base v l := Kd.R_below h e
theorem RfB.alloc {w : World} {base : Nat} {v : Value} {l : List S81} (h : RfB w base v l) (o : Obj) : RfB (w.alloc o) base v l := h.ext ((Ext.refl w).alloc o)
/-- A store into a block of another kind. -/
theorem RfB.set {w : World} {base : Nat} {v : Value} {l : List S81} {g k : Nat} {cs : Array Value} {t : TypeId} {u : Value} (hb : Blk w g (.cells cs t)) (ht : t ≠ 81) (h : RfB w base v l) : RfB (w.setCell ⟨g, k, none⟩ u) base v l := by
  refine Kd.R_far h (p := ⟨g, k, none⟩) (fun j hj => ?_) u
  rintro rfl
  obtain ⟨_, cells, he⟩ := h.own hj
  unfold Blk at hb
  rw [hb] at he
  cases he
  exact ht rfl
theorem kept_ne {w w' : World} {base : Nat} {v : Value} {l : List S81} (h : RfB w base v l) (hk : Kept w w' (fun k => some k = v.ownBlock)) {b : Nat} (hlt : b < w.heap.size) (ho : ∀ cells, w.heap[b]? ≠ some (.cells cells 81 (0, 0))) : w'.heap[b]? = w.heap[b]? :=
  hk.2 b hlt fun e => by
    obtain ⟨_, cells, he⟩ := h.own e
    exact ho cells he
theorem kept_blk {w w' : World} {base : Nat} {v : Value} {l : List S81} (h : RfB w base v l) (hk : Kept w w' (fun k => some k = v.ownBlock)) {b : Nat} {cs : Array Value} {t : TypeId} (hb : Blk w b (.cells cs t)) (ht : t ≠ 81) : Blk w' b (.cells cs t) := by
  refine (kept_ne h hk hb.lt fun cells e => ?_).trans hb
  unfold Blk at hb
  rw [hb] at e
  cases e
  exact ht rfl
theorem kept_st {w w' : World} {base : Nat} {v : Value} {l : List S81} (h : RfB w base v l) (hk : Kept w w' (fun k => some k = v.ownBlock)) {W : Int} {n : Nat} {st : St} {u : Bool} {p : Option Nat} (hs : StB w W n st u p) : StB w' W n st u p := by
  rcases hs with hs | ⟨h1, f, h2, h3, h4⟩
  · exact .inl hs
  · refine .inr ⟨h1, f, h2, h3.same fun b e => ?_, h4⟩
    rcases h3 with ⟨rfl, _⟩ | ⟨b', rfl, h3⟩
    · cases e
    · cases e
      obtain ⟨D, ⟨es, clock, hb, _⟩, _⟩ := h3
      have hlt : b < w.heap.size := (Array.getElem?_eq_some_iff.1 hb).1
      exact kept_ne h hk hlt fun cells e => by rw [hb] at e; cases e

theorem rstep_acc {S W L : Int} (g : Geo S W L) (x : Int) (s : RS) (v : Value) (w0 w : World) (hB : Ext w0 w) (ho : RfB w w0.heap.size v s.2) (hf : FitL W s.2) (hl : s.2.length < 50000) :
    Calls Try.prog 33 #[.agg #[.int .i64 S, .int .i64 W, .int .i64 L, .bool s.1, v], .int .i64 x] w fun e w' => ∃ v', e = .returned (.agg #[.int .i64 S, .int .i64 W, .int .i64 L, .bool (rAcc S W s x).1, v']) ∧ RfB w' w0.heap.size v' (rAcc S W s x).2 ∧ Ext w0 w' ∧ Kept w w' (fun k => some k = v.ownBlock) := by
  have hs := g.s1
  refine (ontimeref31_State_Access.calls _ S W L s.1 _ v s.2 x _ _ _ _ _ w0 w hB ho (acc_f x S W L s (by omega) g.w1 g.w8 hf (by omega) _ (Nat.le_refl _))).mono ?_
  rintro e w' ⟨v', he, h1, h2, h3⟩
  exact ⟨v', he, Kd.R_tight rfl h1, h2, h3⟩
theorem rstep_range {S W L : Int} (g : Geo S W L) (lo hi : Int) (hlo : -4000 ≤ lo ∧ lo ≤ 4000) (hhi : -4000 ≤ hi ∧ hi ≤ 4000) (s : RS) (v : Value) (w0 w : World) (hB : Ext w0 w) (ho : RfB w w0.heap.size v s.2) (hf : FitL W s.2) (hl : s.2.length < 50000) :
    Calls Try.prog 34 #[.agg #[.int .i64 S, .int .i64 W, .int .i64 L, .bool s.1, v], .int .i64 lo, .int .i64 hi] w fun e w' => ∃ v', e = .returned (.agg #[.int .i64 S, .int .i64 W, .int .i64 L, .bool (rRange S W s lo hi).1, v']) ∧ RfB w' w0.heap.size v' (rRange S W s lo hi).2 ∧ Ext w0 w' ∧ Kept w w' (fun k => some k = v.ownBlock) := by
  have hs := g.s1
  refine (ontimeref31_State_AccessRange.calls _ S W L s.1 _ v s.2 lo hi _ _ _ _ _ w0 w hB ho (range_f lo hi S W L (by omega) (by omega) (by omega) (by omega) s (by omega) g.w1 g.w8 hf hl _ (Nat.le_refl _))).mono ?_
  rintro e w' ⟨v', he, h1, h2, h3⟩
  exact ⟨v', he, Kd.R_tight rfl h1, h2, h3⟩
end Go.Proofs.Ytjckghdgogkeaaa
