/- The reference's accesses on lists of bounds: plain laws over the printed forms of Access and touched; the contract of AccessRange. -/
import Derived.Test.YtaekkfgggmighaaMuBS
namespace Go.Proofs.Ytaekkfgggmighaa
open Go.RowKit Go.Maps Go.Proofs.YtaekkfgggmighaaW.PrintWords Go.Proofs.Ytaekkfgggmighaa.Pgreat Go.Proofs.Ytaekkfgggmighaa.PAccessRange
set_option linter.unusedVariables false

/-! ### a list, line by line -/
def bMap (g : Int → Int → Option Int) : List S64 → List S64
  | [] => []
  | b :: t => match g b.f0 b.f1 with
    | none => bMap g t
    | some v => ⟨b.f0, v⟩ :: bMap g t
theorem bMap_append (g : Int → Int → Option Int) : ∀ l m : List S64, bMap g (l ++ m) = bMap g l ++ bMap g m
  | [], m => rfl
  | b :: t, m => by
    simp only [List.cons_append, bMap]
    cases g b.f0 b.f1 with
    | none => exact bMap_append g t m
    | some v => simp [bMap_append g t m]
theorem bMap_len (g : Int → Int → Option Int) : ∀ l : List S64, (bMap g l).length ≤ l.length
  | [] => Nat.le_refl _
  | b :: t => by
    simp only [bMap]
    have := bMap_len g t
    cases g b.f0 b.f1 with
    | none => simp only [List.length_cons]; omega
    | some v => simp only [List.length_cons]; omega
theorem bMap_mem (g : Int → Int → Option Int) : ∀ (l : List S64) (y : Int), y ∈ (bMap g l).map S64.f0 → y ∈ l.map S64.f0
  | [], _, h => h
  | b :: t, y, h => by
    simp only [bMap] at h
    cases hg : g b.f0 b.f1 with
    | none => rw [hg] at h; exact List.mem_cons_of_mem _ (bMap_mem g t y h)
    | some v =>
      rw [hg] at h
      rcases List.mem_cons.1 h with h | h
      · rw [h]; exact List.mem_cons_self
      · exact List.mem_cons_of_mem _ (bMap_mem g t y h)
theorem nodup_bMap (g : Int → Int → Option Int) : ∀ {l : List S64}, (l.map S64.f0).Nodup → ((bMap g l).map S64.f0).Nodup
  | [], h => h
  | b :: t, h => by
    simp only [List.map_cons, List.nodup_cons] at h
    simp only [bMap]
    cases g b.f0 b.f1 with
    | none => exact nodup_bMap g h.2
    | some v =>
      simp only [List.map_cons, List.nodup_cons]
      exact ⟨fun hm => h.1 (bMap_mem g t _ hm), nodup_bMap g h.2⟩
theorem bLook_none {l : List S64} {y : Int} (h : ¬ y ∈ l.map S64.f0) : bLook l y = none := by
  cases e : bLook l y with
  | none => rfl
  | some v => exact absurd ((bLook_isSome l y).1 (by rw [e]; rfl)) h
theorem bLook_bMap (g : Int → Int → Option Int) (y : Int) : ∀ {l : List S64}, (l.map S64.f0).Nodup → bLook (bMap g l) y = (bLook l y).bind (g y)
  | [], _ => rfl
  | b :: t, h => by
    simp only [List.map_cons, List.nodup_cons] at h
    have ih := bLook_bMap g y h.2
    simp only [bMap, bLook]
    by_cases c : b.f0 = y
    · rw [if_pos c]
      have hn : bLook t y = none := bLook_none (by rw [← c]; exact h.1)
      rw [← c]
      cases hg : g b.f0 b.f1 with
      | none =>
        simp only [Option.bind_some, hg]
        rw [c, ih, hn]; rfl
      | some v =>
        simp only [Option.bind_some, hg, bLook, if_true]
    · rw [if_neg c]
      cases hg : g b.f0 b.f1 with
      | none => exact ih
      | some v =>
        simp only [bLook]
        rw [if_neg c, ih]

/-! ### touched -/
theorem touched_l0 {S : Int} (W L : Int) (hs : 1 ≤ S) (hs64 : S ≤ 64) (lo hi y : Int) (hlo : 0 ≤ lo) (hlo2 : lo ≤ 1000000) (hy : 0 ≤ y) : ∀ (d : Nat) (i : Int) (k : Nat), 0 ≤ i → i + d = (y - lo) % S → 2 * d + 2 ≤ k → ontimeref30_touched.l0 k (y % S) lo hi i S W L = some (decide ((y - lo) % S ≤ hi - lo)) := by
  have hd0 := Int.emod_nonneg (y - lo) (show S ≠ 0 by omega)
  have hd1 := Int.emod_lt_of_pos (y - lo) (show 0 < S by omega)
  have hmod : ∀ i, 0 ≤ i → Int.tmod (lo + i) S = (lo + i) % S := fun i hi => Int.tmod_eq_emod_of_nonneg (by omega)
  have heq : ∀ i, 0 ≤ i → i < S → ((lo + i) % S = y % S ↔ i = (y - lo) % S) := fun i h0 h1 => by
    constructor
    · intro e
      have e2 : (lo + i - lo) % S = (y - lo) % S := by rw [Int.sub_emod, e, ← Int.sub_emod]
      rw [show lo + i - lo = i by omega, Int.emod_eq_of_lt h0 h1] at e2
      exact e2
    · intro e
      rw [e, Int.add_emod, Int.emod_emod, ← Int.add_emod, show lo + (y - lo) = y by omega]
  intro d
  induction d with
  | zero =>
    intro i k h0 hi2 hk
    obtain ⟨k, rfl⟩ : ∃ j, k = j + 2 := ⟨k - 2, by omega⟩
    have hi3 : i = (y - lo) % S := by omega
    have hw : wrap64 (lo + i) = lo + i := w64 (by omega)
    rw [ontimeref30_touched.l0, if_pos (by omega), ontimeref30_touched.j1, hw]
    by_cases c : lo + i ≤ hi
    · rw [if_pos (by simpa using c), if_neg (by omega), hmod i h0, if_pos ((heq i h0 (by omega)).2 hi3)]
      congr 1
      symm
      rw [decide_eq_true_eq]
      omega
    · rw [if_neg (by simpa using c)]
      congr 1
      symm
      rw [decide_eq_false_iff_not]
      omega
  | succ d ih =>
    intro i k h0 hi2 hk
    obtain ⟨k, rfl⟩ : ∃ j, k = j + 2 := ⟨k - 2, by omega⟩
    have hw : wrap64 (lo + i) = lo + i := w64 (by omega)
    have hw2 : wrap64 (i + 1) = i + 1 := w64 (by omega)
    rw [ontimeref30_touched.l0, if_pos (by omega), ontimeref30_touched.j1, hw]
    by_cases c : lo + i ≤ hi
    · rw [if_pos (by simpa using c), if_neg (by omega), hmod i h0, if_neg (fun e => by have := (heq i h0 (by omega)).1 e; omega), hw2]
      exact ih (i + 1) k (by omega) (by omega) (by omega)
    · rw [if_neg (by simpa using c)]
      congr 1
      symm
      rw [decide_eq_false_iff_not]
      omega
theorem touched_at {S : Int} (W L : Int) (hs : 1 ≤ S) (hs64 : S ≤ 64) (lo hi y : Int) (hlo : 0 ≤ lo) (hlo2 : lo ≤ 1000000) (hy : 0 ≤ y) (Z : Int) (hZ : y % S = Z) (B : Bool) (hB : decide ((y - lo) % S ≤ hi - lo) = B) (w : World) :
    Calls Try.prog 45 #[.agg #[.int .i64 S, .int .i64 W, .int .i64 L], .int .i64 Z, .int .i64 lo, .int .i64 hi] w fun e w' => e = .returned (.bool B) ∧ Ext w w' := by
  subst hZ hB
  have hd0 := Int.emod_nonneg (y - lo) (show S ≠ 0 by omega)
  have := touched_l0 W L hs hs64 lo hi y hlo hlo2 hy ((y - lo) % S).toNat 0 _ (Int.le_refl _) (by omega) (Nat.le_refl _)
  exact ontimeref30_touched.calls _ S W L (y % S) lo hi _ w this

/-! ### Access -/
/-- What an access of x, whose bound is h (-1: none), makes of a bound. -/
def gAcc (S W h x : Int) (y c : Int) : Option Int := if y = x then none else if y % S = x % S ∧ (h < 0 ∨ c < h) then (if c + 1 < W then some (c + 1) else none) else (if c < W then some c else none)
theorem acc_l0 {S : Int} (W L : Int) (hs : 1 ≤ S) (hw8 : W ≤ 8) (h x : Int) (hx : 0 ≤ x) (l : List S64) (hl : l.length < 100000) (hb : ∀ b ∈ l, 0 ≤ b.f0 ∧ 0 ≤ b.f1 ∧ b.f1 < W) :
    ∀ (r pre acc : List S64) (k : Nat), l = pre ++ r → acc.length + r.length < 200000 → 2 * r.length + 1 ≤ k → ontimeref30_Access.l0 k l x h acc (pre.length : Int) S W L = some (acc ++ bMap (gAcc S W h x) r ++ [⟨x, 0⟩]) := by
  intro r
  induction r with
  | nil =>
    intro pre acc k hp ha hk
    obtain ⟨k, rfl⟩ : ∃ j, k = j + 1 := ⟨k - 1, by omega⟩
    simp only [List.append_nil] at hp
    subst hp
    simp only [List.length_nil] at ha
    rw [ontimeref30_Access.l0, if_neg (by omega), if_pos (by omega)]
    simp [bMap]
  | cons a t ih =>
    intro pre acc k hp ha hk
    simp only [List.length_cons] at ha hk
    obtain ⟨k, rfl⟩ : ∃ j, k = j + 2 := ⟨k - 2, by omega⟩
    have hlt : (pre.length : Int) < (l.length : Int) := by subst hp; simp; omega
    have hr : rd_T64 l (pre.length : Int) = a := rd64 hp
    obtain ⟨a0, a1, a2⟩ := hb a (by rw [hp]; simp)
    have hw : wrap64 ((pre.length : Int) + 1) = ((pre ++ [a]).length : Int) := by
      simp only [List.length_append, List.length_singleton]
      rw [w64] <;> omega
    have hw1 : wrap64 (a.f1 + 1) = a.f1 + 1 := w64 (by omega)
    have ht0 : Int.tmod a.f0 S = a.f0 % S := Int.tmod_eq_emod_of_nonneg a0
    have ht1 : Int.tmod x S = x % S := Int.tmod_eq_emod_of_nonneg hx
    have ih1 := fun acc' (h : acc'.length + t.length < 200000) => ih (pre ++ [a]) acc' k (by simp [hp]) h (by omega)
    have ih2 := fun acc' (h : acc'.length + t.length < 200000) => ih (pre ++ [a]) acc' (k + 1) (by simp [hp]) h (by omega)
    have al : ∀ b : S64, (acc ++ [b]).length + t.length < 200000 := fun b => by simp only [List.length_append, List.length_singleton]; omega
    rw [ontimeref30_Access.l0, if_pos hlt, if_pos (by omega), hr]
    by_cases c1 : a.f0 = x
    · rw [if_pos c1, hw, ih2 acc (by omega)]
      have : gAcc S W h x a.f0 a.f1 = none := if_pos c1
      simp only [bMap, this]
    rw [if_neg c1, if_neg (by omega), ht0, ht1]
    have keepT : (gAcc S W h x a.f0 a.f1 = if a.f1 + 1 < W then some (a.f1 + 1) else none) → ontimeref30_Access.j1 (k + 1) l x h acc (pre.length : Int) true S W L a.f0 a.f1 = some (acc ++ bMap (gAcc S W h x) (a :: t) ++ [⟨x, 0⟩]) := fun e => by
      rw [ontimeref30_Access.j1, if_pos rfl, hw1]
      by_cases c4 : a.f1 + 1 < W
      · rw [if_pos c4] at e
        rw [if_pos c4, if_pos (by omega), hw, ih1 _ (al _)]
        simp only [bMap, e, List.append_assoc, List.cons_append, List.nil_append]
      · rw [if_neg c4] at e
        rw [if_neg c4, hw, ih1 acc (by omega)]
        simp only [bMap, e]
    have keepF : (gAcc S W h x a.f0 a.f1 = if a.f1 < W then some a.f1 else none) → ontimeref30_Access.j1 (k + 1) l x h acc (pre.length : Int) false S W L a.f0 a.f1 = some (acc ++ bMap (gAcc S W h x) (a :: t) ++ [⟨x, 0⟩]) := fun e => by
      rw [ontimeref30_Access.j1, if_neg (by simp)]
      by_cases c4 : a.f1 < W
      · rw [if_pos c4] at e
        rw [if_pos c4, if_pos (by omega), hw, ih1 _ (al _)]
        simp only [bMap, e, List.append_assoc, List.cons_append, List.nil_append]
      · rw [if_neg c4] at e
        rw [if_neg c4, hw, ih1 acc (by omega)]
        simp only [bMap, e]
    by_cases c2 : a.f0 % S = x % S
    · rw [if_pos c2]
      by_cases c3 : h < 0
      · rw [if_pos c3]
        refine keepT ?_
        unfold gAcc
        rw [if_neg c1, if_pos ⟨c2, .inl c3⟩]
      · rw [if_neg c3]
        by_cases c5 : a.f1 < h
        · rw [decide_eq_true c5]
          refine keepT ?_
          unfold gAcc
          rw [if_neg c1, if_pos ⟨c2, .inr c5⟩]
        · rw [decide_eq_false c5]
          refine keepF ?_
          unfold gAcc
          rw [if_neg c1, if_neg (by rintro ⟨_, h | h⟩ <;> omega)]
    · rw [if_neg c2]
      refine keepF ?_
      unfold gAcc
      rw [if_neg c1, if_neg (fun h => c2 h.1)]
/-- The list after an access. -/
def rAccL (S W x : Int) (l : List S64) : List S64 := bMap (gAcc S W ((bLook l x).getD (-1)) x) l ++ [⟨x, 0⟩]
theorem acc_f {S : Int} (W L : Int) (hs : 1 ≤ S) (hw8 : W ≤ 8) (x : Int) (hx : 0 ≤ x) (l : List S64) (hl : l.length < 100000) (hb : ∀ b ∈ l, 0 ≤ b.f0 ∧ 0 ≤ b.f1 ∧ b.f1 < W) : ontimeref30_Access.f (2 * l.length + 1) S W L l x = some (rAccL S W x l) := by
  unfold ontimeref30_Access.f
  rw [if_neg (by omega), find_f l x hl _ (by omega)]
  simp only [Option.bind_some]
  have := acc_l0 W L hs hw8 ((bLook l x).getD (-1)) x hx l hl hb l [] [] (2 * l.length + 1) rfl (by simp; omega) (Nat.le_refl _)
  simp only [List.length_nil, List.nil_append] at this
  exact this
theorem BRep.fit {W : Int} {l : List S64} {f : FM} (h : BRep l f) (hf : Fit W f) : ∀ b ∈ l, 0 ≤ b.f0 ∧ 0 ≤ b.f1 ∧ b.f1 < W := fun b hb => by
  have e := bLook_mem h.nodup hb
  rw [h.look] at e
  exact hf _ _ e
theorem rep_acc {S W x : Int} {l : List S64} {f : FM} (h : BRep l f) (hf : Fit W f) (hw : 1 ≤ W) : BRep (rAccL S W x l) (uAcc S W f x) := by
  have hnx : ∀ hh : Int, bLook (bMap (gAcc S W hh x) l) x = none := fun hh => by
    rw [bLook_bMap _ _ h.nodup]
    cases bLook l x with
    | none => rfl
    | some c =>
      show gAcc S W hh x x c = none
      exact if_pos rfl
  unfold rAccL
  refine ⟨?_, fun y => ?_⟩
  · rw [List.map_append, List.nodup_append]
    refine ⟨nodup_bMap _ h.nodup, by simp, fun a ha b hb e => ?_⟩
    simp at hb
    subst hb
    subst e
    have := (bLook_isSome _ _).2 ha
    rw [hnx] at this
    cases this
  · rw [bLook_append, bLook_bMap _ _ h.nodup, h.look, h.look]
    unfold uAcc put
    by_cases c : y = x
    · subst c
      rw [if_pos rfl]
      cases hy : f y with
      | none => simp [bLook]
      | some b =>
        have : gAcc S W ((some b).getD (-1)) y y b = none := if_pos rfl
        simp only [Option.bind_some, this]
        simp [bLook]
    · rw [if_neg c]
      have e2 : bLook [⟨x, 0⟩] y = none := by simp only [bLook]; rw [if_neg (fun e => c e.symm)]
      rw [e2, Option.or_none]
      cases hy : f y with
      | none => rw [mUp_none hy]; rfl
      | some b =>
        have hb := hf y b hy
        simp only [Option.bind_some]
        have key : (y % S = x % S ∧ ((f x).getD (-1) < 0 ∨ b < (f x).getD (-1))) ↔ accM S x ((f x).getD W) y b = true := by
          unfold accM
          simp only [Bool.and_eq_true, Bool.not_eq_true', decide_eq_false_iff_not, decide_eq_true_eq]
          cases hfx : f x with
          | none => simp only [Option.getD_none]; omega
          | some d =>
            have := hf x d hfx
            simp only [Option.getD_some]
            omega
        unfold gAcc
        rw [if_neg c]
        by_cases hk : accM S x ((f x).getD W) y b = true
        · rw [if_pos (key.2 hk)]
          by_cases hc : b + 1 < W
          · rw [if_pos hc, mUp_up hy hk hc]
          · rw [if_neg hc, mUp_out hy hk hc]
        · rw [if_neg (fun h => hk (key.1 h)), if_pos hb.2.2, mUp_keep hy (by simpa using hk)]
/-- What an access of a range makes of a bound. -/
def gRng (S W lo hi : Int) (y c : Int) : Option Int := if (y - lo) % S ≤ hi - lo then (if c + 1 < W then some (c + 1) else none) else (if c < W then some c else none)
theorem rep_rng {S W lo hi : Int} {l : List S64} {f : FM} (h : BRep l f) (hf : Fit W f) : BRep (bMap (gRng S W lo hi) l) (mUp W (rngM S lo hi) f) := by
  refine ⟨nodup_bMap _ h.nodup, fun y => ?_⟩
  rw [bLook_bMap _ _ h.nodup, h.look]
  cases hy : f y with
  | none => rw [mUp_none hy]; rfl
  | some b =>
    have hb := hf y b hy
    simp only [Option.bind_some]
    unfold gRng
    by_cases c : (y - lo) % S ≤ hi - lo
    · have hm : rngM S lo hi y b = true := decide_eq_true c
      rw [if_pos c]
      by_cases hc : b + 1 < W
      · rw [if_pos hc, mUp_up hy hm hc]
      · rw [if_neg hc, mUp_out hy hm hc]
    · have hm : rngM S lo hi y b = false := decide_eq_false c
      rw [if_neg c, if_pos hb.2.2, mUp_keep hy hm]

/-! ### the list's own memory -/
/-- The bounds lie in w as v, in a block of their own from base on. -/
def BndO (w : World) (base : Nat) (v : Value) (l : List S64) : Prop := k64.R 64 w base (fun k => some k = v.ownBlock) v l
theorem BndO.nil (w : World) (base : Nat) : BndO w base (.slice none 0 0) [] := Kd.R_nil _ _ _ _ _
theorem BndO.own {w : World} {base : Nat} {v : Value} {l : List S64} (h : BndO w base v l) {g : Nat} (hg : some g = v.ownBlock) : g < w.heap.size ∧ ∃ cells, w.heap[g]? = some (.cells cells 64 (0, 0)) := by
  obtain ⟨_, _, h2, q, hq, cells, hb⟩ := (Kd.R_bound h).1 g hg.symm
  have : q = 64 := by
    rcases List.mem_cons.1 hq with h | h
    · exact h
    · cases h
  subst this
  exact ⟨h2, cells, hb⟩
theorem BndO.ext {w w' : World} {base : Nat} {v : Value} {l : List S64} (h : BndO w base v l) (e : Ext w w') : BndO w' base v l := Kd.R_below h e
theorem BndO.lower {w : World} {base base' : Nat} {v : Value} {l : List S64} (h : BndO w base v l) (e : base' ≤ base) : BndO w base' v l := Kd.R_lower h e
theorem BndO.of {w : World} {base : Nat} {ok : Nat → Prop} {v : Value} {l : List S64} (h : k64.R 64 w base ok v l) : BndO w base v l :=
  ⟨fun k hk => hk.symm, h.2.imp_ (fun p c hp => by obtain rfl := k64_openM hp; exact k64_mkM _ _ _ _)⟩
theorem BndO.slice {w : World} {base : Nat} {v : Value} {l : List S64} (h : BndO w base v l) : ∃ A c, v = .slice A l.length c ∧ l.length ≤ c ∧ k64.C w A l.length l := by
  obtain ⟨A, c, rfl⟩ := Kd.R_slice h
  exact ⟨A, c, rfl, (Kd.R_reads' h).2⟩
/-- What a call leaves as it is that may turn the block of such a list. -/
def KeptO (w w' : World) (v : Value) : Prop := Kept w w' (fun k => some k = v.ownBlock)
theorem KeptO.ofExt {w w' : World} (h : Ext w w') (v : Value) : KeptO w w' v := Kept.of_below h _
theorem KeptO.ne {w w' : World} {base : Nat} {v : Value} {l : List S64} (hk : KeptO w w' v) (h : BndO w base v l) {b : Nat} (hlt : b < w.heap.size) (ho : ∀ cells, w.heap[b]? ≠ some (.cells cells 64 (0, 0))) : w'.heap[b]? = w.heap[b]? :=
  hk.2 b hlt fun e => by
    obtain ⟨_, cells, he⟩ := h.own e
    exact ho cells he
theorem KeptO.blk {w w' : World} {base : Nat} {v : Value} {l : List S64} (hk : KeptO w w' v) (h : BndO w base v l) {b : Nat} {cs : Array Value} {t : TypeId} (hb : Blk w b (.cells cs t)) (ht : t ≠ 64) : Blk w' b (.cells cs t) := by
  refine (hk.ne h hb.lt fun cells e => ?_).trans hb
  unfold Blk at hb
  rw [hb] at e
  cases e
  exact ht rfl
theorem KeptO.mb {w w' : World} {base : Nat} {v : Value} {l : List S64} (hk : KeptO w w' v) (h : BndO w base v l) {W : Int} {n : Nat} {f : FM} {p : Option Nat} (hs : MB w W n f p) : MB w' W n f p := by
  refine ⟨hs.1.same fun b e => ?_, hs.2⟩
  rcases hs.1 with ⟨rfl, _⟩ | ⟨b', rfl, h3⟩
  · cases e
  · cases e
    obtain ⟨D, ⟨es, clock, hb, _⟩, _⟩ := h3
    have hlt : b < w.heap.size := (Array.getElem?_eq_some_iff.1 hb).1
    exact hk.ne h hlt fun cells e => by rw [hb] at e; cases e
theorem KeptO.ext {w0 w w' : World} {v : Value} {l : List S64} (hk : KeptO w w' v) (h : BndO w w0.heap.size v l) (hb : Ext w0 w) (hc : w'.os = w.os ∧ w'.tape = w.tape ∧ w'.output = w.output) : Ext w0 w' :=
  ⟨hc.1.trans hb.os, hc.2.1.trans hb.tape, hc.2.2.trans hb.output, Nat.le_trans hb.size hk.1, fun i hi => (hk.2 i (Nat.lt_of_lt_of_le hi hb.size) (fun e => by
    have := ((Kd.R_bound h).1 i e.symm).2.1
    omega)).trans (hb.block hi)⟩
end Go.Proofs.Ytaekkfgggmighaa
