/- The reference's Join on lists of bounds: a plain law over its printed form, its contract. -/
import Derived.Test.YtaekkfgggmighaaMuBJ
import Derived.Test.YtaekkfgggmighaaMuP
namespace Go.Proofs.Ytaekkfgggmighaa
open Go.RowKit Go.Maps Go.Proofs.YtaekkfgggmighaaW.PrintWords Go.Proofs.Ytaekkfgggmighaa.Pgreat Go.Proofs.Ytaekkfgggmighaa.PJoin
set_option linter.unusedVariables false

/-! ### a list, line by line -/
def bMap (g : Int → Int → Option Int) : List S64 → List S64
  | [] => []
  | b :: t => match g b.f0 b.f1 with
    | none => bMap g t
    | some v => ⟨b.f0, v⟩ :: bMap g t
theorem bMap_append (g : Int → Int → Option Int) : ∀ l m : List S64, bMap g (l ++ m) = bMap g l ++ bMap g m
  | [], m => rfl
  | b :: t, m => by
    simp only [List.cons_append, bMap]
    cases g b.f0 b.f1 with
    | none => exact bMap_append g t m
    | some v => simp [bMap_append g t m]
theorem bMap_len (g : Int → Int → Option Int) : ∀ l : List S64, (bMap g l).length ≤ l.length
  | [] => Nat.le_refl _
  | b :: t => by
    simp only [bMap]
    have := bMap_len g t
    cases g b.f0 b.f1 with
    | none => simp only [List.length_cons]; omega
    | some v => simp only [List.length_cons]; omega
theorem bMap_mem (g : Int → Int → Option Int) : ∀ (l : List S64) (y : Int), y ∈ (bMap g l).map S64.f0 → y ∈ l.map S64.f0
  | [], _, h => h
  | b :: t, y, h => by
    simp only [bMap] at h
    cases hg : g b.f0 b.f1 with
    | none => rw [hg] at h; exact List.mem_cons_of_mem _ (bMap_mem g t y h)
    | some v =>
      rw [hg] at h
      rcases List.mem_cons.1 h with h | h
      · rw [h]; exact List.mem_cons_self
      · exact List.mem_cons_of_mem _ (bMap_mem g t y h)
theorem nodup_bMap (g : Int → Int → Option Int) : ∀ {l : List S64}, (l.map S64.f0).Nodup → ((bMap g l).map S64.f0).Nodup
  | [], h => h
  | b :: t, h => by
    simp only [List.map_cons, List.nodup_cons] at h
    simp only [bMap]
    cases g b.f0 b.f1 with
    | none => exact nodup_bMap g h.2
    | some v =>
      simp only [List.map_cons, List.nodup_cons]
      exact ⟨fun hm => h.1 (bMap_mem g t _ hm), nodup_bMap g h.2⟩
theorem bLook_none {l : List S64} {y : Int} (h : ¬ y ∈ l.map S64.f0) : bLook l y = none := by
  cases e : bLook l y with
  | none => rfl
  | some v => exact absurd ((bLook_isSome l y).1 (by rw [e]; rfl)) h
theorem bLook_bMap (g : Int → Int → Option Int) (y : Int) : ∀ {l : List S64}, (l.map S64.f0).Nodup → bLook (bMap g l) y = (bLook l y).bind (g y)
  | [], _ => rfl
  | b :: t, h => by
    simp only [List.map_cons, List.nodup_cons] at h
    have ih := bLook_bMap g y h.2
    simp only [bMap, bLook]
    by_cases c : b.f0 = y
    · rw [if_pos c]
      have hn : bLook t y = none := bLook_none (by rw [← c]; exact h.1)
      rw [← c]
      cases hg : g b.f0 b.f1 with
      | none =>
        simp only [Option.bind_some, hg]
        rw [c, ih, hn]; rfl
      | some v =>
        simp only [Option.bind_some, hg, bLook, if_true]
    · rw [if_neg c]
      cases hg : g b.f0 b.f1 with
      | none => exact ih
      | some v =>
        simp only [bLook]
        rw [if_neg c, ih]

/-! ### Join -/
theorem BRep.fit {W : Int} {l : List S64} {f : FM} (h : BRep l f) (hf : Fit W f) : ∀ b ∈ l, 0 ≤ b.f0 ∧ 0 ≤ b.f1 ∧ b.f1 < W := fun b hb => by
  have e := bLook_mem h.nodup hb
  rw [h.look] at e
  exact hf _ _ e
/-- What a join with h makes of a bound. -/
def gJoin (h : FM) (y c : Int) : Option Int := (h y).map fun d => max c d
theorem join_l0 (l m : List S64) (h : FM) (W : Int) (hm : BRep m h) (hh : Fit W h) (hl : l.length < 100000) (hml : m.length < 100000) :
    ∀ (r pre acc : List S64) (k : Nat), l = pre ++ r → acc.length + r.length < 200000 → r.length + m.length + 2 ≤ k → ontimeref30_Join.l0 k l m acc (pre.length : Int) = some (acc ++ bMap (gJoin h) r) := by
  intro r
  induction r with
  | nil =>
    intro pre acc k hp ha hk
    obtain ⟨k, rfl⟩ : ∃ j, k = j + 1 := ⟨k - 1, by omega⟩
    simp only [List.append_nil] at hp
    subst hp
    rw [ontimeref30_Join.l0, if_neg (by omega)]
    simp [bMap]
  | cons a t ih =>
    intro pre acc k hp ha hk
    simp only [List.length_cons] at ha hk
    obtain ⟨k, rfl⟩ : ∃ j, k = j + 1 := ⟨k - 1, by omega⟩
    have hlt : (pre.length : Int) < (l.length : Int) := by subst hp; simp; omega
    have hr : rd_T64 l (pre.length : Int) = a := rd64 hp
    have hw : wrap64 ((pre.length : Int) + 1) = ((pre ++ [a]).length : Int) := by
      simp only [List.length_append, List.length_singleton]
      rw [w64] <;> omega
    have ih1 := fun acc' (h : acc'.length + t.length < 200000) => ih (pre ++ [a]) acc' k (by simp [hp]) h (by omega)
    have al : ∀ b : S64, (acc ++ [b]).length + t.length < 200000 := fun b => by simp only [List.length_append, List.length_singleton]; omega
    rw [ontimeref30_Join.l0, if_pos hlt, if_pos (by omega), hr, find_f m a.f0 hml k (by omega), hm.look]
    simp only [Option.bind_some]
    cases e : h a.f0 with
    | none =>
      simp only [Option.getD_none]
      have e2 : gJoin h a.f0 a.f1 = none := by unfold gJoin; rw [e]; rfl
      rw [if_neg (by omega), hw, ih1 acc (by omega)]
      simp only [bMap, e2]
    | some d =>
      simp only [Option.getD_some]
      have hd := (hh _ _ e).2.1
      have e2 : gJoin h a.f0 a.f1 = some (mx a.f1 d) := by
        unfold gJoin
        rw [e]
        show some (max a.f1 d) = some (mx a.f1 d)
        congr 1
        unfold mx
        omega
      rw [if_pos (by omega), if_pos (by omega), hw, ih1 _ (al _)]
      simp only [bMap, e2, List.append_assoc, List.cons_append, List.nil_append]
theorem rep_join {l : List S64} {f h : FM} (hl : BRep l f) : BRep (bMap (gJoin h) l) (uJoin f h) := by
  refine ⟨nodup_bMap _ hl.nodup, fun y => ?_⟩
  rw [bLook_bMap _ _ hl.nodup, hl.look]
  unfold uJoin gJoin
  cases f y <;> cases h y <;> rfl
theorem ref_join (A : Option Addr) (c n : Nat) (l : List S64) (B : Option Addr) (d k : Nat) (m : List S64) (f h : FM) (W : Int) (w : World) (hl : BRep l f) (hm : BRep m h) (hh : Fit W h) (hC : k64.C w A n l) (hc : n ≤ c) (hC2 : k64.C w B k m) (hc2 : k ≤ d) (hn : n < 100000) (hk : k < 100000) :
    Calls Try.prog 34 #[.slice A n c, .slice B k d] w fun e w' => ∃ A' n' c' r, e = .returned (.slice A' n' c') ∧ (n' ≤ c' ∧ n' ≤ n ∧ k64.C w' A' n' r) ∧ BRep r (uJoin f h) ∧ Ext w w' := by
  obtain rfl : l.length = n := hC.1
  obtain rfl : m.length = k := hC2.1
  have e : ontimeref30_Join.f (l.length + m.length + 2) l m = some (bMap (gJoin h) l) := by
    have := join_l0 l m h W hm hh hn hk l [] [] (l.length + m.length + 2) rfl (by simp; omega) (Nat.le_refl _)
    simp only [List.length_nil, List.nil_append] at this
    exact this
  refine (ontimeref30_Join.calls _ A c l B d m _ w hC hc hC2 hc2 e).mono ?_
  rintro e w' ⟨v, rfl, h1, h2⟩
  obtain ⟨A', c', rfl, hc', hC'⟩ := BndB.slice h1
  exact ⟨A', _, c', _, rfl, ⟨hc', bMap_len _ _, hC'⟩, rep_join hl, h2⟩

/-! ### two states are equal -/
theorem sub_full : ∀ {K M : List Int}, K.Nodup → (∀ x ∈ K, x ∈ M) → M.length ≤ K.length → ∀ x ∈ M, x ∈ K
  | [], M, _, _, h, x, hx => by
    have : M = [] := List.eq_nil_of_length_eq_zero (by simpa using h)
    rw [this] at hx
    cases hx
  | a :: t, M, hn, hs, h, x, hx => by
    rw [List.nodup_cons] at hn
    have ha : a ∈ M := hs a List.mem_cons_self
    by_cases c : x = a
    · rw [c]; exact List.mem_cons_self
    · refine List.mem_cons_of_mem _ (sub_full (M := M.erase a) hn.2 (fun y hy => ?_) ?_ x ((List.mem_erase_of_ne c).2 hx))
      · refine (List.mem_erase_of_ne (fun e => hn.1 (by rw [← e]; exact hy))).2 (hs y (List.mem_cons_of_mem _ hy))
      · rw [List.length_erase_of_mem ha]
        simp only [List.length_cons] at h
        omega
theorem equal_iff {f h : FM} {K M : List Int} (hK : Dom f K) (hM : Dom h M) : (K.length = M.length ∧ ∀ i, i < K.length → h (K.getD i 0) = f (K.getD i 0)) ↔ ∀ x, f x = h x := by
  constructor
  · rintro ⟨hl, he⟩ x
    have hsub : ∀ y ∈ K, h y = f y := fun y hy => by
      obtain ⟨i, hi, e⟩ := List.getElem_of_mem hy
      have := he i hi
      rwa [List.getD_eq_getElem?_getD, List.getElem?_eq_getElem hi, Option.getD_some, e] at this
    by_cases c : x ∈ K
    · exact (hsub x c).symm
    · have c2 : ¬ x ∈ M := fun hx => c (sub_full (hK.1.imp (fun h => by omega)) (fun y hy => (hM.2 y).2 (by rw [hsub y hy]; exact (hK.2 y).1 hy)) (by omega) x hx)
      have e1 : f x = none := by
        cases e : f x with
        | none => rfl
        | some v => exact absurd ((hK.2 x).2 (by rw [e]; rfl)) c
      have e2 : h x = none := by
        cases e : h x with
        | none => rfl
        | some v => exact absurd ((hM.2 x).2 (by rw [e]; rfl)) c2
      rw [e1, e2]
  · intro he
    refine ⟨?_, fun i hi => (he _).symm⟩
    have : K = M := hK.unique ⟨hM.1, fun x => by rw [hM.2 x, he x]⟩
    rw [this]
end Go.Proofs.Ytaekkfgggmighaa
