/- What the reference's Describes says of a list of bounds: plain Lean over its printed form. -/
import Derived.Test.YtaekkfgggmighaaMuBD
namespace Go.Proofs.Ytaekkfgggmighaa
open Go.RowKit Go.Maps Go.Proofs.YtaekkfgggmighaaW.PrintWords Go.Proofs.Ytaekkfgggmighaa.Pgreat Go.Proofs.Ytaekkfgggmighaa.PDescribes
set_option linter.unusedVariables false

theorem desc_l1 (l : List S64) (ls : List (List Int)) (i : Int) (set : List Int) (S W L : Int) (a : S64) (N : Nat) (r : Bool) (h0 : 0 ≤ i) (h1 : i < (l.length : Int)) (ha : rd_T64 l i = a) (hset : set.length ≤ 9223372036854775807)
    (H : ∀ k, N ≤ k → ontimeref30_Describes.l0 k l ls (wrap64 (i + 1)) S W L = some r) :
    ∀ (d p : Nat) (fo : Bool) (k : Nat), set.length = p + d → 2 * d + 2 + N ≤ k →
      ((fo = true ∨ ∃ q : Nat, p ≤ q ∧ set[q]? = some a.f0 ∧ (q : Int) ≤ a.f1) → ontimeref30_Describes.l1 k l ls i set fo (p : Int) S W L = some r) ∧
      (¬ (fo = true ∨ ∃ q : Nat, p ≤ q ∧ set[q]? = some a.f0 ∧ (q : Int) ≤ a.f1) → ontimeref30_Describes.l1 k l ls i set fo (p : Int) S W L = some false) := by
  intro d
  induction d with
  | zero =>
    intro p fo k hp hk
    obtain ⟨k, rfl⟩ : ∃ j, k = j + 2 := ⟨k - 2, by omega⟩
    have hno : ¬ ∃ q : Nat, p ≤ q ∧ set[q]? = some a.f0 ∧ (q : Int) ≤ a.f1 := by
      rintro ⟨q, hq, e, _⟩
      rw [List.getElem?_eq_none (by omega)] at e
      cases e
    have e1 : ontimeref30_Describes.l1 (k + 2) l ls i set fo (p : Int) S W L = if fo = true then ontimeref30_Describes.l0 k l ls (wrap64 (i + 1)) S W L else some false := by
      rw [ontimeref30_Describes.l1, if_neg (by omega), ontimeref30_Describes.j2, if_neg (by simp)]
    rw [e1]
    refine ⟨fun h => ?_, fun h => ?_⟩
    · rcases h with h | h
      · rw [if_pos h]; exact H k (by omega)
      · exact absurd h hno
    · rw [if_neg (fun e => h (.inl e))]
  | succ d ih =>
    intro p fo k hp hk
    obtain ⟨k, rfl⟩ : ∃ j, k = j + 2 := ⟨k - 2, by omega⟩
    have hpl : (p : Int) < (set.length : Int) := by omega
    have hw : wrap64 ((p : Int) + 1) = ((p + 1 : Nat) : Int) := by rw [w64] <;> omega
    by_cases hpa : (p : Int) ≤ a.f1
    · have hrd : rd set (p : Int) = set.getD p 0 := by simp [rd]
      have e1 : ontimeref30_Describes.l1 (k + 2) l ls i set fo (p : Int) S W L = if set.getD p 0 = a.f0 then ontimeref30_Describes.l1 k l ls i set true ((p + 1 : Nat) : Int) S W L else ontimeref30_Describes.l1 k l ls i set fo ((p + 1 : Nat) : Int) S W L := by
        rw [ontimeref30_Describes.l1, if_pos hpl, if_pos h0, if_pos h1, ha, ontimeref30_Describes.j2, if_pos (by simpa using hpa), if_pos (by omega), if_pos hpl, if_pos h0, if_pos h1, ha, hrd, hw]
      rw [e1]
      by_cases hc : set.getD p 0 = a.f0
      · rw [if_pos hc]
        refine ⟨fun _ => (ih (p + 1) true k (by omega) (by omega)).1 (.inl rfl), fun h => ?_⟩
        exact absurd (.inr ⟨p, Nat.le_refl _, some_of_getD (by omega) hc, hpa⟩) h
      · rw [if_neg hc]
        have key : (fo = true ∨ ∃ q : Nat, p ≤ q ∧ set[q]? = some a.f0 ∧ (q : Int) ≤ a.f1) ↔ (fo = true ∨ ∃ q : Nat, p + 1 ≤ q ∧ set[q]? = some a.f0 ∧ (q : Int) ≤ a.f1) := by
          refine or_congr Iff.rfl ⟨?_, ?_⟩
          · rintro ⟨q, hq, e, hqa⟩
            refine ⟨q, ?_, e, hqa⟩
            by_cases c : q = p
            · subst c; exact absurd (getD_of_some e).2 hc
            · omega
          · rintro ⟨q, hq, e⟩
            exact ⟨q, by omega, e⟩
        rw [key]
        exact ih (p + 1) fo k (by omega) (by omega)
    · have hno : ¬ ∃ q : Nat, p ≤ q ∧ set[q]? = some a.f0 ∧ (q : Int) ≤ a.f1 := by
        rintro ⟨q, hq, e, hqa⟩
        omega
      have e1 : ontimeref30_Describes.l1 (k + 2) l ls i set fo (p : Int) S W L = if fo = true then ontimeref30_Describes.l0 k l ls (wrap64 (i + 1)) S W L else some false := by
        rw [ontimeref30_Describes.l1, if_pos hpl, if_pos h0, if_pos h1, ha, ontimeref30_Describes.j2, if_neg (by simpa using hpa)]
      rw [e1]
      refine ⟨fun h => ?_, fun h => ?_⟩
      · rcases h with h | h
        · rw [if_pos h]; exact H k (by omega)
        · exact absurd h hno
      · rw [if_neg (fun e => h (.inl e))]
/-- The rounds that a list wants. -/
def need (S : Int) (ls : List (List Int)) : List S64 → Nat
  | [] => 1
  | b :: t => 2 * (ls.getD (b.f0 % S).toNat []).length + 3 + need S ls t
noncomputable def allB (S : Int) (ls : List (List Int)) (l : List S64) : Bool := @decide (∀ b ∈ l, HasAt (ls.getD (b.f0 % S).toNat []) b.f0 b.f1) (Classical.propDecidable _)
theorem allB_iff (S : Int) (ls : List (List Int)) (l : List S64) : allB S ls l = true ↔ ∀ b ∈ l, HasAt (ls.getD (b.f0 % S).toNat []) b.f0 b.f1 := by
  unfold allB
  exact @decide_eq_true_iff _ (Classical.propDecidable _)
theorem desc_l0 {S : Int} (W L : Int) (hs : 1 ≤ S) (l : List S64) (hl : l.length < 100000) (ls : List (List Int)) (hlen : (ls.length : Int) = S) (hrow : ∀ r ∈ ls, r.length ≤ 9223372036854775807) (hp : ∀ b ∈ l, 0 ≤ b.f0) :
    ∀ (r pre : List S64) (k : Nat), l = pre ++ r → need S ls r ≤ k → ontimeref30_Describes.l0 k l ls (pre.length : Int) S W L = some (allB S ls r) := by
  intro r
  induction r with
  | nil =>
    intro pre k h hk
    obtain ⟨k, rfl⟩ : ∃ j, k = j + 1 := ⟨k - 1, by simp only [need] at hk; omega⟩
    simp only [List.append_nil] at h
    subst h
    rw [ontimeref30_Describes.l0, if_neg (by omega), (allB_iff S ls []).2 (fun b hb => by cases hb)]
  | cons a t ih =>
    intro pre k h hk
    simp only [need] at hk
    obtain ⟨k, rfl⟩ : ∃ j, k = j + 1 := ⟨k - 1, by omega⟩
    have hlt : (pre.length : Int) < (l.length : Int) := by subst h; simp; omega
    have hr : rd_T64 l (pre.length : Int) = a := rd64 h
    have ha0 := hp a (by rw [h]; simp)
    have hw : wrap64 ((pre.length : Int) + 1) = ((pre ++ [a]).length : Int) := by
      simp only [List.length_append, List.length_singleton]
      rw [w64] <;> omega
    have hm0 := Int.emod_nonneg a.f0 (show S ≠ 0 by omega)
    have hm1 := Int.emod_lt_of_pos a.f0 (show 0 < S by omega)
    have htm : Int.tmod a.f0 S = a.f0 % S := Int.tmod_eq_emod_of_nonneg ha0
    have hrl : rd_L2 ls (a.f0 % S) = ls.getD (a.f0 % S).toNat [] := rfl
    rw [ontimeref30_Describes.l0, if_pos hlt, if_pos (by omega), if_neg (by omega), hr, htm, if_pos hm0, if_pos (by omega), hrl]
    have hset : (ls.getD (a.f0 % S).toNat []).length ≤ 9223372036854775807 := by
      have : (a.f0 % S).toNat < ls.length := by omega
      rw [List.getD_eq_getElem?_getD, List.getElem?_eq_getElem this]
      exact hrow _ (List.getElem_mem _)
    have H : ∀ k, need S ls t ≤ k → ontimeref30_Describes.l0 k l ls (wrap64 ((pre.length : Int) + 1)) S W L = some (allB S ls t) := fun k hk => by
      rw [hw]
      exact ih (pre ++ [a]) k (by simp [h]) hk
    obtain ⟨e1, e2⟩ := desc_l1 l ls (pre.length : Int) (ls.getD (a.f0 % S).toNat []) S W L a (need S ls t) (allB S ls t) (by omega) hlt hr hset H _ 0 false k (by rw [Nat.zero_add]) (by omega)
    have hq : (false = true ∨ ∃ q : Nat, 0 ≤ q ∧ (ls.getD (a.f0 % S).toNat [])[q]? = some a.f0 ∧ (q : Int) ≤ a.f1) ↔ HasAt (ls.getD (a.f0 % S).toNat []) a.f0 a.f1 := by
      constructor
      · rintro (h | ⟨q, _, h⟩)
        · cases h
        · exact ⟨q, h⟩
      · rintro ⟨q, h⟩
        exact .inr ⟨q, Nat.zero_le _, h⟩
    rw [hq] at e1 e2
    by_cases c : HasAt (ls.getD (a.f0 % S).toNat []) a.f0 a.f1
    · rw [show ((0 : Nat) : Int) = 0 from rfl] at e1
      rw [e1 c]
      congr 1
      rw [Bool.eq_iff_iff, allB_iff, allB_iff]
      constructor
      · intro h b hb
        rcases List.mem_cons.1 hb with rfl | hb
        · exact c
        · exact h b hb
      · intro h b hb
        exact h b (List.mem_cons_of_mem _ hb)
    · rw [show ((0 : Nat) : Int) = 0 from rfl] at e2
      rw [e2 c]
      congr 1
      rw [Bool.eq_iff_iff, allB_iff]
      constructor
      · intro h; cases h
      · intro h; exact absurd (h a List.mem_cons_self) c
noncomputable def dsB (S : Int) (f : FM) (ls : List (List Int)) : Bool := @decide (Desc S f ls) (Classical.propDecidable _)
theorem dsB_iff (S : Int) (f : FM) (ls : List (List Int)) : dsB S f ls = true ↔ Desc S f ls := by
  unfold dsB
  exact @decide_eq_true_iff _ (Classical.propDecidable _)
theorem ref_desc {S : Int} (W L : Int) (hs : 1 ≤ S) {W' : Int} {f : FM} (hf : Fit W' f) {l : List S64} (hrep : BRep l f) (hl : l.length < 100000) (ls : List (List Int)) (hrow : ∀ r ∈ ls, r.length ≤ 9223372036854775807) : ∃ k, ontimeref30_Describes.f k S W L l ls = some (dsB S f ls) := by
  refine ⟨need S ls l, ?_⟩
  unfold ontimeref30_Describes.f
  by_cases c : (ls.length : Int) = S
  · rw [if_pos c]
    have hfb : ∀ b ∈ l, f b.f0 = some b.f1 := fun b hb => by rw [← hrep.look]; exact bLook_mem hrep.nodup hb
    have := desc_l0 W L hs l hl ls c hrow (fun b hb => (hf _ _ (hfb b hb)).1) l [] (need S ls l) rfl (Nat.le_refl _)
    rw [show (([] : List S64).length : Int) = 0 from rfl] at this
    rw [this]
    congr 1
    rw [Bool.eq_iff_iff, allB_iff, dsB_iff]
    constructor
    · intro h
      refine ⟨c, fun y d e => ?_⟩
      rw [← hrep.look] at e
      obtain ⟨b, hb, rfl, rfl⟩ := bLook_some e
      exact h b hb
    · intro h b hb
      exact h.2 _ _ (hfb b hb)
  · rw [if_neg c]
    congr 1
    rw [Bool.eq_iff_iff, dsB_iff]
    constructor
    · intro h; cases h
    · intro h; exact absurd h.1 c
end Go.Proofs.Ytaekkfgggmighaa
