/- The contract of ontimelaw32.usable. -/
import Derived.Test.YtdbgnniedcibeaaPe4
namespace Go.Proofs.Ytdbgnniedcibeaa
open Go.RowKit Go.Maps Go.Proofs.YtdbgnniedcibeaaW.PrintWords Go.Proofs.Ytdbgnniedcibeaa.Pusable
set_option linter.unusedVariables false

theorem w64 {x : Int} (h : -9223372036854775808 ≤ x ∧ x ≤ 9223372036854775807) : wrap64 x = x := by unfold wrap64; omega
theorem power_f (n most : Int) (hm : most ≤ 64) : cache_power.f n most = some (powB n most) := by
  unfold cache_power.f
  by_cases h1 : n ≥ 1
  · rw [if_pos h1]
    by_cases h2 : n ≤ most
    · rw [if_pos h2, w64 (by omega), pow_bits n h1 (by omega)]
      unfold powB
      simp [h2]
    · rw [if_neg h2]
      unfold powB
      simp; omega
  · rw [if_neg h1]
    have : powB n most = false := by unfold powB Pow; simp; omega
    rw [this]
theorem valid_f (S W L : Int) : cache_Valid.f S W L = some (vldB S W L) := by
  unfold cache_Valid.f
  rw [power_f _ _ (by omega), power_f _ _ (by omega)]
  unfold vldB
  simp only [Option.bind_some]
  by_cases h1 : powB S 64 = true
  · rw [if_pos h1]
    by_cases h2 : W ≥ 1
    · rw [if_pos h2]
      by_cases h3 : W ≤ 8
      · rw [if_pos h3]
        have h2' : 1 ≤ W := h2
        simp [h1, h2', h3]
      · rw [if_neg h3]
        simp [h1, h3]
    · rw [if_neg h2]
      have h2' : ¬ 1 ≤ W := h2
      simp [h1, h2']
  · rw [if_neg h1]
    simp [h1]
def toRef (r : S44) : S56 := ⟨r.f0, r.f1⟩
theorem rd44 {l : List S44} {a : S44} {r pre : List S44} (h : l = pre ++ a :: r) : rd_T44 l (pre.length : Int) = a := by
  subst h
  simp [rd_T44, List.getD]
theorem rd56 {l : List S56} {a : S56} {r pre : List S56} (h : l = pre ++ a :: r) : rd_T56 l (pre.length : Int) = a := by
  subst h
  simp [rd_T56, List.getD]
theorem plain_l0 (l : List S44) (hl : l.length < 100000) : ∀ (r pre : List S44) (acc : List S56) (k : Nat), l = pre ++ r → acc.length + r.length < 100000 → r.length + 1 ≤ k → ontimelaw32_plain.l0 k acc l (l.length : Int) (pre.length : Int) = some (acc ++ r.map toRef) := by
  intro r
  induction r with
  | nil =>
    intro pre acc k h ha hk
    obtain ⟨k, rfl⟩ : ∃ j, k = j + 1 := ⟨k - 1, by omega⟩
    simp only [List.append_nil] at h
    subst h
    rw [ontimelaw32_plain.l0, if_neg (by omega)]
    simp
  | cons a t ih =>
    intro pre acc k h ha hk
    obtain ⟨k, rfl⟩ : ∃ j, k = j + 1 := ⟨k - 1, by simp at hk; omega⟩
    have hlt : (pre.length : Int) < (l.length : Int) := by subst h; simp; omega
    have hr : rd_T44 l (pre.length : Int) = a := rd44 h
    have hw : wrap64 ((pre.length : Int) + 1) = ((pre ++ [a]).length : Int) := by
      simp only [List.length_append, List.length_singleton]
      rw [w64] <;> omega
    simp only [List.length_cons] at hk ha
    rw [ontimelaw32_plain.l0, if_pos hlt, if_pos (by omega), if_pos hlt, if_pos (by omega), hr, hw, ih (pre ++ [a]) _ k (by simp [h]) (by simp; omega) (by omega)]
    simp [toRef]
theorem plain_f (l : List S44) (hl : l.length < 50000) (k : Nat) (hk : l.length + 1 ≤ k) : ontimelaw32_plain.f k l = some (l.map toRef) := by
  unfold ontimelaw32_plain.f
  exact plain_l0 l (by omega) l [] [] k rfl (by simp; omega) hk
theorem most_l0 (l : List S56) (hl : l.length < 100000) : ∀ (r pre : List S56) (m : Int) (k : Nat), l = pre ++ r → r.length + 1 ≤ k → ∃ v, ontimeref32_Most.l0 k l m (pre.length : Int) = some v ∧ (v ≤ 3000 ↔ m ≤ 3000 ∧ ∀ x ∈ r, x.f1 ≤ 3000) := by
  intro r
  induction r with
  | nil =>
    intro pre m k h hk
    obtain ⟨k, rfl⟩ : ∃ j, k = j + 1 := ⟨k - 1, by omega⟩
    simp only [List.append_nil] at h
    subst h
    rw [ontimeref32_Most.l0, if_neg (by omega)]
    by_cases c : m > 65535
    · rw [if_pos c]; exact ⟨_, rfl, by simp; omega⟩
    · rw [if_neg c]; exact ⟨_, rfl, by simp⟩
  | cons a t ih =>
    intro pre m k h hk
    obtain ⟨k, rfl⟩ : ∃ j, k = j + 1 := ⟨k - 1, by simp at hk; omega⟩
    have hlt : (pre.length : Int) < (l.length : Int) := by subst h; simp; omega
    have hr : rd_T56 l (pre.length : Int) = a := rd56 h
    have hw : wrap64 ((pre.length : Int) + 1) = ((pre ++ [a]).length : Int) := by
      simp only [List.length_append, List.length_singleton]
      rw [w64] <;> omega
    simp only [List.length_cons] at hk
    rw [ontimeref32_Most.l0, if_pos hlt, if_pos (by omega), hr, hw]
    by_cases c : a.f1 > m
    · rw [if_pos c]
      obtain ⟨v, h1, h2⟩ := ih (pre ++ [a]) a.f1 k (by simp [h]) (by omega)
      refine ⟨v, h1, h2.trans ⟨fun h => ⟨by omega, fun x hx => ?_⟩, fun h => ⟨h.2 a List.mem_cons_self, fun x hx => h.2 x (List.mem_cons_of_mem _ hx)⟩⟩⟩
      rcases List.mem_cons.1 hx with rfl | hx
      · exact h.1
      · exact h.2 x hx
    · rw [if_neg c]
      obtain ⟨v, h1, h2⟩ := ih (pre ++ [a]) m k (by simp [h]) (by omega)
      refine ⟨v, h1, h2.trans ⟨fun h => ⟨h.1, fun x hx => ?_⟩, fun h => ⟨h.1, fun x hx => h.2 x (List.mem_cons_of_mem _ hx)⟩⟩⟩
      rcases List.mem_cons.1 hx with rfl | hx
      · omega
      · exact h.2 x hx
def usB (S W L : Int) (l : List S44) (n : Nat) : Bool := vldB S W L && (decide (l.length ≤ 12) && (decide (n ≤ 200) && l.all fun r => decide (r.f1 ≤ 3000)))
theorem usable_f (S W L : Int) (l : List S44) (l2 : List Int) : ∃ k, ontimelaw32_usable.f k S W L l l2 = some (usB S W L l l2.length) := by
  refine ⟨60, ?_⟩
  unfold ontimelaw32_usable.f usB
  rw [valid_f]
  simp only [Option.bind_some]
  by_cases h1 : vldB S W L = true
  · rw [if_pos h1]
    by_cases h2 : (l.length : Int) ≤ 12
    · rw [if_pos h2]
      by_cases h3 : (l2.length : Int) ≤ 200
      · rw [if_pos h3, plain_f l (by omega) 60 (by omega)]
        simp only [Option.bind_some]
        obtain ⟨v, hv, hiff⟩ := most_l0 (l.map toRef) (by simp; omega) (l.map toRef) [] (-1) 60 rfl (by simp; omega)
        unfold ontimeref32_Most.f
        rw [show (0 : Int) = (([] : List S56).length : Int) from rfl, hv]
        simp only [Option.bind_some]
        have h2' : l.length ≤ 12 := by omega
        have h3' : l2.length ≤ 200 := by omega
        have e : decide (v ≤ 3000) = l.all fun r => decide (r.f1 ≤ 3000) := by
          rw [Bool.eq_iff_iff, decide_eq_true_eq, hiff, List.all_eq_true]
          simp [toRef]
        rw [e]
        simp [h1, h2', h3']
      · rw [if_neg h3]
        have : ¬ l2.length ≤ 200 := by omega
        simp [this]
    · rw [if_neg h2]
      have : ¬ l.length ≤ 12 := by omega
      simp [this]
  · rw [if_neg h1]
    simp [h1]
theorem usable_any (S W L : Int) (A : Option Addr) (c : Nat) (l : List S44) (B : Option Addr) (d : Nat) (l2 : List Int) (w : World) (hr : k44.C w A l.length l) (hc : l.length ≤ c) (hr2 : Kd.C (Kd.int .u16) w B l2.length l2) (hc2 : l2.length ≤ d) :
    Calls Try.prog 22 #[.agg #[.int .i64 S, .int .i64 W, .int .i64 L], .slice A l.length c, .slice B l2.length d] w fun e w' => e = .returned (.bool (usB S W L l l2.length)) ∧ Ext w w' := by
  obtain ⟨k, h⟩ := usable_f S W L l l2
  exact ontimelaw32_usable.calls k S W L A c l B d l2 _ w hr hc hr2 hc2 h
structure UsIs (S W L : Int) (l : List S44) (n : Nat) : Prop where
  geo : Geo S W L
  len : l.length ≤ 12
  few : n ≤ 200
  hi : ∀ r ∈ l, r.f1 ≤ 3000
theorem us_is {S W L : Int} {l : List S44} {n : Nat} (h : usB S W L l n = true) : UsIs S W L l n := by
  unfold usB at h
  simp only [Bool.and_eq_true, decide_eq_true_eq, List.all_eq_true] at h
  exact ⟨(vld_iff _ _ _).1 h.1, h.2.1, h.2.2.1, h.2.2.2⟩
end Go.Proofs.Ytdbgnniedcibeaa
