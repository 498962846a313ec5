/- Persistent lines that a cache holds: plain Lean. -/
import Derived.Test.YtdbgnniedcibeaaFits0
import Derived.Test.YtdbgnniedcibeaaCp0
namespace Go.Proofs.Ytdbgnniedcibeaa
open Go.RowKit Go.Maps Go.Proofs.YtdbgnniedcibeaaW.PrintWords Go.Proofs.Ytdbgnniedcibeaa.Pusable
set_option linter.unusedVariables false

theorem len_sub : ∀ {l k : List Int}, l.Nodup → (∀ x ∈ l, x ∈ k) → l.length ≤ k.length
  | [], _, _, _ => Nat.zero_le _
  | a :: t, k, hn, hs => by
    obtain ⟨h1, h2⟩ := List.nodup_cons.1 hn
    have ha := hs a List.mem_cons_self
    have := len_sub (l := t) (k := k.erase a) h2 (fun x hx => by
      have hxa : x ≠ a := fun e => h1 (e ▸ hx)
      exact (List.mem_erase_of_ne hxa).2 (hs x (List.mem_cons_of_mem _ hx)))
    rw [List.length_erase_of_mem ha] at this
    have := List.length_pos_of_mem ha
    rw [List.length_cons]
    omega
/-- All that the rows hold is among the lines. -/
def InL (L : List Int) (rows : List (List Int)) : Prop := ∀ i x, x ∈ rows.getD i [] → x ∈ L
/-- How many persistent lines the first m rows hold. -/
def pc (P : Int → Bool) (m : Nat) (rows : List (List Int)) : Nat := sm (fun i => (rows.getD i []).countP P) m
theorem inl_empty (L : List Int) (n : Nat) : InL L (List.replicate n []) := fun i x hx => by
  have e : (List.replicate n ([] : List Int)).getD i [] = [] := by simp only [List.getD, List.getElem?_replicate]; split <;> rfl
  rw [e] at hx; cases hx
theorem pc_empty (P : Int → Bool) (m n : Nat) : pc P m (List.replicate n []) = 0 := by
  have e : (fun i => ((List.replicate n ([] : List Int)).getD i []).countP P) = fun _ => 0 := by
    funext i
    have e : (List.replicate n ([] : List Int)).getD i [] = [] := by simp only [List.getD, List.getElem?_replicate]; split <;> rfl
    rw [e]; rfl
  unfold pc
  rw [e, sm_zero]
theorem InL.acc {L : List Int} {S W : Int} {rows : List (List Int)} (h : InL L rows) (hw : 1 ≤ W) {x : Int} (hx : x ∈ L) : InL L (cAcc S W rows x) := fun i y hy => by
  unfold cAcc at hy
  by_cases e : i = (x % S).toNat
  · by_cases c : i < rows.length
    · subst e
      rw [getD_set_same c] at hy
      rcases mem_cRow hw hy with rfl | hy
      · exact hx
      · exact h _ y hy
    · rw [List.getD, List.getElem?_eq_none (by rw [List.length_set]; omega)] at hy
      cases hy
  · rw [getD_set_other e] at hy
    exact h i y hy
theorem pc_le {W : Int} {m : Nat} (hm : 0 < m) {L : List Int} {rows : List (List Int)} (hr : Rows (m : Int) W rows) (hi : InL L rows) : pc (perB W m L) m rows ≤ (pers W m L).length := by
  have h2 : (pers W m L).length = L.countP (perB W m L) := by unfold pers; rw [List.countP_eq_length_filter]
  rw [h2, ← sm_count hm (perB W m L) L]
  refine sm_le (fun s => ?_) m
  rw [List.countP_eq_length_filter, List.countP_eq_length_filter]
  refine len_sub ((hr.nodup s).filter _) fun x hx => ?_
  rw [List.mem_filter] at hx ⊢
  refine ⟨hi s x hx.1, ?_⟩
  rw [hx.2, (hr.mine s x hx.1).2]
  simp
theorem sm_set {f g : Nat → Nat} {i : Nat} (h : ∀ j, j ≠ i → g j = f j) : ∀ m, i < m → sm g m + f i = sm f m + g i
  | 0, hi => absurd hi (Nat.not_lt_zero _)
  | m + 1, hi => by
    simp only [sm]
    by_cases c : i = m
    · subst c
      have : ∀ k, k ≤ i → sm g k = sm f k := fun k => by
        induction k with
        | zero => intro _; rfl
        | succ k ih => intro hk; simp only [sm]; rw [ih (by omega), h k (by omega)]
      rw [this i (Nat.le_refl _)]
      omega
    · have := sm_set h m (by omega)
      have := h m (Ne.symm c)
      omega
/-- A row of a persistent set is never cut. -/
theorem room {W : Int} {m : Nat} (hm : 0 < m) {L : List Int} {rows : List (List Int)} (hr : Rows (m : Int) W rows) (hi : InL L rows) {x : Int} (hx : x ∈ L) (hx0 : 0 ≤ x) (hp : perB W m L x = true) (hno : ¬ x ∈ rows.getD (x % (m : Int)).toNat []) : ((rows.getD (x % (m : Int)).toNat []).length : Int) + 1 ≤ W := by
  have hin := in_set hm x
  have hnn := Int.emod_nonneg x (show (m : Int) ≠ 0 by omega)
  have h1 : (x :: rows.getD (x % (m : Int)).toNat []).length ≤ (L.filter fun y => decide (y % (m : Int) = (((x % (m : Int)).toNat : Nat) : Int))).length := by
    refine len_sub (List.nodup_cons.2 ⟨hno, hr.nodup _⟩) fun y hy => ?_
    rw [List.mem_filter, decide_eq_true_eq]
    rcases List.mem_cons.1 hy with rfl | hy
    · exact ⟨hx, by omega⟩
    · exact ⟨hi _ y hy, (hr.mine _ y hy).2⟩
  unfold perB conf at hp
  rw [decide_eq_true_eq, List.countP_eq_length_filter] at hp
  rw [List.length_cons] at h1
  omega
theorem pc_acc {W : Int} {m : Nat} (hm : 0 < m) (hw : 1 ≤ W) {L : List Int} {rows : List (List Int)} (hr : Rows (m : Int) W rows) (hi : InL L rows) {x : Int} (hx : x ∈ L) (hx0 : 0 ≤ x) :
    (¬ x ∈ rows.getD (x % (m : Int)).toNat [] → perB W m L x = true → pc (perB W m L) m (cAcc (m : Int) W rows x) = pc (perB W m L) m rows + 1) ∧ pc (perB W m L) m rows ≤ pc (perB W m L) m (cAcc (m : Int) W rows x) := by
  have hin := in_set hm x
  obtain ⟨i, hie⟩ : ∃ i, (x % (m : Int)).toNat = i := ⟨_, rfl⟩
  have hroom := room hm hr hi hx hx0
  rw [hie] at hin hroom
  have hnn := Int.emod_nonneg x (show (m : Int) ≠ 0 by omega)
  have hlx : i < rows.length := by have := hr.len; omega
  have ex : (cAcc (m : Int) W rows x).getD i [] = cRow W x (rows.getD i []) := by unfold cAcc; rw [hie]; exact getD_set_same hlx _
  have ox : ∀ k, k ≠ i → (cAcc (m : Int) W rows x).getD k [] = rows.getD k [] := fun k hk => by unfold cAcc; rw [hie]; exact getD_set_other hk _
  have hs := sm_set (f := fun i => (rows.getD i []).countP (perB W m L)) (g := fun k => ((cAcc (m : Int) W rows x).getD k []).countP (perB W m L)) (i := i) (fun j hj => by rw [ox j hj]) m hin
  rw [show sm (fun k => ((cAcc (m : Int) W rows x).getD k []).countP (perB W m L)) m = pc (perB W m L) m (cAcc (m : Int) W rows x) from rfl, show sm (fun i => (rows.getD i []).countP (perB W m L)) m = pc (perB W m L) m rows from rfl] at hs
  rw [ex] at hs
  rw [hie]
  have hsh := hr.short i
  by_cases c : x ∈ rows.getD i []
  · have e : cRow W x (rows.getD i []) = x :: (rows.getD i []).erase x := by
      unfold cRow
      rw [List.take_of_length_le]
      rw [List.length_cons, List.length_erase_of_mem c]
      have := List.length_pos_of_mem c
      omega
    have e2 : (cRow W x (rows.getD i [])).countP (perB W m L) = (rows.getD i []).countP (perB W m L) := by
      rw [e]
      exact (List.perm_cons_erase c).symm.countP_eq _
    exact ⟨fun h => absurd c h, by omega⟩
  · cases hp : perB W m L x with
    | true =>
      have hrm := hroom hp c
      have e : cRow W x (rows.getD i []) = x :: rows.getD i [] := by
        unfold cRow
        rw [List.erase_of_not_mem c, List.take_of_length_le]
        rw [List.length_cons]
        omega
      rw [e, List.countP_cons, hp] at hs
      simp only [if_true] at hs
      exact ⟨fun _ _ => by omega, by omega⟩
    | false =>
      have e : (rows.getD i []).countP (perB W m L) = 0 := by
        rw [List.countP_eq_zero]
        intro y hy
        have hmod := (hr.mine i y hy).2
        unfold perB at hp ⊢
        rw [hie] at hp
        rw [hmod, Int.toNat_natCast, hp]
        simp
      exact ⟨fun _ h => (by cases h), by omega⟩
end Go.Proofs.Ytdbgnniedcibeaa
