/- The reference's lists of lines, in plain Lean: what Age, Put, Access, AccessRange do, as the printed functions say it. -/
import Derived.Test.YtjckghdgogkeaaaPMayDescribesx4
import Derived.Test.YtjckghdgogkeaaaPMayDescribesx5
import Derived.Test.YtjckghdgogkeaaaMay8
namespace Go.Proofs.Ytjckghdgogkeaaa
open Go.RowKit Go.Maps Go.Proofs.Ytjckghdgogkeaaa.PMayDescribes
set_option linter.unusedVariables false

def look : List S81 → FM
  | [], _ => none
  | a :: t, x => if a.f0 = x then some a.f1 else look t x
/-- What Put appends from here on; d: done. -/
def putG (x v : Int) : Bool → List S81 → List S81
  | d, [] => if d = true then [] else [⟨x, v⟩]
  | d, a :: t =>
    if d = false ∧ a.f0 ≥ x then (if a.f0 = x then ⟨x, v⟩ :: putG x v true t else ⟨x, v⟩ :: a :: putG x v true t)
    else (if a.f0 = x then putG x v d t else a :: putG x v d t)
def rPut (l : List S81) (x v : Int) : List S81 := putG x v false l

theorem putG_len (x v : Int) : ∀ (l : List S81) (d : Bool), (putG x v d l).length ≤ l.length + 1
  | [], d => by cases d <;> simp [putG]
  | a :: t, d => by
    have h1 := putG_len x v t true
    have h2 := putG_len x v t d
    have h3 : ∀ t : List S81, (putG x v true t).length ≤ t.length := by
      intro t
      induction t with
      | nil => simp [putG]
      | cons b t ih => simp only [putG, Bool.true_eq_false, false_and, if_false]; split <;> simp <;> omega
    have h4 := h3 t
    simp only [putG]
    split
    · split <;> simp <;> omega
    · split <;> simp <;> omega
theorem look_done (x v : Int) : ∀ (l : List S81) (y : Int), look (putG x v true l) y = if y = x then none else look l y
  | [], y => by simp [putG, look]
  | a :: t, y => by
    have ih := look_done x v t y
    simp only [putG]
    simp only [Bool.true_eq_false, false_and, if_false]
    by_cases h : a.f0 = x
    · rw [if_pos h, ih]
      by_cases k : y = x
      · simp [k]
      · rw [if_neg k, if_neg k]
        have : ¬ a.f0 = y := fun e => k (e ▸ h)
        simp [look, this]
    · rw [if_neg h]
      simp only [look]
      by_cases k : a.f0 = y
      · have : ¬ y = x := fun e => h (k.trans e)
        simp [k, this]
      · rw [if_neg k, if_neg k, ih]
theorem look_put (x v : Int) : ∀ (l : List S81) (y : Int), look (rPut l x v) y = put (look l) x v y
  | [], y => by
    simp only [rPut, putG, put, look]
    by_cases h : y = x
    · simp [h, look]
    · simp [h, look]; intro e; exact absurd e.symm h
  | a :: t, y => by
    have ih := look_put x v t y
    unfold rPut at ih ⊢
    simp only [putG]
    by_cases h : a.f0 ≥ x
    · rw [if_pos ⟨trivial, h⟩]
      by_cases k : a.f0 = x
      · rw [if_pos k]
        simp only [look, put, look_done]
        by_cases m : y = x
        · simp [m]
        · have : ¬ x = y := fun e => m e.symm
          have : ¬ a.f0 = y := fun e => m (e ▸ k)
          simp [*]
      · rw [if_neg k]
        simp only [look, put, look_done]
        by_cases m : y = x
        · simp [m]
        · have : ¬ x = y := fun e => m e.symm
          simp [*]
    · rw [if_neg (by simp; omega)]
      have k : ¬ a.f0 = x := by omega
      rw [if_neg k]
      simp only [look, put] at ih ⊢
      rw [ih]
      by_cases m : y = x
      · have : ¬ a.f0 = y := fun e => k (e.trans m)
        subst m
        simp [this]
      · simp [m]

/-! ### the printed functions -/
theorem w64 {n : Int} (h : -9223372036854775808 ≤ n ∧ n ≤ 9223372036854775807) : wrap64 n = n := by unfold wrap64; omega
theorem rd_at {l pre : List S81} {a : S81} {t : List S81} (h : l = pre ++ a :: t) : rd_T81 l (pre.length : Int) = a := by
  subst h
  simp [rd_T81, List.getD_eq_getElem?_getD]

theorem put_l0 (x v S W L S' W' L' : Int) (u u' : Bool) (l : List S81) : ∀ (r pre : List S81) (d : Bool) (out : List S81) (k : Nat), l = pre ++ r → 2 * r.length + 1 ≤ k → l.length < 1000000 → out.length + 2 * r.length < 10000000 →
    ontimeref31_State_Put.l0 k x v d (pre.length : Int) S W L u l S' W' L' u' out = some (S', W', L', u', out ++ putG x v d r) := by
  intro r
  induction r with
  | nil =>
    intro pre d out k h hk hl ho
    obtain ⟨k, rfl⟩ : ∃ j, k = j + 1 := ⟨k - 1, by omega⟩
    rw [ontimeref31_State_Put.l0]
    simp only [List.append_nil] at h
    subst h
    rw [if_neg (by omega)]
    cases d
    · simp only [Bool.false_eq_true, if_false]
      rw [if_pos (by simp at ho; omega)]
      simp [putG]
    · simp [putG]
  | cons a t ih =>
    intro pre d out k h hk hl ho
    obtain ⟨k, rfl⟩ : ∃ j, k = j + 1 + 1 := ⟨k - 2, by simp at hk; omega⟩
    have hlt : (pre.length : Int) < (l.length : Int) := by subst h; simp; omega
    have hr := rd_at h
    have hw : wrap64 ((pre.length : Int) + 1) = ((pre ++ [a]).length : Int) := by
      simp only [List.length_append, List.length_singleton]
      rw [w64] <;> omega
    have h' : l = (pre ++ [a]) ++ t := by simp [h]
    simp only [List.length_cons] at hk ho
    rw [ontimeref31_State_Put.l0, if_pos hlt, if_pos (by omega), hr]
    cases d
    · simp only [Bool.false_eq_true, if_false]
      rw [ontimeref31_State_Put.j1]
      by_cases hge : a.f0 ≥ x
      · simp only [hge, decide_true, if_true]
        rw [if_pos (by omega)]
        simp only [Option.bind_some]
        by_cases he : a.f0 = x
        · rw [if_pos he, hw, ih (pre ++ [a]) true _ k h' (by omega) hl (by simp; omega)]
          simp [putG, he]
        · rw [if_neg he, if_pos (by simp; omega), hw, ih (pre ++ [a]) true _ k h' (by omega) hl (by simp; omega)]
          simp [putG, he, hge]
      · have he : ¬ a.f0 = x := by omega
        simp only [hge, decide_false, Bool.false_eq_true, if_false]
        rw [if_neg he, if_pos (by omega), hw, ih (pre ++ [a]) false _ k h' (by omega) hl (by simp; omega)]
        simp [putG, he, hge]
    · simp only [if_true]
      rw [ontimeref31_State_Put.j1]
      simp only [Bool.false_eq_true, if_false]
      by_cases he : a.f0 = x
      · rw [if_pos he, hw, ih (pre ++ [a]) true _ k h' (by omega) hl (by omega)]
        simp [putG, he]
      · rw [if_neg he, if_pos (by omega), hw, ih (pre ++ [a]) true _ k h' (by omega) hl (by simp; omega)]
        simp [putG, he]

theorem put_f (x v S W L : Int) (u : Bool) (l : List S81) (hl : l.length < 1000000) (k : Nat) (hk : 2 * l.length + 1 ≤ k) :
    ontimeref31_State_Put.f k S W L u l x v = some (S, W, L, false, rPut l x v) :=
  put_l0 x v S W L S W L u false l l [] false [] k rfl hk hl (by simp; omega)

theorem age_l0 (x S W L : Int) (u : Bool) (l : List S81) : ∀ (r pre : List S81) (k : Nat), l = pre ++ r → r.length + 1 ≤ k → l.length < 1000000 →
    ontimeref31_State_Age.l0 k x (pre.length : Int) S W L u l = some ((look r x).getD (-1)) := by
  intro r
  induction r with
  | nil =>
    intro pre k h hk hl
    obtain ⟨k, rfl⟩ : ∃ j, k = j + 1 := ⟨k - 1, by omega⟩
    rw [ontimeref31_State_Age.l0]
    simp only [List.append_nil] at h
    subst h
    rw [if_neg (by omega)]
    rfl
  | cons a t ih =>
    intro pre k h hk hl
    obtain ⟨k, rfl⟩ : ∃ j, k = j + 1 := ⟨k - 1, by simp at hk; omega⟩
    have hlt : (pre.length : Int) < (l.length : Int) := by subst h; simp; omega
    have hr := rd_at h
    have hw : wrap64 ((pre.length : Int) + 1) = ((pre ++ [a]).length : Int) := by
      simp only [List.length_append, List.length_singleton]
      rw [w64] <;> omega
    have h' : l = (pre ++ [a]) ++ t := by simp [h]
    simp only [List.length_cons] at hk
    rw [ontimeref31_State_Age.l0, if_pos hlt, if_pos (by omega), hr]
    by_cases he : a.f0 = x
    · rw [if_pos he]
      simp [look, he]
    · rw [if_neg he, hw, ih (pre ++ [a]) k h' (by omega) hl]
      simp [look, he]
theorem age_f (x S W L : Int) (u : Bool) (l : List S81) (hl : l.length < 1000000) (k : Nat) (hk : l.length + 1 ≤ k) :
    ontimeref31_State_Age.f k S W L u l x = some ((look l x).getD (-1)) := age_l0 x S W L u l l [] k rfl hk hl

/-! ### an access -/
def agedR (S W h x : Int) : List S81 → List S81
  | [] => []
  | a :: t =>
    if a.f0 ≠ x ∧ Int.tmod a.f0 S = Int.tmod x S ∧ a.f1 ≤ h then (if a.f1 + 1 < W then ⟨a.f0, a.f1 + 1⟩ :: agedR S W h x t else agedR S W h x t)
    else (if a.f1 < W then a :: agedR S W h x t else agedR S W h x t)
def FitL (W : Int) (l : List S81) : Prop := ∀ a ∈ l, 0 ≤ a.f0 ∧ 0 ≤ a.f1 ∧ a.f1 < W
theorem agedR_len (S W h x : Int) : ∀ l : List S81, (agedR S W h x l).length ≤ l.length
  | [] => by simp [agedR]
  | a :: t => by
    have ih := agedR_len S W h x t
    simp only [agedR]
    split <;> split <;> simp <;> omega
theorem acc_l0 (x h S W L S' W' L' : Int) (u u' : Bool) (l : List S81) (hS : S ≠ 0) (hW : W ≤ 8) (hf : FitL W l) : ∀ (r pre out : List S81) (k : Nat), l = pre ++ r → 2 * r.length + 2 * (out.length + r.length) + 3 ≤ k → l.length < 100000 → out.length + r.length < 1000000 →
    ontimeref31_State_Access.l0 k x h (pre.length : Int) S W L u l S' W' L' u' out = some (S', W', L', false, rPut (out ++ agedR S W h x r) x 0) := by
  intro r
  induction r with
  | nil =>
    intro pre out k hh hk hl ho
    obtain ⟨k, rfl⟩ : ∃ j, k = j + 1 := ⟨k - 1, by omega⟩
    rw [ontimeref31_State_Access.l0]
    simp only [List.append_nil] at hh
    subst hh
    rw [if_neg (by omega), put_f _ _ _ _ _ _ _ (by simpa using ho) _ (by simp at hk; omega)]
    simp [agedR]
  | cons a t ih =>
    intro pre out k hh hk hl ho
    obtain ⟨k, rfl⟩ : ∃ j, k = j + 1 + 1 := ⟨k - 2, by simp at hk; omega⟩
    have hlt : (pre.length : Int) < (l.length : Int) := by subst hh; simp; omega
    have hr := rd_at hh
    have hw : wrap64 ((pre.length : Int) + 1) = ((pre ++ [a]).length : Int) := by
      simp only [List.length_append, List.length_singleton]
      rw [w64] <;> omega
    have h' : l = (pre ++ [a]) ++ t := by simp [hh]
    obtain ⟨g0, g1, g2⟩ := hf a (by subst hh; simp)
    have hw2 : wrap64 (a.f1 + 1) = a.f1 + 1 := w64 (by omega)
    simp only [List.length_cons] at hk ho
    rw [ontimeref31_State_Access.l0, if_pos hlt, if_pos (by omega), hr]
    by_cases he : a.f0 = x
    · rw [if_pos he, ontimeref31_State_Access.j3]
      simp only [Bool.false_eq_true, if_false]
      rw [if_pos g2, if_pos (by omega), hw, ih (pre ++ [a]) _ k h' (by simp; omega) hl (by simp; omega)]
      subst he
      simp [agedR, g2]
    · rw [if_neg he, if_neg hS]
      by_cases hs : Int.tmod a.f0 S = Int.tmod x S
      · rw [if_pos hs, ontimeref31_State_Access.j3]
        by_cases hh2 : a.f1 ≤ h
        · simp only [hh2, decide_true, if_true]
          rw [hw2]
          by_cases hlw : a.f1 + 1 < W
          · rw [if_pos hlw, if_pos (by omega), hw, ih (pre ++ [a]) _ k h' (by simp; omega) hl (by simp; omega)]
            simp [agedR, he, hs, hh2, hlw]
          · rw [if_neg hlw, hw, ih (pre ++ [a]) _ k h' (by omega) hl (by omega)]
            simp [agedR, he, hs, hh2, hlw]
        · simp only [hh2, decide_false, Bool.false_eq_true, if_false]
          rw [if_pos g2, if_pos (by omega), hw, ih (pre ++ [a]) _ k h' (by simp; omega) hl (by simp; omega)]
          simp [agedR, he, hs, hh2, g2]
      · rw [if_neg hs, ontimeref31_State_Access.j3]
        simp only [Bool.false_eq_true, if_false]
        rw [if_pos g2, if_pos (by omega), hw, ih (pre ++ [a]) _ k h' (by simp; omega) hl (by simp; omega)]
        simp [agedR, he, hs, g2]

abbrev RS := Bool × List S81
def rAcc (S W : Int) (s : RS) (x : Int) : RS := if s.1 = true then s else if x < 0 then s else (false, rPut (agedR S W ((look s.2 x).getD W) x s.2) x 0)
theorem look_fit {W : Int} : ∀ {l : List S81}, FitL W l → ∀ {x c : Int}, look l x = some c → 0 ≤ x ∧ 0 ≤ c ∧ c < W
  | [], _, _, _, h => by cases h
  | a :: t, hf, x, c, h => by
    simp only [look] at h
    split at h
    · rename_i e
      cases h
      subst e
      exact hf a (by simp)
    · exact look_fit (l := t) (fun b hb => hf b (by simp [hb])) h
theorem acc_f (x S W L : Int) (s : RS) (hS : S ≠ 0) (hW1 : 1 ≤ W) (hW : W ≤ 8) (hf : FitL W s.2) (hl : s.2.length < 100000) (k : Nat) (hk : 4 * s.2.length + 8 ≤ k) :
    ontimeref31_State_Access.f k S W L s.1 s.2 x = some (S, W, L, (rAcc S W s x).1, (rAcc S W s x).2) := by
  obtain ⟨u, l⟩ := s
  obtain ⟨k, rfl⟩ : ∃ j, k = j + 1 + 1 := ⟨k - 2, by omega⟩
  unfold ontimeref31_State_Access.f rAcc
  simp only at hf hl hk ⊢
  cases u
  · simp only [Bool.false_eq_true, if_false]
    rw [ontimeref31_State_Access.j0]
    by_cases hx : x < 0
    · simp [hx]
    · simp only [hx, decide_false, Bool.false_eq_true, if_false]
      rw [age_f _ _ _ _ _ _ (by omega) _ (by omega)]
      simp only [Option.bind_some]
      cases hc : look l x with
      | none =>
        simp only [Option.getD_none]
        rw [if_pos (by omega), ontimeref31_State_Access.j1]
        exact acc_l0 x W S W L S W L false false l hS hW hf l [] [] k rfl (by simp; omega) hl (by simp; omega)
      | some c =>
        obtain ⟨_, c0, _⟩ := look_fit hf hc
        simp only [Option.getD_some]
        rw [if_neg (by omega), ontimeref31_State_Access.j1]
        exact acc_l0 x c S W L S W L false false l hS hW hf l [] [] k rfl (by simp; omega) hl (by simp; omega)
  · simp only [if_true]
    rw [ontimeref31_State_Access.j0]
    simp

/-! ### an access to one of several lines -/
def rPuts : Nat → List S81 → Int → List S81
  | 0, l, _ => l
  | n + 1, l, x => rPuts n (rPut l x 0) (x + 1)
def rRange (S W : Int) (s : RS) (lo hi : Int) : RS :=
  if s.1 = true then s else if hi < max lo 0 then s else if max lo 0 = hi then rAcc S W s (max lo 0) else if 64 ≤ hi - max lo 0 then (true, []) else (false, rPuts (hi - max lo 0 + 1).toNat s.2 (max lo 0))
theorem rPut_len (l : List S81) (x v : Int) : (rPut l x v).length ≤ l.length + 1 := putG_len x v l false
theorem rPuts_len : ∀ (n : Nat) (l : List S81) (x : Int), (rPuts n l x).length ≤ l.length + n
  | 0, l, x => by simp [rPuts]
  | n + 1, l, x => by
    have h1 := rPuts_len n (rPut l x 0) (x + 1)
    have h2 := rPut_len l x 0
    simp only [rPuts]
    omega
theorem range_l0 (hi S W L : Int) (hhi : hi ≤ 1000000) : ∀ (n : Nat) (x : Int) (l : List S81) (k : Nat), (n : Int) = hi - x + 1 → 0 ≤ x → 3 * n + 2 * l.length + 3 ≤ k → l.length + n < 100000 →
    ontimeref31_State_AccessRange.l0 k hi x S W L false l = some (S, W, L, false, rPuts n l x) := by
  intro n
  induction n with
  | zero =>
    intro x l k h h0 hk hl
    obtain ⟨k, rfl⟩ : ∃ j, k = j + 1 := ⟨k - 1, by omega⟩
    rw [ontimeref31_State_AccessRange.l0, if_neg (by omega)]
    rfl
  | succ n ih =>
    intro x l k h h0 hk hl
    obtain ⟨k, rfl⟩ : ∃ j, k = j + 1 := ⟨k - 1, by omega⟩
    rw [ontimeref31_State_AccessRange.l0, if_pos (by omega), put_f _ _ _ _ _ _ _ (by omega) _ (by omega)]
    simp only [Option.bind_some]
    have h1 := rPut_len l x 0
    have hw : wrap64 (x + 1) = x + 1 := w64 (by omega)
    rw [hw, ih (x + 1) _ k (by omega) (by omega) (by omega) (by omega)]
    rfl
theorem range_f (lo hi S W L : Int) (hlo : -1000000 ≤ lo) (hhi : hi ≤ 1000000) (hhi2 : -1000000 ≤ hi) (hlo2 : lo ≤ 1000000) (s : RS) (hS : S ≠ 0) (hW1 : 1 ≤ W) (hW : W ≤ 8) (hf : FitL W s.2) (hl : s.2.length < 50000) (k : Nat) (hk : 4 * s.2.length + 300 ≤ k) :
    ontimeref31_State_AccessRange.f k S W L s.1 s.2 lo hi = some (S, W, L, (rRange S W s lo hi).1, (rRange S W s lo hi).2) := by
  have key : ∀ m : Int, m = max lo 0 → ontimeref31_State_AccessRange.j0 k m hi S W L s.1 s.2 = some (S, W, L, (rRange S W s lo hi).1, (rRange S W s lo hi).2) := by
    intro m hm
    obtain ⟨k, rfl⟩ : ∃ j, k = j + 1 + 1 := ⟨k - 2, by omega⟩
    unfold rRange
    rw [← hm]
    have hm0 : 0 ≤ m ∧ m ≤ 1000000 := by omega
    clear hm
    obtain ⟨u, l⟩ := s
    simp only at hf hl hk ⊢
    rw [ontimeref31_State_AccessRange.j0]
    cases u
    · simp only [Bool.false_eq_true, if_false]
      rw [ontimeref31_State_AccessRange.j1]
      by_cases h1 : hi < m
      · simp [h1]
      · have h1' : ¬ m > hi := h1
        simp only [h1, decide_false, Bool.false_eq_true, if_false]
        by_cases h2 : m = hi
        · rw [if_pos h2, if_pos h2]
          have := acc_f m S W L (false, l) hS hW1 hW hf (by simp; omega) k (by simp; omega)
          simp only at this
          rw [this]
          rfl
        · rw [if_neg h2, if_neg h2]
          have hw : wrap64 (hi - m) = hi - m := w64 (by omega)
          rw [hw]
          by_cases h3 : 64 ≤ hi - m
          · rw [if_pos h3, if_pos h3]
          · rw [if_neg h3, if_neg h3]
            exact range_l0 hi S W L hhi (hi - m + 1).toNat m l k (by omega) hm0.1 (by omega) (by omega)
    · simp only [if_true]
      rw [ontimeref31_State_AccessRange.j1]
      simp
  unfold ontimeref31_State_AccessRange.f
  by_cases hl0 : lo < 0
  · rw [if_pos hl0]
    exact key 0 (by omega)
  · rw [if_neg hl0]
    exact key lo (by omega)
end Go.Proofs.Ytjckghdgogkeaaa
