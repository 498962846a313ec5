/- The reference's lists of lines, in plain Lean: what Age, Put, Access, AccessRange do, as the printed functions say it. -/
import Derived.Test.YtjckghdgogkeaaaPMayDescribesx4
import Derived.Test.YtjckghdgogkeaaaPMayDescribesx5
import Derived.Test.YtjckghdgogkeaaaZEx10
import Derived.Test.YtjckghdgogkeaaaZEx1
namespace Go.Proofs.Ytjckghdgogkeaaa
open Go.RowKit Go.Maps Go.Proofs.Ytjckghdgogkeaaa.PMayDescribes
set_option linter.unusedVariables false

def look : List S81 → FM
  | [], _ => none
  | a :: t, x => if a.f0 = x then some a.f1 else look t x
/-- What Put appends from here on; d: done. -/
def putG (x v : Int) : Bool → List S81 → List S81
  | d, [] => if d = true then [] else [⟨x, v⟩]
  | d, a :: t =>
    if d = false ∧ a.f0 ≥ x then (if a.f0 = x then ⟨x, v⟩ :: putG x v true t else ⟨x, v⟩ :: a :: putG x v true t)
    else (if a.f0 = x then putG x v d t else a :: putG x v d t)
def rPut (l : List S81) (x v : Int) : List S81 := putG x v false l

theorem putG_len (x v : Int) : ∀ (l : List S81) (d : Bool), (putG x v d l).length ≤ l.length + 1
  | [], d => by cases d <;> simp [putG]
  | a :: t, d => by
    have h1 := putG_len x v t true
    have h2 := putG_len x v t d
    have h3 : ∀ t : List S81, (putG x v true t).length ≤ t.length := by
      intro t
      induction t with
      | nil => simp [putG]
      | cons b t ih => simp only [putG, Bool.true_eq_false, false_and, if_false]; split <;> simp <;> omega
    have h4 := h3 t
    simp only [putG]
    split
    · split <;> simp <;> omega
    · split <;> simp <;> omega
theorem look_done (x v : Int) : ∀ (l : List S81) (y : Int), look (putG x v true l) y = if y = x then none else look l y
  | [], y => by simp [putG, look]
  | a :: t, y => by
    have ih := look_done x v t y
    simp only [putG]
    simp only [Bool.true_eq_false, false_and, if_false]
    by_cases h : a.f0 = x
    · rw [if_pos h, ih]
      by_cases k : y = x
      · simp [k]
      · rw [if_neg k, if_neg k]
        have : ¬ a.f0 = y := fun e => k (e ▸ h)
        simp [look, this]
    · rw [if_neg h]
      simp only [look]
      by_cases k : a.f0 = y
      · have : ¬ y = x := fun e => h (k.trans e)
        simp [k, this]
      · rw [if_neg k, if_neg k, ih]
theorem look_put (x v : Int) : ∀ (l : List S81) (y : Int), look (rPut l x v) y = put (look l) x v y
  | [], y => by
    simp only [rPut, putG, put, look]
    by_cases h : y = x
    · simp [h, look]
    · simp [h, look]; intro e; exact absurd e.symm h
  | a :: t, y => by
    have ih := look_put x v t y
    unfold rPut at ih ⊢
    simp only [putG]
    by_cases h : a.f0 ≥ x
    · rw [if_pos ⟨trivial, h⟩]
      by_cases k : a.f0 = x
      · rw [if_pos k]
        simp only [look, put, look_done]
        by_cases m : y = x
        · simp [m]
        · have : ¬ x = y := fun e => m e.symm
          have : ¬ a.f0 = y := fun e => m (e ▸ k)
          simp [*]
      · rw [if_neg k]
        simp only [look, put, look_done]
        by_cases m : y = x
        · simp [m]
        · have : ¬ x = y := fun e => m e.symm
          simp [*]
    · rw [if_neg (by simp; omega)]
      have k : ¬ a.f0 = x := by omega
      rw [if_neg k]
      simp only [look, put] at ih ⊢
      rw [ih]
      by_cases m : y = x
      · have : ¬ a.f0 = y := fun e => k (e.trans m)
        subst m
        simp [this]
      · simp [m]

/-! ### the printed functions -/
theorem w64 {n : Int} (h : -9223372036854775808 ≤ n ∧ n ≤ 9223372036854775807) : wrap64 n = n := by unfold wrap64; omega
theorem rd_at {l pre : List S81} {a : S81} {t : List S81} (h : l = pre ++ a :: t) : rd_T81 l (pre.length : Int) = a := by
  subst h
  simp [rd_T81, List.getD_eq_getElem?_getD]

theorem put_l0 (x v S W L S' W' L' : Int) (u u' : Bool) (l : List S81) : ∀ (r pre : List S81) (d : Bool) (out : List S81) (k : Nat), l = pre ++ r → 2 * r.length + 1 ≤ k → l.length < 1000000 → out.length + 2 * r.length < 10000000 →
    ontimeref31_State_Put.l0 k x v d (pre.length : Int) S W L u l S' W' L' u' out = some (S', W', L', u', out ++ putG x v d r) := by
  intro r
  induction r with
  | nil =>
    intro pre d out k h hk hl ho
    obtain ⟨k, rfl⟩ : ∃ j, k = j + 1 := ⟨k - 1, by omega⟩
    rw [ontimeref31_State_Put.l0]
    simp only [List.append_nil] at h
    subst h
    rw [if_neg (by omega)]
    cases d
    · simp only [Bool.false_eq_true, if_false]
      rw [if_pos (by simp at ho; omega)]
      simp [putG]
    · simp [putG]
  | cons a t ih =>
    intro pre d out k h hk hl ho
    obtain ⟨k, rfl⟩ : ∃ j, k = j + 1 + 1 := ⟨k - 2, by simp at hk; omega⟩
    have hlt : (pre.length : Int) < (l.length : Int) := by subst h; simp; omega
    have hr := rd_at h
    have hw : wrap64 ((pre.length : Int) + 1) = ((pre ++ [a]).length : Int) := by
      simp only [List.length_append, List.length_singleton]
      rw [w64] <;> omega
    have h' : l = (pre ++ [a]) ++ t := by simp [h]
    simp only [List.length_cons] at hk ho
    rw [ontimeref31_State_Put.l0, if_pos hlt, if_pos (by omega), hr]
    cases d
    · simp only [Bool.false_eq_true, if_false]
      rw [ontimeref31_State_Put.j1]
      by_cases hge : a.f0 ≥ x
      · simp only [hge, decide_true, if_true]
        rw [if_pos (by omega)]
        simp only [Option.bind_some]
        by_cases he : a.f0 = x
        · rw [if_pos he, hw, ih (pre ++ [a]) true _ k h' (by omega) hl (by simp; omega)]
          simp [putG, he]
        · rw [if_neg he, if_pos (by simp; omega), hw, ih (pre ++ [a]) true _ k h' (by omega) hl (by simp; omega)]
          simp [putG, he, hge]
      · have he : ¬ a.f0 = x := by omega
        simp only [hge, decide_false, Bool.false_eq_true, if_false]
        rw [if_neg he, if_pos (by omega), hw, ih (pre ++ [a]) false _ k h' (by omega) hl (by simp; omega)]
        simp [putG, he, hge]
    · simp only [if_true]
      rw [ontimeref31_State_Put.j1]
      simp only [Bool.false_eq_true, if_false]
      by_cases he : a.f0 = x
      · rw [if_pos he, hw, ih (pre ++ [a]) true _ k h' (by omega) hl (by omega)]
        simp [putG, he]
      · rw [if_neg he, if_pos (by omega), hw, ih (pre ++ [a]) true _ k h' (by omega) hl (by simp; omega)]
        simp [putG, he]

theorem put_f (x v S W L : Int) (u : Bool) (l : List S81) (hl : l.length < 1000000) (k : Nat) (hk : 2 * l.length + 1 ≤ k) :
    ontimeref31_State_Put.f k S W L u l x v = some (S, W, L, false, rPut l x v) :=
  put_l0 x v S W L S W L u false l l [] false [] k rfl hk hl (by simp; omega)

theorem age_l0 (x S W L : Int) (u : Bool) (l : List S81) : ∀ (r pre : List S81) (k : Nat), l = pre ++ r → r.length + 1 ≤ k → l.length < 1000000 →
    ontimeref31_State_Age.l0 k x (pre.length : Int) S W L u l = some ((look r x).getD (-1)) := by
  intro r
  induction r with
  | nil =>
    intro pre k h hk hl
    obtain ⟨k, rfl⟩ : ∃ j, k = j + 1 := ⟨k - 1, by omega⟩
    rw [ontimeref31_State_Age.l0]
    simp only [List.append_nil] at h
    subst h
    rw [if_neg (by omega)]
    rfl
  | cons a t ih =>
    intro pre k h hk hl
    obtain ⟨k, rfl⟩ : ∃ j, k = j + 1 := ⟨k - 1, by simp at hk; omega⟩
    have hlt : (pre.length : Int) < (l.length : Int) := by subst h; simp; omega
    have hr := rd_at h
    have hw : wrap64 ((pre.length : Int) + 1) = ((pre ++ [a]).length : Int) := by
      simp only [List.length_append, List.length_singleton]
      rw [w64] <;> omega
    have h' : l = (pre ++ [a]) ++ t := by simp [h]
    simp only [List.length_cons] at hk
    rw [ontimeref31_State_Age.l0, if_pos hlt, if_pos (by omega), hr]
    by_cases he : a.f0 = x
    · rw [if_pos he]
      simp [look, he]
    · rw [if_neg he, hw, ih (pre ++ [a]) k h' (by omega) hl]
      simp [look, he]
theorem age_f (x S W L : Int) (u : Bool) (l : List S81) (hl : l.length < 1000000) (k : Nat) (hk : l.length + 1 ≤ k) :
    ontimeref31_State_Age.f k S W L u l x = some ((look l x).getD (-1)) := age_l0 x S W L u l l [] k rfl hk hl

/-! ### an access -/
def agedR (S W h x : Int) : List S81 → List S81
  | [] => []
  | a :: t =>
    if a.f0 ≠ x ∧ Int.tmod a.f0 S = Int.tmod x S ∧ a.f1 ≤ h then (if a.f1 + 1 < W then ⟨a.f0, a.f1 + 1⟩ :: agedR S W h x t else agedR S W h x t)
    else (if a.f1 < W then a :: agedR S W h x t else agedR S W h x t)
def FitL (W : Int) (l : List S81) : Prop := ∀ a ∈ l, 0 ≤ a.f0 ∧ 0 ≤ a.f1 ∧ a.f1 < W
theorem agedR_len (S W h x : Int) : ∀ l : List S81, (agedR S W h x l).length ≤ l.length
  | [] => by simp [agedR]
  | a :: t => by
    have ih := agedR_len S W h x t
    simp only [agedR]
    split <;> split <;> simp <;> omega
theorem acc_l0 (x h S W L S' W' L' : Int) (u u' : Bool) (l : List S81) (hS : S ≠ 0) (hW : W ≤ 8) (hf : FitL W l) : ∀ (r pre out : List S81) (k : Nat), l = pre ++ r → 2 * r.length + 2 * (out.length + r.length) + 3 ≤ k → l.length < 100000 → out.length + r.length < 1000000 →
    ontimeref31_State_Access.l0 k x h (pre.length : Int) S W L u l S' W' L' u' out = some (S', W', L', false, rPut (out ++ agedR S W h x r) x 0) := by
  intro r
  induction r with
  | nil =>
    intro pre out k hh hk hl ho
    obtain ⟨k, rfl⟩ : ∃ j, k = j + 1 := ⟨k - 1, by omega⟩
    rw [ontimeref31_State_Access.l0]
    simp only [List.append_nil] at hh
    subst hh
    rw [if_neg (by omega), put_f _ _ _ _ _ _ _ (by simpa using ho) _ (by simp at hk; omega)]
    simp [agedR]
  | cons a t ih =>
    intro pre out k hh hk hl ho
    obtain ⟨k, rfl⟩ : ∃ j, k = j + 1 + 1 := ⟨k - 2, by simp at hk; omega⟩
    have hlt : (pre.length : Int) < (l.length : Int) := by subst hh; simp; omega
    have hr := rd_at hh
    have hw : wrap64 ((pre.length : Int) + 1) = ((pre ++ [a]).length : Int) := by
      simp only [List.length_append, List.length_singleton]
      rw [w64] <;> omega
    have h' : l = (pre ++ [a]) ++ t := by simp [hh]
    obtain ⟨g0, g1, g2⟩ := hf a (by subst hh; simp)
    have hw2 : wrap64 (a.f1 + 1) = a.f1 + 1 := w64 (by omega)
    simp only [List.length_cons] at hk ho
    rw [ontimeref31_State_Access.l0, if_pos hlt, if_pos (by omega), hr]
    by_cases he : a.f0 = x
    · rw [if_pos he, ontimeref31_State_Access.j3]
      simp only [Bool.false_eq_true, if_false]
      rw [if_pos g2, if_pos (by omega), hw, ih (pre ++ [a]) _ k h' (by simp; omega) hl (by simp; omega)]
      subst he
      simp [agedR, g2]
    · rw [if_neg he, if_neg hS]
      by_cases hs : Int.tmod a.f0 S = Int.tmod x S
      · rw [if_pos hs, ontimeref31_State_Access.j3]
        by_cases hh2 : a.f1 ≤ h
        · simp only [hh2, decide_true, if_true]
          rw [hw2]
          by_cases hlw : a.f1 + 1 < W
          · rw [if_pos hlw, if_pos (by omega), hw, ih (pre ++ [a]) _ k h' (by simp; omega) hl (by simp; omega)]
            simp [agedR, he, hs, hh2, hlw]
          · rw [if_neg hlw, hw, ih (pre ++ [a]) _ k h' (by omega) hl (by omega)]
            simp [agedR, he, hs, hh2, hlw]
        · simp only [hh2, decide_false, Bool.false_eq_true, if_false]
          rw [if_pos g2, if_pos (by omega), hw, ih (pre ++ [a]) _ k h' (by simp; omega) hl (by simp; omega)]
          simp [agedR, he, hs, hh2, g2]
      · rw [if_neg hs, ontimeref31_State_Access.j3]
        simp only [Bool.false_eq_true, if_false]
        rw [if_pos g2, if_pos (by omega), hw, ih (pre ++ [a]) _ k h' (by simp; omega) hl (by simp; omega)]
        simp [agedR, he, hs, g2]

abbrev RS := Bool × List S81
def rAcc (S W : Int) (s : RS) (x : Int) : RS := if s.1 = true then s else if x < 0 then s else (false, rPut (agedR S W ((look s.2 x).getD W) x s.2) x 0)
theorem look_fit {W : Int} : ∀ {l : List S81}, FitL W l → ∀ {x c : Int}, look l x = some c → 0 ≤ x ∧ 0 ≤ c ∧ c < W
  | [], _, _, _, h => by cases h
  | a :: t, hf, x, c, h => by
    simp only [look] at h
    split at h
    · rename_i e
      cases h
      subst e
      exact hf a (by simp)
    · exact look_fit (l := t) (fun b hb => hf b (by simp [hb])) h
theorem acc_f (x S W L : Int) (s : RS) (hS : S ≠ 0) (hW1 : 1 ≤ W) (hW : W ≤ 8) (hf : FitL W s.2) (hl : s.2.length < 100000) (k : Nat) (hk : 4 * s.2.length + 8 ≤ k) :
    ontimeref31_State_Access.f k S W L s.1 s.2 x = some (S, W, L, (rAcc S W s x).1, (rAcc S W s x).2) := by
  obtain ⟨u, l⟩ := s
  obtain ⟨k, rfl⟩ : ∃ j, k = j + 1 + 1 := ⟨k - 2, by omega⟩
  unfold ontimeref31_State_Access.f rAcc
  simp only at hf hl hk ⊢
  cases u
  · simp only [Bool.false_eq_true, if_false]
    rw [ontimeref31_State_Access.j0]
    by_cases hx : x < 0
    · simp [hx]
    · simp only [hx, decide_false, Bool.false_eq_true, if_false]
      rw [age_f _ _ _ _ _ _ (by omega) _ (by omega)]
      simp only [Option.bind_some]
      cases hc : look l x with
      | none =>
        simp only [Option.getD_none]
        rw [if_pos (by omega), ontimeref31_State_Access.j1]
        exact acc_l0 x W S W L S W L false false l hS hW hf l [] [] k rfl (by simp; omega) hl (by simp; omega)
      | some c =>
        obtain ⟨_, c0, _⟩ := look_fit hf hc
        simp only [Option.getD_some]
        rw [if_neg (by omega), ontimeref31_State_Access.j1]
        exact acc_l0 x c S W L S W L false false l hS hW hf l [] [] k rfl (by simp; omega) hl (by simp; omega)
  · simp only [if_true]
    rw [ontimeref31_State_Access.j0]
    simp

/-! ### an access to one of several lines -/
def rPuts : Nat → List S81 → Int → List S81
  | 0, l, _ => l
  | n + 1, l, x => rPuts n (rPut l x 0) (x + 1)
def rRange (S W : Int) (s : RS) (lo hi : Int) : RS :=
  if s.1 = true then s else if hi < max lo 0 then s else if max lo 0 = hi then rAcc S W s (max lo 0) else if 64 ≤ hi - max lo 0 then (true, []) else (false, rPuts (hi - max lo 0 + 1).toNat s.2 (max lo 0))
theorem rPut_len (l : List S81) (x v : Int) : (rPut l x v).length ≤ l.length + 1 := putG_len x v l false
theorem rPuts_len : ∀ (n : Nat) (l : List S81) (x : Int), (rPuts n l x).length ≤ l.length + n
  | 0, l, x => by simp [rPuts]
  | n + 1, l, x => by
    have h1 := rPuts_len n (rPut l x 0) (x + 1)
    have h2 := rPut_len l x 0
    simp only [rPuts]
    omega
theorem range_l0 (hi S W L : Int) (hhi : hi ≤ 1000000) : ∀ (n : Nat) (x : Int) (l : List S81) (k : Nat), (n : Int) = hi - x + 1 → 0 ≤ x → 3 * n + 2 * l.length + 3 ≤ k → l.length + n < 100000 →
    ontimeref31_State_AccessRange.l0 k hi x S W L false l = some (S, W, L, false, rPuts n l x) := by
  intro n
  induction n with
  | zero =>
    intro x l k h h0 hk hl
    obtain ⟨k, rfl⟩ : ∃ j, k = j + 1 := ⟨k - 1, by omega⟩
    rw [ontimeref31_State_AccessRange.l0, if_neg (by omega)]
    rfl
  | succ n ih =>
    intro x l k h h0 hk hl
    obtain ⟨k, rfl⟩ : ∃ j, k = j + 1 := ⟨k - 1, by omega⟩
    rw [ontimeref31_State_AccessRange.l0, if_pos (by omega), put_f _ _ _ _ _ _ _ (by omega) _ (by omega)]
    simp only [Option.bind_some]
    have h1 := rPut_len l x 0
    have hw : wrap64 (x + 1) = x + 1 := w64 (by omega)
    rw [hw, ih (x + 1) _ k (by omega) (by omega) (by omega) (by omega)]
    rfl
theorem range_f (lo hi S W L : Int) (hlo : -1000000 ≤ lo) (hhi : hi ≤ 1000000) (hhi2 : -1000000 ≤ hi) (hlo2 : lo ≤ 1000000) (s : RS) (hS : S ≠ 0) (hW1 : 1 ≤ W) (hW : W ≤ 8) (hf : FitL W s.2) (hl : s.2.length < 50000) (k : Nat) (hk : 4 * s.2.length + 300 ≤ k) :
    ontimeref31_State_AccessRange.f k S W L s.1 s.2 lo hi = some (S, W, L, (rRange S W s lo hi).1, (rRange S W s lo hi).2) := by
  have key : ∀ m : Int, m = max lo 0 → ontimeref31_State_AccessRange.j0 k m hi S W L s.1 s.2 = some (S, W, L, (rRange S W s lo hi).1, (rRange S W s lo hi).2) := by
    intro m hm
    obtain ⟨k, rfl⟩ : ∃ j, k = j + 1 + 1 := ⟨k - 2, by omega⟩
    unfold rRange
    rw [← hm]
    have hm0 : 0 ≤ m ∧ m ≤ 1000000 := by omega
    clear hm
    obtain ⟨u, l⟩ := s
    simp only at hf hl hk ⊢
    rw [ontimeref31_State_AccessRange.j0]
    cases u
    · simp only [Bool.false_eq_true, if_false]
      rw [ontimeref31_State_AccessRange.j1]
      by_cases h1 : hi < m
      · simp [h1]
      · have h1' : ¬ m > hi := h1
        simp only [h1, decide_false, Bool.false_eq_true, if_false]
        by_cases h2 : m = hi
        · rw [if_pos h2, if_pos h2]
          have := acc_f m S W L (false, l) hS hW1 hW hf (by simp; omega) k (by simp; omega)
          simp only at this
          rw [this]
          rfl
        · rw [if_neg h2, if_neg h2]
          have hw : wrap64 (hi - m) = hi - m := w64 (by omega)
          rw [hw]
          by_cases h3 : 64 ≤ hi - m
          · rw [if_pos h3, if_pos h3]
          · rw [if_neg h3, if_neg h3]
            exact range_l0 hi S W L hhi (hi - m + 1).toNat m l k (by omega) hm0.1 (by omega) (by omega)
    · simp only [if_true]
      rw [ontimeref31_State_AccessRange.j1]
      simp
  unfold ontimeref31_State_AccessRange.f
  by_cases hl0 : lo < 0
  · rw [if_pos hl0]
    exact key 0 (by omega)
  · rw [if_neg hl0]
    exact key lo (by omega)
end Go.Proofs.Ytjckghdgogkeaaa

namespace Go.Proofs.Ytjckghdgogkeaaa
open Go.RowKit Go.Maps Go.Proofs.YtjckghdgogkeaaaW.PrintWords Go.Proofs.Ytjckghdgogkeaaa.PMayDescribes
set_option linter.unusedVariables false

def Srt : List S81 → Prop
  | [] => True
  | a :: t => (∀ b ∈ t, a.f0 < b.f0) ∧ Srt t
/-- The list says what f says, in ascending order. -/
structure Rep (W : Int) (l : List S81) (f : FM) : Prop where
  look : ∀ y, look l y = f y
  srt : Srt l
  fit : FitL W l
theorem mem_done {x v : Int} {b : S81} : ∀ {l : List S81}, b ∈ putG x v true l → b ∈ l ∧ b.f0 ≠ x
  | [], h => by simp [putG] at h
  | a :: t, h => by
    simp only [putG, Bool.true_eq_false, false_and, if_false] at h
    split at h
    · have := mem_done h
      exact ⟨by simp [this.1], this.2⟩
    · rename_i he
      rcases List.mem_cons.1 h with rfl | h
      · exact ⟨by simp, he⟩
      · have := mem_done h
        exact ⟨by simp [this.1], this.2⟩
theorem mem_put {x v : Int} {b : S81} : ∀ {l : List S81}, b ∈ rPut l x v → b = ⟨x, v⟩ ∨ (b ∈ l ∧ b.f0 ≠ x)
  | [], h => by
    simp [rPut, putG] at h
    exact .inl h
  | a :: t, h => by
    unfold rPut at h
    simp only [putG] at h
    split at h
    · split at h
      · rcases List.mem_cons.1 h with rfl | h
        · exact .inl rfl
        · have := mem_done h
          exact .inr ⟨by simp [this.1], this.2⟩
      · rename_i he
        rcases List.mem_cons.1 h with rfl | h
        · exact .inl rfl
        · rcases List.mem_cons.1 h with rfl | h
          · exact .inr ⟨by simp, he⟩
          · have := mem_done h
            exact .inr ⟨by simp [this.1], this.2⟩
    · split at h
      · rcases mem_put (l := t) h with h | h
        · exact .inl h
        · exact .inr ⟨by simp [h.1], h.2⟩
      · rename_i he
        rcases List.mem_cons.1 h with rfl | h
        · exact .inr ⟨by simp, he⟩
        · rcases mem_put (l := t) h with h | h
          · exact .inl h
          · exact .inr ⟨by simp [h.1], h.2⟩
theorem srt_done {x v : Int} : ∀ {l : List S81}, Srt l → Srt (putG x v true l)
  | [], _ => by simp [putG, Srt]
  | a :: t, h => by
    simp only [putG, Bool.true_eq_false, false_and, if_false]
    split
    · exact srt_done h.2
    · exact ⟨fun b hb => h.1 b (mem_done hb).1, srt_done h.2⟩
theorem srt_put {x v : Int} : ∀ {l : List S81}, Srt l → Srt (rPut l x v)
  | [], _ => by simp [rPut, putG, Srt]
  | a :: t, h => by
    unfold rPut
    simp only [putG]
    split
    · rename_i hge
      have hge := hge.2
      split
      · rename_i he
        exact ⟨fun b hb => by have := h.1 b (mem_done hb).1; show x < b.f0; omega, srt_done h.2⟩
      · rename_i he
        have hd : Srt (putG x v true (a :: t)) := srt_done h
        refine ⟨fun b hb => ?_, ⟨fun b hb => h.1 b (mem_done hb).1, srt_done h.2⟩⟩
        show x < b.f0
        rcases List.mem_cons.1 hb with rfl | hb
        · omega
        · have := h.1 b (mem_done hb).1
          omega
    · rename_i hge
      split
      · exact srt_put h.2
      · refine ⟨fun b hb => ?_, srt_put h.2⟩
        rcases mem_put (l := t) hb with rfl | hb
        · show a.f0 < x
          by_cases c : a.f0 ≥ x
          · exact absurd ⟨trivial, c⟩ hge
          · omega
        · exact h.1 b hb.1
theorem fit_rput {W : Int} {l : List S81} (h : FitL W l) {x : Int} (hx : 0 ≤ x) {v : Int} (h0 : 0 ≤ v) (h1 : v < W) : FitL W (rPut l x v) := fun b hb => by
  rcases mem_put hb with rfl | hb
  · exact ⟨hx, h0, h1⟩
  · exact h b hb.1
theorem Rep.put {W : Int} {l : List S81} {f : FM} (h : Rep W l f) {x : Int} (hx : 0 ≤ x) {v : Int} (h0 : 0 ≤ v) (h1 : v < W) : Rep W (rPut l x v) (put f x v) :=
  ⟨fun y => by rw [look_put]; unfold Ytjckghdgogkeaaa.put; rw [h.look], srt_put h.srt, fit_rput h.fit hx h0 h1⟩
theorem Rep.nil (W : Int) : Rep W [] noF := ⟨fun _ => rfl, trivial, fun _ h => by cases h⟩

theorem look_none {l : List S81} {x : Int} (h : ∀ b ∈ l, b.f0 ≠ x) : look l x = none := by
  induction l with
  | nil => rfl
  | cons a t ih =>
    simp only [look]
    rw [if_neg (h a (by simp))]
    exact ih fun b hb => h b (by simp [hb])
theorem mem_aged {S W h x : Int} {b : S81} : ∀ {l : List S81}, b ∈ agedR S W h x l → ∃ a ∈ l, a.f0 = b.f0 ∧ (b.f1 = a.f1 ∨ b.f1 = a.f1 + 1) ∧ b.f1 < W
  | [], hb => by simp [agedR] at hb
  | a :: t, hb => by
    simp only [agedR] at hb
    have rest : b ∈ agedR S W h x t → ∃ a' ∈ a :: t, a'.f0 = b.f0 ∧ (b.f1 = a'.f1 ∨ b.f1 = a'.f1 + 1) ∧ b.f1 < W := fun hb => by
      obtain ⟨c, hc, he⟩ := mem_aged (l := t) hb
      exact ⟨c, by simp [hc], he⟩
    split at hb
    · split at hb
      · rename_i hlt
        rcases List.mem_cons.1 hb with rfl | hb
        · exact ⟨a, by simp, rfl, .inr rfl, hlt⟩
        · exact rest hb
      · exact rest hb
    · split at hb
      · rename_i hlt
        rcases List.mem_cons.1 hb with rfl | hb
        · exact ⟨b, by simp, rfl, .inl rfl, hlt⟩
        · exact rest hb
      · exact rest hb
theorem srt_aged {S W h x : Int} : ∀ {l : List S81}, Srt l → Srt (agedR S W h x l)
  | [], _ => by simp [agedR, Srt]
  | a :: t, hs => by
    have hm : ∀ b ∈ agedR S W h x t, a.f0 < b.f0 := fun b hb => by
      obtain ⟨c, hc, he, _⟩ := mem_aged hb
      have := hs.1 c hc
      omega
    simp only [agedR]
    split
    · split
      · exact ⟨hm, srt_aged hs.2⟩
      · exact srt_aged hs.2
    · split
      · exact ⟨hm, srt_aged hs.2⟩
      · exact srt_aged hs.2
theorem fit_agedR {S W h x : Int} {l : List S81} (hf : FitL W l) : FitL W (agedR S W h x l) := fun b hb => by
  obtain ⟨a, ha, he, h1, h2⟩ := mem_aged hb
  obtain ⟨p, q, r⟩ := hf a ha
  omega
theorem look_aged {S W h x : Int} (hx : 0 ≤ x) (hS : 0 < S) : ∀ {l : List S81}, Srt l → FitL W l → ∀ y, look (agedR S W h x l) y = aged S W h x (look l) y
  | [], _, _, y => by simp [agedR, look, aged]
  | a :: t, hs, hf, y => by
    have ih := look_aged (h := h) hx hS hs.2 (fun b hb => hf b (by simp [hb])) y
    obtain ⟨g0, g1, g2⟩ := hf a (by simp)
    have e1 : Int.tmod a.f0 S = a.f0 % S := Int.tmod_eq_emod_of_nonneg g0
    have e2 : Int.tmod x S = x % S := Int.tmod_eq_emod_of_nonneg hx
    simp only [agedR, e1, e2]
    by_cases hy : a.f0 = y
    · have hn : look (agedR S W h x t) y = none := look_none fun b hb => by
        obtain ⟨c, hc, he, _⟩ := mem_aged hb
        have := hs.1 c hc
        omega
      subst hy
      have hlk : look (a :: t) a.f0 = some a.f1 := by simp [look]
      by_cases hc : a.f0 ≠ x ∧ a.f0 % S = x % S ∧ a.f1 ≤ h
      · by_cases hl : a.f1 + 1 < W
        · rw [aged_up hlk hc.1 hc.2.1 hc.2.2 hl, if_pos hc, if_pos hl]
          simp [look]
        · rw [aged_out hlk hc.1 hc.2.1 hc.2.2 (by omega), if_pos hc, if_neg hl]
          exact hn
      · rw [aged_keep hlk (by by_cases k1 : a.f0 = x <;> by_cases k2 : a.f0 % S = x % S <;> simp_all), if_neg hc, if_pos g2]
        simp [look]
    · have e3 : aged S W h x (look (a :: t)) y = aged S W h x (look t) y := by
        unfold aged
        simp only [look, if_neg hy]
      rw [e3, ← ih]
      split <;> (try split) <;> simp [look, hy]
theorem Rep.acc {S W : Int} {l : List S81} {f : FM} (h : Rep W l f) (hS : 0 < S) (hW : 1 ≤ W) {x : Int} (hx : 0 ≤ x) : Rep W (rPut (agedR S W ((Ytjckghdgogkeaaa.look l x).getD W) x l) x 0) (mayAcc S W f x) := by
  have hl : Ytjckghdgogkeaaa.look l = f := funext h.look
  have h1 : Rep W (agedR S W ((Ytjckghdgogkeaaa.look l x).getD W) x l) (aged S W ((f x).getD W) x f) := ⟨fun y => by rw [look_aged hx hS h.srt h.fit, hl], srt_aged h.srt, fit_agedR h.fit⟩
  exact h1.put hx (by omega) (by omega)
theorem Rep.puts {W : Int} (hW : 1 ≤ W) : ∀ (n : Nat) {l : List S81} {f : FM} (x : Int), Rep W l f → 0 ≤ x → Rep W (rPuts n l x) (puts f x (x + n - 1))
  | 0, l, f, x, h, hx => by
    have e : x + ((0 : Nat) : Int) - 1 = x - 1 := by omega
    rw [e, puts_nil]
    exact h
  | n + 1, l, f, x, h, hx => by
    have ih := Rep.puts hW n (x + 1) (h.put hx (v := 0) (by omega) (by omega)) (by omega)
    have e : Ytjckghdgogkeaaa.puts f x (x + ((n + 1 : Nat) : Int) - 1) = Ytjckghdgogkeaaa.puts (Ytjckghdgogkeaaa.put f x 0) (x + 1) (x + 1 + (n : Int) - 1) := by
      funext y
      unfold Ytjckghdgogkeaaa.puts Ytjckghdgogkeaaa.put
      by_cases c : y = x
      · subst c
        rw [if_pos (by omega), if_neg (by omega), if_pos rfl]
      · by_cases k : x ≤ y ∧ y ≤ x + ((n + 1 : Nat) : Int) - 1
        · rw [if_pos k, if_pos (by omega)]
        · rw [if_neg k, if_neg (by omega), if_neg c]
    rw [e]
    exact ih

/-- The reference's state says what st says. -/
def Rel (W : Int) (st : St) (s : RS) : Prop := (st = none ∧ s = (true, [])) ∨ ∃ f, st = some f ∧ s.1 = false ∧ Rep W s.2 f
theorem Rel.start (W : Int) : Rel W (some noF) (false, []) := .inr ⟨noF, rfl, rfl, Rep.nil W⟩
theorem Rel.fit {W : Int} {st : St} {s : RS} (h : Rel W st s) : FitL W s.2 := by
  rcases h with ⟨_, rfl⟩ | ⟨f, _, _, h⟩
  · intro _ h; cases h
  · exact h.fit
theorem Rel.acc {S W : Int} {st : St} {s : RS} (h : Rel W st s) (hS : 0 < S) (hW : 1 ≤ W) (x : Int) : Rel W (sAcc S W st x) (rAcc S W s x) := by
  rcases h with ⟨rfl, rfl⟩ | ⟨f, rfl, hu, h⟩
  · exact .inl ⟨rfl, rfl⟩
  · unfold rAcc sAcc
    rw [hu]
    simp only [Bool.false_eq_true, if_false]
    by_cases hx : x < 0
    · rw [if_pos hx, if_pos hx]
      exact .inr ⟨f, rfl, hu, h⟩
    · rw [if_neg hx, if_neg hx]
      exact .inr ⟨_, rfl, rfl, h.acc hS hW (by omega)⟩
theorem Rel.range {S W : Int} {st : St} {s : RS} (h : Rel W st s) (hS : 0 < S) (hW : 1 ≤ W) (lo hi : Int) : Rel W (sRange S W st lo hi) (rRange S W s lo hi) := by
  rcases h with ⟨rfl, rfl⟩ | ⟨f, rfl, hu, h⟩
  · exact .inl ⟨rfl, rfl⟩
  · unfold rRange sRange
    rw [hu]
    simp only [Bool.false_eq_true, if_false]
    by_cases h1 : hi < max lo 0
    · rw [if_pos h1, if_pos h1]
      exact .inr ⟨f, rfl, hu, h⟩
    · rw [if_neg h1, if_neg h1]
      by_cases h2 : max lo 0 = hi
      · rw [if_pos h2, if_pos h2]
        have := Rel.acc (S := S) (.inr ⟨f, rfl, hu, h⟩) hS hW (max lo 0)
        unfold sAcc at this
        rw [h2] at this ⊢
        simp only at this
        rwa [if_neg (by omega)] at this
      · rw [if_neg h2, if_neg h2]
        by_cases h3 : 64 ≤ hi - max lo 0
        · rw [if_pos h3, if_pos h3]
          exact .inl ⟨rfl, rfl⟩
        · rw [if_neg h3, if_neg h3]
          refine .inr ⟨_, rfl, rfl, ?_⟩
          have := Rep.puts hW (hi - max lo 0 + 1).toNat (max lo 0) h (by omega)
          have e : max lo 0 + ((hi - max lo 0 + 1).toNat : Int) - 1 = hi := by omega
          rwa [e] at this
def rStep (S W : Int) (s : RS) (lo hi : Int) : RS := if lo = hi then rAcc S W s lo else rRange S W s lo hi
theorem Rel.step {S W : Int} {st : St} {s : RS} (h : Rel W st s) (hS : 0 < S) (hW : 1 ≤ W) (lo hi : Int) : Rel W (sStep S W st lo hi) (rStep S W s lo hi) := by
  unfold sStep rStep
  split
  · exact h.acc hS hW lo
  · exact h.range hS hW lo hi
theorem rAcc_len (S W : Int) (s : RS) (x : Int) : (rAcc S W s x).2.length ≤ s.2.length + 64 := by
  unfold rAcc
  split
  · omega
  · split
    · omega
    · have h1 := rPut_len (agedR S W ((look s.2 x).getD W) x s.2) x 0
      have h2 := agedR_len S W ((look s.2 x).getD W) x s.2
      simp only
      omega
theorem rRange_len (S W : Int) (s : RS) (lo hi : Int) : (rRange S W s lo hi).2.length ≤ s.2.length + 64 := by
  unfold rRange
  split
  · omega
  · split
    · omega
    · split
      · exact rAcc_len S W s _
      · split
        · simp
        · have := rPuts_len (hi - max lo 0 + 1).toNat s.2 (max lo 0)
          simp only
          omega
theorem rStep_len (S W : Int) (s : RS) (lo hi : Int) : (rStep S W s lo hi).2.length ≤ s.2.length + 64 := by
  unfold rStep
  split
  · exact rAcc_len S W s lo
  · exact rRange_len S W s lo hi

/-! ### Describes -/
def okFrom (l : List S81) : List Int → Int → Bool
  | [], _ => true
  | x :: t, j => if (look l x).getD (-1) < 0 then false else if (look l x).getD (-1) > j then false else okFrom l t (j + 1)
def rowsOk (s : RS) : List (List Int) → Bool
  | [] => true
  | r :: t => if s.1 = true then rowsOk s t else if okFrom s.2 r 0 = true then rowsOk s t else false
/-- The fuel that the rows want. -/
def fuelOf : List (List Int) → Nat
  | [] => 1
  | r :: t => r.length + 3 + fuelOf t
theorem rowAt {α : Type} {ls pre : List α} {r : α} {t : List α} (h : ls = pre ++ r :: t) (z : α) : ls.getD (pre.length : Int).toNat z = r := by
  subst h
  simp [List.getD_eq_getElem?_getD]
theorem descr_l1 (S W L : Int) (s : RS) (hl : s.2.length < 100000) (ls : List (List Int)) (hls : ls.length < 100000) (pre t : List (List Int)) (row : List Int) (hrow : row.length < 100000) (hh : ls = pre ++ row :: t) (N : Nat) (hN : s.2.length + 1 ≤ N)
    (next : ∀ k, N + fuelOf t ≤ k → ontimeref31_Describes.l0 k ls ((pre ++ [row]).length : Int) S W L s.1 s.2 = some (rowsOk s t)) :
    ∀ (r p : List Int) (k : Nat), row = p ++ r → N + fuelOf t + r.length + 1 ≤ k → ontimeref31_Describes.l1 k ls (pre.length : Int) (p.length : Int) S W L s.1 s.2 = some (if s.1 = true then rowsOk s t else if okFrom s.2 r (p.length : Int) = true then rowsOk s t else false) := by
  intro r
  have hw0 : wrap64 ((pre.length : Int) + 1) = ((pre ++ [row]).length : Int) := by
    have : pre.length < ls.length := by subst hh; simp
    simp only [List.length_append, List.length_singleton]
    rw [w64] <;> omega
  have hlt : (pre.length : Int) < (ls.length : Int) := by subst hh; simp; omega
  have hr : rd_L4 ls (pre.length : Int) = row := rowAt hh _
  induction r with
  | nil =>
    intro p k hp hk
    obtain ⟨k, rfl⟩ : ∃ j, k = j + 1 := ⟨k - 1, by omega⟩
    rw [ontimeref31_Describes.l1, if_pos (by omega), if_pos hlt, hr]
    simp only [List.append_nil] at hp
    subst hp
    rw [if_neg (by omega), hw0, next k (by simp at hk; omega)]
    simp [okFrom]
  | cons x r ih =>
    intro p k hp hk
    obtain ⟨k, rfl⟩ : ∃ j, k = j + 1 := ⟨k - 1, by omega⟩
    simp only [List.length_cons] at hk
    have hplt : (p.length : Int) < (row.length : Int) := by subst hp; simp; omega
    have hx : rd row (p.length : Int) = x := rowAt hp _
    have hw : wrap64 ((p.length : Int) + 1) = ((p ++ [x]).length : Int) := by
      simp only [List.length_append, List.length_singleton]
      rw [w64] <;> omega
    have ih := ih (p ++ [x]) k (by simp [hp]) (by omega)
    have hpl : ((p ++ [x]).length : Int) = (p.length : Int) + 1 := by simp
    rw [ontimeref31_Describes.l1, if_pos (by omega), if_pos hlt, hr, if_pos hplt, if_pos (by omega), hx, age_f _ _ _ _ _ _ (by omega) _ (by omega)]
    rw [hpl] at hw ih
    simp only [Option.bind_some]
    rw [hw]
    by_cases hu : s.1 = true
    · rw [if_pos hu, if_pos hu, ih, if_pos hu]
    · rw [if_neg hu, if_neg hu]
      rw [if_neg hu] at ih
      by_cases c1 : (look s.2 x).getD (-1) < 0
      · have e : okFrom s.2 (x :: r) (p.length : Int) = false := by
          simp only [okFrom]
          rw [if_pos c1]
        rw [if_pos c1, e]
        rfl
      · by_cases c2 : (look s.2 x).getD (-1) > (p.length : Int)
        · have e : okFrom s.2 (x :: r) (p.length : Int) = false := by
            simp only [okFrom]
            rw [if_neg c1, if_pos c2]
          rw [if_neg c1, if_pos c2, e]
          rfl
        · have e : okFrom s.2 (x :: r) (p.length : Int) = okFrom s.2 r ((p.length : Int) + 1) := by
            simp only [okFrom]
            rw [if_neg c1, if_neg c2]
          rw [if_neg c1, if_neg c2, e, ih]
theorem descr_l0 (S W L : Int) (s : RS) (hl : s.2.length < 100000) (ls : List (List Int)) (hls : ls.length < 100000) (hrows : ∀ r ∈ ls, r.length < 100000) (N : Nat) (hN : s.2.length + 1 ≤ N) :
    ∀ (t pre : List (List Int)) (k : Nat), ls = pre ++ t → N + fuelOf t ≤ k → ontimeref31_Describes.l0 k ls (pre.length : Int) S W L s.1 s.2 = some (rowsOk s t) := by
  intro t
  induction t with
  | nil =>
    intro pre k hh hk
    obtain ⟨k, rfl⟩ : ∃ j, k = j + 1 := ⟨k - 1, by simp [fuelOf] at hk; omega⟩
    rw [ontimeref31_Describes.l0]
    simp only [List.append_nil] at hh
    subst hh
    rw [if_neg (by omega)]
    rfl
  | cons row t ih =>
    intro pre k hh hk
    simp only [fuelOf] at hk
    obtain ⟨k, rfl⟩ : ∃ j, k = j + 1 := ⟨k - 1, by omega⟩
    have hlt : (pre.length : Int) < (ls.length : Int) := by subst hh; simp; omega
    rw [ontimeref31_Describes.l0, if_pos hlt]
    exact descr_l1 S W L s hl ls hls pre t row (hrows row (by subst hh; simp)) hh N hN (fun k hk => ih (pre ++ [row]) k (by simp [hh]) hk) row [] k rfl (by omega)
theorem descr_f (S W L : Int) (s : RS) (hl : s.2.length < 100000) (ls : List (List Int)) (hls : ls.length < 100000) (hrows : ∀ r ∈ ls, r.length < 100000) :
    ∃ k, ontimeref31_Describes.f k S W L s.1 s.2 ls = some (decide ((ls.length : Int) = S) && rowsOk s ls) := by
  refine ⟨s.2.length + 1 + fuelOf ls, ?_⟩
  unfold ontimeref31_Describes.f
  by_cases h : (ls.length : Int) = S
  · rw [if_pos h]
    have := descr_l0 S W L s hl ls hls hrows (s.2.length + 1) (Nat.le_refl _) ls [] _ rfl (Nat.le_refl _)
    simp only [List.length_nil] at this
    rw [show ((0 : Nat) : Int) = 0 from rfl] at this
    rw [this]
    simp [h]
  · rw [if_neg h]
    simp [h]
theorem okFrom_iff {W : Int} {l : List S81} {f : FM} (h : Rep W l f) : ∀ (r : List Int) (j : Nat), okFrom l r (j : Int) = true ↔ ∀ i, i < r.length → ∃ b, f (r.getD i 0) = some b ∧ b ≤ ((j + i : Nat) : Int)
  | [], j => by simp [okFrom]
  | x :: t, j => by
    have ih := okFrom_iff h t (j + 1)
    have ej : ((j + 1 : Nat) : Int) = (j : Int) + 1 := by omega
    rw [ej] at ih
    simp only [okFrom, h.look]
    cases hx : f x with
    | none =>
      simp only [Option.getD_none]
      rw [if_pos (by omega)]
      simp only [Bool.false_eq_true, false_iff]
      intro hall
      obtain ⟨b, hb, _⟩ := hall 0 (by simp)
      simp only [List.getD_cons_zero] at hb
      rw [hx] at hb
      cases hb
    | some b =>
      have hb0 := (look_fit h.fit ((h.look x).trans hx)).2.1
      simp only [Option.getD_some]
      rw [if_neg (by omega)]
      by_cases hbj : b > (j : Int)
      · rw [if_pos hbj]
        simp only [Bool.false_eq_true, false_iff]
        intro hall
        obtain ⟨b', hb, hle⟩ := hall 0 (by simp)
        simp only [List.getD_cons_zero] at hb
        rw [hx] at hb
        cases hb
        omega
      · rw [if_neg hbj, ih]
        constructor
        · intro hall i hi
          cases i with
          | zero => exact ⟨b, by simpa using hx, by omega⟩
          | succ i =>
            obtain ⟨b', h1, h2⟩ := hall i (by simp at hi; omega)
            exact ⟨b', by simpa using h1, by omega⟩
        · intro hall i hi
          obtain ⟨b', h1, h2⟩ := hall (i + 1) (by simp; omega)
          exact ⟨b', by simpa using h1, by omega⟩
theorem rowsOk_iff {W : Int} {st : St} {s : RS} (h : Rel W st s) : ∀ (ls : List (List Int)), rowsOk s ls = true ↔ ∀ f, st = some f → ∀ k, k < ls.length → OkRow f (ls.getD k [])
  | [] => by simp [rowsOk]
  | r :: t => by
    have ih := rowsOk_iff h t
    simp only [rowsOk]
    rcases h with ⟨rfl, rfl⟩ | ⟨f, rfl, hu, h⟩
    · simp only [if_true]
      rw [ih]
      simp
    · rw [hu]
      simp only [Bool.false_eq_true, if_false]
      have h0 := okFrom_iff h r 0
      rw [show ((0 : Nat) : Int) = 0 from rfl] at h0
      by_cases hr : okFrom s.2 r 0 = true
      · rw [if_pos hr, ih]
        have hr := h0.1 hr
        constructor
        · intro hall f' e k hk
          cases e
          cases k with
          | zero =>
            intro i hi
            obtain ⟨b, h1, h2⟩ := hr i (by simpa using hi)
            exact ⟨b, by simpa using h1, by omega⟩
          | succ k => simpa using hall f rfl k (by simp at hk; omega)
        · intro hall f' e k hk
          cases e
          simpa using hall f rfl (k + 1) (by simp; omega)
      · rw [if_neg hr]
        simp only [Bool.false_eq_true, false_iff]
        intro hall
        apply hr
        rw [h0]
        intro i hi
        obtain ⟨b, h1, h2⟩ := hall f rfl 0 (by simp) i (by simpa using hi)
        exact ⟨b, by simpa using h1, by omega⟩
theorem descr_iff {W S : Int} {st : St} {s : RS} (h : Rel W st s) (ls : List (List Int)) : (decide ((ls.length : Int) = S) && rowsOk s ls) = true ↔ Descr S st ls := by
  simp only [Bool.and_eq_true, decide_eq_true_eq, rowsOk_iff h ls]
  exact Iff.rfl
end Go.Proofs.Ytjckghdgogkeaaa

namespace Go.Proofs.Ytjckghdgogkeaaa
open Go.RowKit Go.Maps Go.Proofs.YtjckghdgogkeaaaW.PrintWords Go.Proofs.Ytjckghdgogkeaaa.PMayDescribes
set_option linter.unusedVariables false

/-! ### small -/
def okStep (x : S45) : Bool := decide (¬ x.f0 < -4000 ∧ ¬ x.f0 > 4000 ∧ ¬ x.f1 < -4000 ∧ ¬ x.f1 > 4000)
def smallB (S W L : Int) (l : List S45) : Bool := vldB S W L && (decide (S ≤ 16) && (decide (W ≤ 16) && (decide (l.length ≤ 40) && l.all okStep)))
theorem power_f (n most : Int) (hm : most ≤ 64) : cache_power.f n most = some (powB n most) := by
  unfold cache_power.f
  by_cases h1 : n ≥ 1
  · rw [if_pos h1]
    by_cases h2 : n ≤ most
    · rw [if_pos h2, w64 (by omega), pow_bits n h1 (by omega)]
      unfold powB
      simp [h2]
    · rw [if_neg h2]
      unfold powB
      simp; omega
  · rw [if_neg h1]
    have : powB n most = false := by unfold powB Pow; simp; omega
    rw [this]
theorem valid_f (S W L : Int) : cache_Valid.f S W L = some (vldB S W L) := by
  unfold cache_Valid.f
  rw [power_f _ _ (by omega), power_f _ _ (by omega)]
  unfold vldB
  simp only [Option.bind_some]
  by_cases h1 : powB S 64 = true
  · rw [if_pos h1]
    by_cases h2 : W ≥ 1
    · rw [if_pos h2]
      by_cases h3 : W ≤ 8
      · rw [if_pos h3]
        have h2' : 1 ≤ W := h2
        simp [h1, h2', h3]
      · rw [if_neg h3]
        simp [h1, h3]
    · rw [if_neg h2]
      have h2' : ¬ 1 ≤ W := h2
      simp [h1, h2']
  · rw [if_neg h1]
    simp [h1]
theorem small_l0 (l : List S45) (hl : l.length < 100000) : ∀ (r pre : List S45) (k : Nat), l = pre ++ r → r.length + 1 ≤ k → ontimelaw31_small.l0 k l (l.length : Int) (pre.length : Int) = some (r.all okStep) := by
  intro r
  induction r with
  | nil =>
    intro pre k h hk
    obtain ⟨k, rfl⟩ : ∃ j, k = j + 1 := ⟨k - 1, by omega⟩
    simp only [List.append_nil] at h
    subst h
    rw [ontimelaw31_small.l0, if_neg (by omega)]
    rfl
  | cons a t ih =>
    intro pre k h hk
    obtain ⟨k, rfl⟩ : ∃ j, k = j + 1 := ⟨k - 1, by simp at hk; omega⟩
    have hlt : (pre.length : Int) < (l.length : Int) := by subst h; simp; omega
    have hr : rd_T45 l (pre.length : Int) = a := rowAt h _
    have hw : wrap64 ((pre.length : Int) + 1) = ((pre ++ [a]).length : Int) := by
      simp only [List.length_append, List.length_singleton]
      rw [w64] <;> omega
    simp only [List.length_cons] at hk
    rw [ontimelaw31_small.l0, if_pos hlt, if_pos (by omega), if_pos hlt, hr, hw, ih (pre ++ [a]) k (by simp [h]) (by omega)]
    simp only [List.all_cons]
    by_cases c1 : a.f0 < -4000
    · rw [if_pos c1]; simp [okStep]; intro; omega
    rw [if_neg c1]
    by_cases c2 : a.f0 > 4000
    · rw [if_pos c2]; simp [okStep]; intro; omega
    rw [if_neg c2]
    by_cases c3 : a.f1 < -4000
    · rw [if_pos c3]; simp [okStep]; intros; omega
    rw [if_neg c3]
    by_cases c4 : a.f1 > 4000
    · rw [if_pos c4]; simp [okStep]; intros; omega
    rw [if_neg c4]
    have : okStep a = true := by unfold okStep; exact decide_eq_true ⟨c1, c2, c3, c4⟩
    rw [this]; rfl
theorem small_f (S W L : Int) (l : List S45) : ∃ k, ontimelaw31_small.f k S W L l = some (smallB S W L l) := by
  refine ⟨60, ?_⟩
  unfold ontimelaw31_small.f smallB
  rw [valid_f]
  simp only [Option.bind_some]
  by_cases h1 : vldB S W L = true
  · rw [if_pos h1]
    by_cases h2 : S > 16
    · rw [if_pos h2, ontimelaw31_small.j0]
      have : ¬ S ≤ 16 := by omega
      simp [this]
    rw [if_neg h2]
    by_cases h3 : W > 16
    · rw [if_pos h3, ontimelaw31_small.j0]
      have : ¬ W ≤ 16 := by omega
      simp [this]
    rw [if_neg h3, ontimelaw31_small.j0]
    by_cases h4 : l.length ≤ 40
    · have e : ¬ (l.length : Int) > 40 := by omega
      have h2' : S ≤ 16 := by omega
      have h3' : W ≤ 16 := by omega
      simp only [e, decide_false, Bool.false_eq_true, if_false]
      have := small_l0 l (by omega) l [] 59 rfl (by omega)
      simp only [List.length_nil] at this
      rw [show ((0 : Nat) : Int) = 0 from rfl] at this
      rw [this]
      simp [h1, h2', h3', h4]
    · have e : (l.length : Int) > 40 := by omega
      simp [e, h4]
  · rw [if_neg h1, ontimelaw31_small.j0]
    simp [h1]
theorem small_any (S W L : Int) (A : Option Addr) (c : Nat) (l : List S45) (w : World) (hr : k45.C w A l.length l) (hc : l.length ≤ c) :
    Calls Try.prog 12 #[.agg #[.int .i64 S, .int .i64 W, .int .i64 L], .slice A l.length c] w fun e w' => e = .returned (.bool (smallB S W L l)) ∧ Ext w w' := by
  obtain ⟨k, h⟩ := small_f S W L l
  exact ontimelaw31_small.calls k S W L A c l _ w hr hc h
structure SmallIs (S W L : Int) (l : List S45) : Prop where
  geo : Geo S W L
  s16 : S ≤ 16
  len : l.length ≤ 40
  step : ∀ x ∈ l, -4000 ≤ x.f0 ∧ x.f0 ≤ 4000 ∧ -4000 ≤ x.f1 ∧ x.f1 ≤ 4000
theorem small_is {S W L : Int} {l : List S45} (h : smallB S W L l = true) : SmallIs S W L l := by
  unfold smallB at h
  simp only [Bool.and_eq_true, decide_eq_true_eq] at h
  obtain ⟨h1, h2, h3, h4, h5⟩ := h
  refine ⟨(vld_iff _ _ _).1 h1, h2, h4, fun x hx => ?_⟩
  have := List.all_eq_true.1 h5 x hx
  simp only [okStep, decide_eq_true_eq] at this
  omega

/-! ### after -/
def sSteps (S W : Int) : St → List S45 → St := List.foldl fun st x => sStep S W st x.f0 x.f1
def rSteps (S W : Int) : RS → List S45 → RS := List.foldl fun s x => rStep S W s x.f0 x.f1
theorem Rel.steps {S W : Int} (hS : 0 < S) (hW : 1 ≤ W) : ∀ (l : List S45) {st : St} {s : RS}, Rel W st s → Rel W (sSteps S W st l) (rSteps S W s l)
  | [], _, _, h => h
  | x :: t, _, _, h => Rel.steps hS hW t (h.step hS hW x.f0 x.f1)
theorem rSteps_len (S W : Int) : ∀ (l : List S45) (s : RS), (rSteps S W s l).2.length ≤ s.2.length + 64 * l.length
  | [], s => by simp [rSteps]
  | x :: t, s => by
    have h1 := rSteps_len S W t (rStep S W s x.f0 x.f1)
    have h2 := rStep_len S W s x.f0 x.f1
    show (rSteps S W (rStep S W s x.f0 x.f1) t).2.length ≤ _
    simp only [List.length_cons]
    omega
/-- The reference's list lies in w as v, in a block of its own from base on. -/
def RfB (w : World) (base : Nat) (v : Value) (l : List S81) : Prop := k81.R 81 w base (fun k => some k = v.ownBlock) v l
theorem RfB.own {w : World} {base : Nat} {v : Value} {l : List S81} (h : RfB w base v l) {g : Nat} (hg : some g = v.ownBlock) : g < w.heap.size ∧ ∃ cells, w.heap[g]? = some (.cells cells 81 (0, 0)) := by
  obtain ⟨_, _, h2, q, hq, cells, hb⟩ := (Kd.R_bound h).1 g hg.symm
  have : q = 81 := by
    rcases List.mem_cons.1 hq with h | h
    · exact h
    · cases h
  subst this
  exact ⟨h2, cells, hb⟩
theorem RfB.ext {w w' : World} {base : Nat} {v : Value} {l : List S81} (h : RfB w base v l) (e : Ext w w') : RfB w' base v l := Kd.R_below h e
theorem RfB.alloc {w : World} {base : Nat} {v : Value} {l : List S81} (h : RfB w base v l) (o : Obj) : RfB (w.alloc o) base v l := h.ext ((Ext.refl w).alloc o)
/-- A store into a block of another kind. -/
theorem RfB.set {w : World} {base : Nat} {v : Value} {l : List S81} {g k : Nat} {cs : Array Value} {t : TypeId} {u : Value} (hb : Blk w g (.cells cs t)) (ht : t ≠ 81) (h : RfB w base v l) : RfB (w.setCell ⟨g, k, none⟩ u) base v l := by
  refine Kd.R_far h (p := ⟨g, k, none⟩) (fun j hj => ?_) u
  rintro rfl
  obtain ⟨_, cells, he⟩ := h.own hj
  unfold Blk at hb
  rw [hb] at he
  cases he
  exact ht rfl
theorem kept_ne {w w' : World} {base : Nat} {v : Value} {l : List S81} (h : RfB w base v l) (hk : Kept w w' (fun k => some k = v.ownBlock)) {b : Nat} (hlt : b < w.heap.size) (ho : ∀ cells, w.heap[b]? ≠ some (.cells cells 81 (0, 0))) : w'.heap[b]? = w.heap[b]? :=
  hk.2 b hlt fun e => by
    obtain ⟨_, cells, he⟩ := h.own e
    exact ho cells he
theorem kept_blk {w w' : World} {base : Nat} {v : Value} {l : List S81} (h : RfB w base v l) (hk : Kept w w' (fun k => some k = v.ownBlock)) {b : Nat} {cs : Array Value} {t : TypeId} (hb : Blk w b (.cells cs t)) (ht : t ≠ 81) : Blk w' b (.cells cs t) := by
  refine (kept_ne h hk hb.lt fun cells e => ?_).trans hb
  unfold Blk at hb
  rw [hb] at e
  cases e
  exact ht rfl
theorem kept_st {w w' : World} {base : Nat} {v : Value} {l : List S81} (h : RfB w base v l) (hk : Kept w w' (fun k => some k = v.ownBlock)) {W : Int} {n : Nat} {st : St} {u : Bool} {p : Option Nat} (hs : StB w W n st u p) : StB w' W n st u p := by
  rcases hs with hs | ⟨h1, f, h2, h3, h4⟩
  · exact .inl hs
  · refine .inr ⟨h1, f, h2, h3.same fun b e => ?_, h4⟩
    rcases h3 with ⟨rfl, _⟩ | ⟨b', rfl, h3⟩
    · cases e
    · cases e
      obtain ⟨D, ⟨es, clock, hb, _⟩, _⟩ := h3
      have hlt : b < w.heap.size := (Array.getElem?_eq_some_iff.1 hb).1
      exact kept_ne h hk hlt fun cells e => by rw [hb] at e; cases e

theorem rstep_acc {S W L : Int} (g : Geo S W L) (x : Int) (s : RS) (v : Value) (w0 w : World) (hB : Ext w0 w) (ho : RfB w w0.heap.size v s.2) (hf : FitL W s.2) (hl : s.2.length < 50000) :
    Calls Try.prog 33 #[.agg #[.int .i64 S, .int .i64 W, .int .i64 L, .bool s.1, v], .int .i64 x] w fun e w' => ∃ v', e = .returned (.agg #[.int .i64 S, .int .i64 W, .int .i64 L, .bool (rAcc S W s x).1, v']) ∧ RfB w' w0.heap.size v' (rAcc S W s x).2 ∧ Ext w0 w' ∧ Kept w w' (fun k => some k = v.ownBlock) := by
  have hs := g.s1
  refine (ontimeref31_State_Access.calls _ S W L s.1 _ v s.2 x _ _ _ _ _ w0 w hB ho (acc_f x S W L s (by omega) g.w1 g.w8 hf (by omega) _ (Nat.le_refl _))).mono ?_
  rintro e w' ⟨v', he, h1, h2, h3⟩
  exact ⟨v', he, Kd.R_tight rfl h1, h2, h3⟩
theorem rstep_range {S W L : Int} (g : Geo S W L) (lo hi : Int) (hlo : -4000 ≤ lo ∧ lo ≤ 4000) (hhi : -4000 ≤ hi ∧ hi ≤ 4000) (s : RS) (v : Value) (w0 w : World) (hB : Ext w0 w) (ho : RfB w w0.heap.size v s.2) (hf : FitL W s.2) (hl : s.2.length < 50000) :
    Calls Try.prog 34 #[.agg #[.int .i64 S, .int .i64 W, .int .i64 L, .bool s.1, v], .int .i64 lo, .int .i64 hi] w fun e w' => ∃ v', e = .returned (.agg #[.int .i64 S, .int .i64 W, .int .i64 L, .bool (rRange S W s lo hi).1, v']) ∧ RfB w' w0.heap.size v' (rRange S W s lo hi).2 ∧ Ext w0 w' ∧ Kept w w' (fun k => some k = v.ownBlock) := by
  have hs := g.s1
  refine (ontimeref31_State_AccessRange.calls _ S W L s.1 _ v s.2 lo hi _ _ _ _ _ w0 w hB ho (range_f lo hi S W L (by omega) (by omega) (by omega) (by omega) s (by omega) g.w1 g.w8 hf hl _ (Nat.le_refl _))).mono ?_
  rintro e w' ⟨v', he, h1, h2, h3⟩
  exact ⟨v', he, Kd.R_tight rfl h1, h2, h3⟩
end Go.Proofs.Ytjckghdgogkeaaa

namespace Go.Proofs.Ytjckghdgogkeaaa
open Go.RowKit Go.Maps Go.Proofs.YtjckghdgogkeaaaW.PrintWords Go.Proofs.Ytjckghdgogkeaaa.PMayDescribes
set_option linter.unusedVariables false

theorem at_step {w : World} {A : Option Addr} {n : Nat} {xs : List S45} (h : k45.C w A n xs) (k : Nat) (hk : k < n) : ∃ ad, A = some ad ∧ w.cell? (ad.add (k * 3)) = some (.int .i64 (xs.getD k z45).f0) ∧ w.cell? ⟨(ad.add (k * 3)).block, (ad.add (k * 3)).off + 1, none⟩ = some (.int .i64 (xs.getD k z45).f1) ∧ w.cell? ⟨(ad.add (k * 3)).block, (ad.add (k * 3)).off + 2, none⟩ = some (.int .u8 (xs.getD k z45).f2) := by
  have := at_T45 h (k : Int) (by omega) (by omega)
  simpa [rd_T45] using this

abbrev zMay : Obj := .cells #[.int .i64 0, .int .i64 0, .int .i64 0, .bool false, .map none] 31
abbrev mayO (S W L : Int) (u : Bool) (p : Option Nat) : Obj := .cells #[.int .i64 S, .int .i64 W, .int .i64 L, .bool u, .map p] 31
abbrev zRef : Obj := .cells #[.int .i64 0, .int .i64 0, .int .i64 0, .bool false, .slice none 0 0] 34
abbrev refO (S W L : Int) (u : Bool) (v : Value) : Obj := .cells #[.int .i64 S, .int .i64 W, .int .i64 L, .bool u, v] 34

section
variable {w : World} {B : Nat} {a b c d e a' b' c' d' e' : Value} {t : TypeId}
/-- A store of a whole struct of five cells. -/
theorem Blk.put5 (h : Blk w B (.cells #[a, b, c, d, e] t)) : Blk (((((w.setCell ⟨B, 0, none⟩ a').setCell ⟨B, 1, none⟩ b').setCell ⟨B, 2, none⟩ c').setCell ⟨B, 3, none⟩ d').setCell ⟨B, 4, none⟩ e') B (.cells #[a', b', c', d', e'] t) := by
  have := ((((h.put (k := 0) (u := a')).put (k := 1) (u := b')).put (k := 2) (u := c')).put (k := 3) (u := d')).put (k := 4) (u := e')
  exact this
theorem RfB.set5 {base : Nat} {v : Value} {l : List S81} (h : RfB w base v l) (hb : Blk w B (.cells #[a, b, c, d, e] t)) (ht : t ≠ 81) : RfB (((((w.setCell ⟨B, 0, none⟩ a').setCell ⟨B, 1, none⟩ b').setCell ⟨B, 2, none⟩ c').setCell ⟨B, 3, none⟩ d').setCell ⟨B, 4, none⟩ e') base v l :=
  ((((h.set hb ht).set (hb.put) ht).set (hb.put.put) ht).set (hb.put.put.put) ht).set (hb.put.put.put.put) ht
end

set_option maxHeartbeats 1000000 in
theorem after_st {S W L : Int} (g : Geo S W L) (A : Option Addr) (c : Nat) (l : List S45) (w : World) (hr : k45.C w A l.length l) (hl : l.length ≤ 100) (hb : ∀ x ∈ l, -4000 ≤ x.f0 ∧ x.f0 ≤ 4000 ∧ -4000 ≤ x.f1 ∧ x.f1 ≤ 4000) :
    Calls Try.prog 13 #[.agg #[.int .i64 S, .int .i64 W, .int .i64 L], .slice A l.length c] w fun e w' => ∃ u p v, e = .returned (.tuple #[.agg #[.int .i64 S, .int .i64 W, .int .i64 L, .bool u, .map p], .agg #[.int .i64 S, .int .i64 W, .int .i64 L, .bool (rSteps S W (false, []) l).1, v]]) ∧ StB w' W (64 * l.length) (sSteps S W (some noF) l) u p ∧ RfB w' w.heap.size v (rSteps S W (false, []) l).2 ∧ Ext w w' := by
  obtain ⟨n, hn⟩ : ∃ n, n = l.length := ⟨_, rfl⟩
  rw [← hn] at hr hl ⊢
  have HN := Lib.hid hn; clear hn
  have HB := Lib.hid hb; clear hb
  go_enter Try.func13, Try.ntmps13
  go_wp2_with (go_at_call 21; refine Calls.mono (may_new_yes g _) ?_; rintro e w1 ⟨rfl, hb1⟩; have hz1 := hb1.size; simp at hz1; have q1 : w.heap.size < w1.heap.size := (by omega); obtain ⟨a0, a1, a2⟩ := Blk.c3 (w := w1) (B := w.heap.size) (by repeat (first | (with_reducible assumption) | ((with_reducible refine Blk.new ?_); (first | (focus rfl) | (focus (simp; done)) | (focus omega))) | ((with_reducible refine Blk.set1 ?_ ?_); (focus omega)) | (with_reducible refine Blk.alloc ?_) | (refine Blk.ext ?_ (by with_reducible assumption)))))
  go_loopw [20] (fun i wr => ∃ (k : Nat) (u : Bool) (p : Option Nat) (v : Value), i = .int .i64 k ∧ k ≤ n ∧ (Blk wr (w.heap.size + 1) zMay ∧ Blk wr (w.heap.size + 1 + 1) zRef ∧ Blk wr w1.heap.size (mayO S W L u p) ∧ Blk wr (w1.heap.size + 1) (refO S W L (rSteps S W (false, []) (l.take k)).1 v) ∧
      StB wr W (64 * k) (sSteps S W (some noF) (l.take k)) u p ∧ RfB wr w.heap.size v (rSteps S W (false, []) (l.take k)).2 ∧ Ext w wr)) (fun i _ => n - (Go.RowKit.intOf i).toNat)
  case atStart =>
    have e0 : rSteps S W (false, []) (l.take 0) = (false, []) := rfl
    refine ⟨0, false, none, .slice none 0 0, rfl, Nat.zero_le _, (by repeat (first | (with_reducible assumption) | ((with_reducible refine Blk.new ?_); (first | (focus rfl) | (focus (simp; done)) | (focus omega))) | ((with_reducible refine Blk.set1 ?_ ?_); (focus omega)) | (with_reducible refine Blk.alloc ?_) | (refine Blk.ext ?_ (by with_reducible assumption)))), (by repeat (first | (with_reducible assumption) | ((with_reducible refine Blk.new ?_); (first | (focus rfl) | (focus (simp; done)) | (focus omega))) | ((with_reducible refine Blk.set1 ?_ ?_); (focus omega)) | (with_reducible refine Blk.alloc ?_) | (refine Blk.ext ?_ (by with_reducible assumption)))), (by repeat (first | (with_reducible assumption) | ((with_reducible refine Blk.new ?_); (first | (focus rfl) | (focus (simp; done)) | (focus omega))) | ((with_reducible refine Blk.set1 ?_ ?_); (focus omega)) | (with_reducible refine Blk.alloc ?_) | (refine Blk.ext ?_ (by with_reducible assumption)))), ?_, StB.nil _ _ _, ?_, (by repeat (first | ((with_reducible refine Ext.set1 ?_ ?_); (first | (focus (simp; done)) | (focus (simp; omega)) | (focus omega))) | (with_reducible refine Ext.alloc ?_ _) | (with_reducible exact Ext.refl _) | (refine Ext.trans ?_ (by with_reducible assumption))))⟩
    · rw [e0]
      exact (by repeat (first | (with_reducible assumption) | ((with_reducible refine Blk.new ?_); (first | (focus rfl) | (focus (simp; done)) | (focus omega))) | ((with_reducible refine Blk.set1 ?_ ?_); (focus omega)) | (with_reducible refine Blk.alloc ?_) | (refine Blk.ext ?_ (by with_reducible assumption))))
    · rw [e0]
      exact Kd.R_nil _ _ _ _ _
  case round =>
    obtain ⟨k, u, p, v, rfl, hk, k1, k2, k3, k4, hst, hrf, hext⟩ := hrel
    clear a0 a1 a2
    have hl1 := k1.lt
    have hl3 := k3.lt
    have hl4 := k4.lt
    by_cases hlt : k < n
    · have hr1 := C_ext hr hext
      obtain ⟨ad, rfl, c0, c1, c2⟩ := at_step hr1 k hlt
      have hlk : k < l.length := by rw [← HN.out]; exact hlt
      have hxm : l.getD k z45 ∈ l := by
        rw [List.getD_eq_getElem?_getD, List.getElem?_eq_getElem hlk]
        exact List.getElem_mem hlk
      have hbx := HB.out _ hxm
      have htk : l.take (k + 1) = l.take k ++ [l.getD k z45] := by
        rw [List.take_add_one, List.getElem?_eq_getElem hlk, List.getD_eq_getElem?_getD, List.getElem?_eq_getElem hlk]
        rfl
      have es : sSteps S W (some noF) (l.take (k + 1)) = sStep S W (sSteps S W (some noF) (l.take k)) (l.getD k z45).f0 (l.getD k z45).f1 := by
        rw [htk]
        simp [sSteps, List.foldl_append]
      have er : rSteps S W (false, []) (l.take (k + 1)) = rStep S W (rSteps S W (false, []) (l.take k)) (l.getD k z45).f0 (l.getD k z45).f1 := by
        rw [htk]
        simp [rSteps, List.foldl_append]
      have hfit : FitL W (rSteps S W (false, []) (l.take k)).2 := (Rel.steps (by have := g.s1; omega) g.w1 (l.take k) (Rel.start W)).fit
      have hlen : (rSteps S W (false, []) (l.take k)).2.length < 50000 := by
        have h1 := rSteps_len S W (l.take k) (false, [])
        have h2 : (l.take k).length ≤ 100 := by rw [List.length_take]; omega
        simp only [List.length_nil] at h1
        omega
      clear hxm htk
      obtain ⟨⟨x0, x1, x2⟩, hx⟩ : ∃ x, x = l.getD k z45 := ⟨_, rfl⟩
      rw [← hx] at c0 c1 c2 hbx es er
      dsimp only at c0 c1 c2 hbx es er
      clear hx
      obtain ⟨s, hs⟩ : ∃ s, s = rSteps S W (false, []) (l.take k) := ⟨_, rfl⟩
      rw [← hs] at k4 hrf er hfit hlen
      clear hs
      obtain ⟨st, hs⟩ : ∃ st, st = sSteps S W (some noF) (l.take k) := ⟨_, rfl⟩
      rw [← hs] at hst es
      clear hs
      have ER := Lib.hid er
      have ES := Lib.hid es
      clear er es
      obtain ⟨d0, d1, d2, d3, d4⟩ := k3.c5
      obtain ⟨b0, b1, b2, b3⟩ := hbx
      by_cases hx : x0 = x1
      · subst hx
        go_wp2_with (first
          | (have gq := hb2; clear gq; go_at_call 33; have hrfE := RfB.set5 (a' := .int .i64 S) (b' := .int .i64 W) (c' := .int .i64 L) (d' := .bool u2) (e' := .map p2) (hrf2) m3 (by decide); refine Calls.mono (rstep_acc g x0 s v w _ (by repeat (first | ((with_reducible refine Ext.set1 ?_ ?_); (first | (focus (simp; done)) | (focus (simp; omega)) | (focus omega))) | (with_reducible refine Ext.alloc ?_ _) | (with_reducible exact Ext.refl _) | (refine Ext.trans ?_ (by with_reducible assumption)))) hrfE hfit hlen) ?_; rintro e w3 ⟨v3, rfl, hrf3, hext3, hk3⟩; obtain ⟨A3, cc3, rfl⟩ := Kd.R_slice hrf3; have y1 : Blk w3 (w.heap.size + 1) zMay := kept_blk hrfE hk3 (by repeat (first | (with_reducible assumption) | ((with_reducible refine Blk.new ?_); (first | (focus rfl) | (focus (simp; done)) | (focus omega))) | ((with_reducible refine Blk.set1 ?_ ?_); (focus omega)) | (with_reducible refine Blk.alloc ?_) | (refine Blk.ext ?_ (by with_reducible assumption)))) (by decide); have y2 : Blk w3 (w.heap.size + 1 + 1) zRef := kept_blk hrfE hk3 (by repeat (first | (with_reducible assumption) | ((with_reducible refine Blk.new ?_); (first | (focus rfl) | (focus (simp; done)) | (focus omega))) | ((with_reducible refine Blk.set1 ?_ ?_); (focus omega)) | (with_reducible refine Blk.alloc ?_) | (refine Blk.ext ?_ (by with_reducible assumption)))) (by decide); have y3 : Blk w3 w1.heap.size (mayO S W L u2 p2) := kept_blk hrfE hk3 (Blk.put5 m3) (by decide); have y4 : Blk w3 (w1.heap.size + 1) (refO S W L s.1 v) := kept_blk hrfE hk3 (by repeat (first | (with_reducible assumption) | ((with_reducible refine Blk.new ?_); (first | (focus rfl) | (focus (simp; done)) | (focus omega))) | ((with_reducible refine Blk.set1 ?_ ?_); (focus omega)) | (with_reducible refine Blk.alloc ?_) | (refine Blk.ext ?_ (by with_reducible assumption)))) (by decide); have yst := kept_st hrfE hk3 (W := W) (n := 64 * k + 64) (st := sStep S W st x0 x0) (u := u2) (p := p2) (by repeat (first | (with_reducible assumption) | (with_reducible refine StB.set ?_) | (with_reducible refine StB.alloc ?_ _) | (refine StB.ext ?_ (by with_reducible assumption)))); obtain ⟨r0, r1, r2, r3, r4⟩ := y4.c5; obtain ⟨s0, s1, s2, s3, s4⟩ := y4.f5)
          | (go_at_call 18; refine Calls.mono (step_st g x0 x0 x2 (by omega) u p (64 * k) st _ (by repeat (first | (with_reducible assumption) | (with_reducible refine StB.set ?_) | (with_reducible refine StB.alloc ?_ _) | (refine StB.ext ?_ (by with_reducible assumption)))) (by omega)) ?_; rintro e w2 ⟨u2, p2, rfl, hst2, hb2⟩; have hz2 := hb2.size; simp at hz2; have q2 : wr.heap.size < w2.heap.size := (by omega); have q3 : w1.heap.size < w2.heap.size := (by omega); have q4 : w1.heap.size + 1 < w2.heap.size := (by omega); obtain ⟨i0, i1, i2⟩ := Blk.c3 (w := w2) (B := wr.heap.size) (by repeat (first | (with_reducible assumption) | ((with_reducible refine Blk.new ?_); (first | (focus rfl) | (focus (simp; done)) | (focus omega))) | ((with_reducible refine Blk.set1 ?_ ?_); (focus omega)) | (with_reducible refine Blk.alloc ?_) | (refine Blk.ext ?_ (by with_reducible assumption)))); obtain ⟨j0, j1, j2, j3, j4⟩ := Blk.c5 (w := w2) (B := w1.heap.size + 1) (by repeat (first | (with_reducible assumption) | ((with_reducible refine Blk.new ?_); (first | (focus rfl) | (focus (simp; done)) | (focus omega))) | ((with_reducible refine Blk.set1 ?_ ?_); (focus omega)) | (with_reducible refine Blk.alloc ?_) | (refine Blk.ext ?_ (by with_reducible assumption)))); have m3 : Blk w2 w1.heap.size (mayO S W L u p) := (by repeat (first | (with_reducible assumption) | ((with_reducible refine Blk.new ?_); (first | (focus rfl) | (focus (simp; done)) | (focus omega))) | ((with_reducible refine Blk.set1 ?_ ?_); (focus omega)) | (with_reducible refine Blk.alloc ?_) | (refine Blk.ext ?_ (by with_reducible assumption)))); obtain ⟨n0, n1, n2, n3, n4⟩ := m3.f5; obtain ⟨o0, o1, o2, o3, o4⟩ := m3.c5; have hrf2 := (hrf.alloc _).ext hb2))
        go_roundw
        case rel =>
          refine ⟨k + 1, u2, p2, .slice A3 (rAcc S W s x0).2.length cc3, by go_num, by omega, (by repeat (first | (with_reducible assumption) | ((with_reducible refine Blk.new ?_); (first | (focus rfl) | (focus (simp; done)) | (focus omega))) | ((with_reducible refine Blk.set1 ?_ ?_); (focus omega)) | (with_reducible refine Blk.alloc ?_) | (refine Blk.ext ?_ (by with_reducible assumption)))), (by repeat (first | (with_reducible assumption) | ((with_reducible refine Blk.new ?_); (first | (focus rfl) | (focus (simp; done)) | (focus omega))) | ((with_reducible refine Blk.set1 ?_ ?_); (focus omega)) | (with_reducible refine Blk.alloc ?_) | (refine Blk.ext ?_ (by with_reducible assumption)))), (by repeat (first | (with_reducible assumption) | ((with_reducible refine Blk.new ?_); (first | (focus rfl) | (focus (simp; done)) | (focus omega))) | ((with_reducible refine Blk.set1 ?_ ?_); (focus omega)) | (with_reducible refine Blk.alloc ?_) | (refine Blk.ext ?_ (by with_reducible assumption)))), ?_, ?_, ?_, (by repeat (first | ((with_reducible refine Ext.set1 ?_ ?_); (first | (focus (simp; done)) | (focus (simp; omega)) | (focus omega))) | (with_reducible refine Ext.alloc ?_ _) | (with_reducible exact Ext.refl _) | (refine Ext.trans ?_ (by with_reducible assumption))))⟩
          · rw [ER.out]
            unfold rStep
            rw [if_pos rfl]
            exact Blk.put5 y4
          · rw [ES.out]
            have yst' := yst.mono (n' := 64 * (k + 1)) (by omega)
            clear yst
            exact (by repeat (first | (with_reducible assumption) | (with_reducible refine StB.set ?_) | (with_reducible refine StB.alloc ?_ _) | (refine StB.ext ?_ (by with_reducible assumption))))
          · rw [ER.out]
            unfold rStep
            rw [if_pos rfl]
            exact RfB.set5 hrf3 y4 (by decide)
        case measure => simp [Go.RowKit.intOf]; omega
      · have hx2 : (x0 == x1) = false := by simpa using hx
        have HX := Lib.hid hx; clear hx
        go_wp2_with (first
          | (have gq := hb2; clear gq; go_at_call 34; have hrfE := RfB.set5 (a' := .int .i64 S) (b' := .int .i64 W) (c' := .int .i64 L) (d' := .bool u2) (e' := .map p2) (hrf2) m3 (by decide); refine Calls.mono (rstep_range g x0 x1 ⟨b0, b1⟩ ⟨b2, b3⟩ s v w _ (by repeat (first | ((with_reducible refine Ext.set1 ?_ ?_); (first | (focus (simp; done)) | (focus (simp; omega)) | (focus omega))) | (with_reducible refine Ext.alloc ?_ _) | (with_reducible exact Ext.refl _) | (refine Ext.trans ?_ (by with_reducible assumption)))) hrfE hfit hlen) ?_; rintro e w3 ⟨v3, rfl, hrf3, hext3, hk3⟩; obtain ⟨A3, cc3, rfl⟩ := Kd.R_slice hrf3; have y1 : Blk w3 (w.heap.size + 1) zMay := kept_blk hrfE hk3 (by repeat (first | (with_reducible assumption) | ((with_reducible refine Blk.new ?_); (first | (focus rfl) | (focus (simp; done)) | (focus omega))) | ((with_reducible refine Blk.set1 ?_ ?_); (focus omega)) | (with_reducible refine Blk.alloc ?_) | (refine Blk.ext ?_ (by with_reducible assumption)))) (by decide); have y2 : Blk w3 (w.heap.size + 1 + 1) zRef := kept_blk hrfE hk3 (by repeat (first | (with_reducible assumption) | ((with_reducible refine Blk.new ?_); (first | (focus rfl) | (focus (simp; done)) | (focus omega))) | ((with_reducible refine Blk.set1 ?_ ?_); (focus omega)) | (with_reducible refine Blk.alloc ?_) | (refine Blk.ext ?_ (by with_reducible assumption)))) (by decide); have y3 : Blk w3 w1.heap.size (mayO S W L u2 p2) := kept_blk hrfE hk3 (Blk.put5 m3) (by decide); have y4 : Blk w3 (w1.heap.size + 1) (refO S W L s.1 v) := kept_blk hrfE hk3 (by repeat (first | (with_reducible assumption) | ((with_reducible refine Blk.new ?_); (first | (focus rfl) | (focus (simp; done)) | (focus omega))) | ((with_reducible refine Blk.set1 ?_ ?_); (focus omega)) | (with_reducible refine Blk.alloc ?_) | (refine Blk.ext ?_ (by with_reducible assumption)))) (by decide); have yst := kept_st hrfE hk3 (W := W) (n := 64 * k + 64) (st := sStep S W st x0 x1) (u := u2) (p := p2) (by repeat (first | (with_reducible assumption) | (with_reducible refine StB.set ?_) | (with_reducible refine StB.alloc ?_ _) | (refine StB.ext ?_ (by with_reducible assumption)))); obtain ⟨r0, r1, r2, r3, r4⟩ := y4.c5; obtain ⟨s0, s1, s2, s3, s4⟩ := y4.f5)
          | (go_at_call 18; refine Calls.mono (step_st g x0 x1 x2 (by omega) u p (64 * k) st _ (by repeat (first | (with_reducible assumption) | (with_reducible refine StB.set ?_) | (with_reducible refine StB.alloc ?_ _) | (refine StB.ext ?_ (by with_reducible assumption)))) (by omega)) ?_; rintro e w2 ⟨u2, p2, rfl, hst2, hb2⟩; have hz2 := hb2.size; simp at hz2; have q2 : wr.heap.size < w2.heap.size := (by omega); have q3 : w1.heap.size < w2.heap.size := (by omega); have q4 : w1.heap.size + 1 < w2.heap.size := (by omega); obtain ⟨i0, i1, i2⟩ := Blk.c3 (w := w2) (B := wr.heap.size) (by repeat (first | (with_reducible assumption) | ((with_reducible refine Blk.new ?_); (first | (focus rfl) | (focus (simp; done)) | (focus omega))) | ((with_reducible refine Blk.set1 ?_ ?_); (focus omega)) | (with_reducible refine Blk.alloc ?_) | (refine Blk.ext ?_ (by with_reducible assumption)))); obtain ⟨j0, j1, j2, j3, j4⟩ := Blk.c5 (w := w2) (B := w1.heap.size + 1) (by repeat (first | (with_reducible assumption) | ((with_reducible refine Blk.new ?_); (first | (focus rfl) | (focus (simp; done)) | (focus omega))) | ((with_reducible refine Blk.set1 ?_ ?_); (focus omega)) | (with_reducible refine Blk.alloc ?_) | (refine Blk.ext ?_ (by with_reducible assumption)))); have m3 : Blk w2 w1.heap.size (mayO S W L u p) := (by repeat (first | (with_reducible assumption) | ((with_reducible refine Blk.new ?_); (first | (focus rfl) | (focus (simp; done)) | (focus omega))) | ((with_reducible refine Blk.set1 ?_ ?_); (focus omega)) | (with_reducible refine Blk.alloc ?_) | (refine Blk.ext ?_ (by with_reducible assumption)))); obtain ⟨n0, n1, n2, n3, n4⟩ := m3.f5; obtain ⟨o0, o1, o2, o3, o4⟩ := m3.c5; have hrf2 := (hrf.alloc _).ext hb2))
        go_roundw
        case rel =>
          refine ⟨k + 1, u2, p2, .slice A3 (rRange S W s x0 x1).2.length cc3, by go_num, by omega, (by repeat (first | (with_reducible assumption) | ((with_reducible refine Blk.new ?_); (first | (focus rfl) | (focus (simp; done)) | (focus omega))) | ((with_reducible refine Blk.set1 ?_ ?_); (focus omega)) | (with_reducible refine Blk.alloc ?_) | (refine Blk.ext ?_ (by with_reducible assumption)))), (by repeat (first | (with_reducible assumption) | ((with_reducible refine Blk.new ?_); (first | (focus rfl) | (focus (simp; done)) | (focus omega))) | ((with_reducible refine Blk.set1 ?_ ?_); (focus omega)) | (with_reducible refine Blk.alloc ?_) | (refine Blk.ext ?_ (by with_reducible assumption)))), (by repeat (first | (with_reducible assumption) | ((with_reducible refine Blk.new ?_); (first | (focus rfl) | (focus (simp; done)) | (focus omega))) | ((with_reducible refine Blk.set1 ?_ ?_); (focus omega)) | (with_reducible refine Blk.alloc ?_) | (refine Blk.ext ?_ (by with_reducible assumption)))), ?_, ?_, ?_, (by repeat (first | ((with_reducible refine Ext.set1 ?_ ?_); (first | (focus (simp; done)) | (focus (simp; omega)) | (focus omega))) | (with_reducible refine Ext.alloc ?_ _) | (with_reducible exact Ext.refl _) | (refine Ext.trans ?_ (by with_reducible assumption))))⟩
          · rw [ER.out]
            unfold rStep
            rw [if_neg HX.out]
            exact Blk.put5 y4
          · rw [ES.out]
            have yst' := yst.mono (n' := 64 * (k + 1)) (by omega)
            clear yst
            exact (by repeat (first | (with_reducible assumption) | (with_reducible refine StB.set ?_) | (with_reducible refine StB.alloc ?_ _) | (refine StB.ext ?_ (by with_reducible assumption))))
          · rw [ER.out]
            unfold rStep
            rw [if_neg HX.out]
            exact RfB.set5 hrf3 y4 (by decide)
        case measure => simp [Go.RowKit.intOf]; omega
    · obtain rfl : k = n := by omega
      have etk : l.take k = l := by
        apply List.take_of_length_le
        have := HN.out
        omega
      rw [etk] at k4 hst hrf
      clear etk
      obtain ⟨A3, cc3, rfl⟩ := Kd.R_slice hrf
      obtain ⟨d0, d1, d2, d3, d4⟩ := k3.c5
      obtain ⟨e0, e1, e2, e3, e4⟩ := k4.c5
      obtain ⟨r0, r1, r2, r3, r4⟩ := k1.c5
      obtain ⟨s0, s1, s2, s3, s4⟩ := k1.f5
      obtain ⟨i0, i1, i2, i3, i4⟩ := k2.c5
      obtain ⟨j0, j1, j2, j3, j4⟩ := k2.f5
      go_wp2
      go_region
      go_wp2
      refine bodyPost_ret (v := .tuple #[.agg #[.int .i64 S, .int .i64 W, .int .i64 L, .bool u, .map p], .agg #[.int .i64 S, .int .i64 W, .int .i64 L, .bool (rSteps S W (false, []) l).1, .slice A3 (rSteps S W (false, []) l).2.length cc3]]) ?_ rfl ⟨u, p, .slice A3 (rSteps S W (false, []) l).2.length cc3, rfl, ?_, ?_, ?_⟩
      · simp [results, Try.results13, go_sem, r0, r1, r2, r3, r4, i0, i1, i2, i3, i4]
      · refine StB.ext (?_ : StB _ _ _ _ _ _) (Ext.drew (Ext.refl _))
        exact (by repeat (first | (with_reducible assumption) | (with_reducible refine StB.set ?_) | (with_reducible refine StB.alloc ?_ _) | (refine StB.ext ?_ (by with_reducible assumption))))
      · refine RfB.ext (?_ : RfB _ _ _ _) (Ext.drew (Ext.refl _))
        have kk : ∀ u1 u2 u3 u4 u5 : Value, Blk (((((wr.setCell ⟨w.heap.size + 1, 0, none⟩ u1).setCell ⟨w.heap.size + 1, 1, none⟩ u2).setCell ⟨w.heap.size + 1, 2, none⟩ u3).setCell ⟨w.heap.size + 1, 3, none⟩ u4).setCell ⟨w.heap.size + 1, 4, none⟩ u5) (w.heap.size + 1 + 1) zRef := fun _ _ _ _ _ => (by repeat (first | (with_reducible assumption) | ((with_reducible refine Blk.new ?_); (first | (focus rfl) | (focus (simp; done)) | (focus omega))) | ((with_reducible refine Blk.set1 ?_ ?_); (focus omega)) | (with_reducible refine Blk.alloc ?_) | (refine Blk.ext ?_ (by with_reducible assumption))))
        exact RfB.set5 (RfB.set5 hrf k1 (by decide)) (kk _ _ _ _ _) (by decide)
      · refine Ext.drew (?_ : Ext _ _)
        exact (by repeat (first | ((with_reducible refine Ext.set1 ?_ ?_); (first | (focus (simp; done)) | (focus (simp; omega)) | (focus omega))) | (with_reducible refine Ext.alloc ?_ _) | (with_reducible exact Ext.refl _) | (refine Ext.trans ?_ (by with_reducible assumption))))
end Go.Proofs.Ytjckghdgogkeaaa

namespace Go.Proofs.Ytjckghdgogkeaaa
open Go.RowKit Go.Maps Go.Proofs.Ytjckghdgogkeaaa.PMayDescribes
set_option linter.unusedVariables false

def FitS (W : Int) (st : St) : Prop := ∀ f, st = some f → Fit W f
/-- What st has, su has, with no greater bound. -/
def Le (st su : St) : Prop := ∀ g, su = some g → ∃ f, st = some f ∧ ∀ y c, f y = some c → ∃ c', g y = some c' ∧ c' ≤ c
theorem Le.join {st su : St} : Le st (sJoin st su) := by
  intro g hg
  cases st with
  | none => cases hg
  | some f =>
    cases su with
    | none => cases hg
    | some g' =>
      cases hg
      refine ⟨f, rfl, fun y c hc => ?_⟩
      unfold joined
      rw [hc]
      cases hg : g' y with
      | none => exact ⟨c, rfl, Int.le_refl _⟩
      | some b =>
        simp only [least]
        split
        · exact ⟨b, rfl, by omega⟩
        · exact ⟨c, rfl, Int.le_refl _⟩
theorem Le.eq {st su : St} (h : Le st su) : sJoin st su = su := by
  cases su with
  | none => cases st <;> rfl
  | some g =>
    obtain ⟨f, rfl, hf⟩ := h g rfl
    show some (joined f g) = some g
    congr 1
    funext y
    unfold joined
    cases hy : f y with
    | none => rfl
    | some c =>
      obtain ⟨c', hg, hle⟩ := hf y c hy
      rw [hg]
      simp only [least]
      split
      · rfl
      · congr 1
        omega
theorem le_acc {S W : Int} {f g : FM} (hf : Fit W f) (hg : Fit W g) (h : ∀ y c, f y = some c → ∃ c', g y = some c' ∧ c' ≤ c) (x : Int) : ∀ y c, mayAcc S W f x y = some c → ∃ c', mayAcc S W g x y = some c' ∧ c' ≤ c := by
  intro y c hc
  have hhg : (g x).getD W ≤ (f x).getD W := by
    cases hx : f x with
    | none =>
      cases hgx : g x with
      | none => exact Int.le_refl _
      | some b =>
        have := hg x b hgx
        simp only [Option.getD_some, Option.getD_none]
        omega
    | some a =>
      obtain ⟨b, hb, hle⟩ := h x a hx
      rw [hb]
      exact hle
  unfold mayAcc put at hc ⊢
  by_cases hyx : y = x
  · rw [if_pos hyx] at hc ⊢
    exact ⟨0, rfl, by cases hc; exact Int.le_refl _⟩
  · rw [if_neg hyx] at hc ⊢
    unfold aged at hc ⊢
    cases hfy : f y with
    | none => rw [hfy] at hc; cases hc
    | some a =>
      obtain ⟨b, hgy, hba⟩ := h y a hfy
      have hb := hg y b hgy
      have ha := hf y a hfy
      rw [hfy] at hc
      rw [hgy]
      simp only at hc ⊢
      by_cases hs : y % S ≠ x % S
      · rw [if_pos (.inr (.inl hs))] at hc ⊢
        cases hc
        exact ⟨b, rfl, hba⟩
      · by_cases k1 : (f x).getD W < a
        · rw [if_pos (.inr (.inr k1))] at hc
          cases hc
          by_cases k2 : (g x).getD W < b
          · rw [if_pos (.inr (.inr k2))]
            exact ⟨b, rfl, hba⟩
          · rw [if_neg (by rintro (k | k | k) <;> contradiction), if_neg (by omega)]
            exact ⟨b + 1, rfl, by omega⟩
        · rw [if_neg (by rintro (k | k | k) <;> contradiction)] at hc
          by_cases k3 : W ≤ a + 1
          · rw [if_pos k3] at hc; cases hc
          · rw [if_neg k3] at hc
            cases hc
            by_cases k2 : (g x).getD W < b
            · rw [if_pos (.inr (.inr k2))]
              exact ⟨b, rfl, by omega⟩
            · rw [if_neg (by rintro (k | k | k) <;> contradiction), if_neg (by omega)]
              exact ⟨b + 1, rfl, by omega⟩
theorem le_puts {f g : FM} (h : ∀ y c, f y = some c → ∃ c', g y = some c' ∧ c' ≤ c) (lo hi : Int) : ∀ y c, puts f lo hi y = some c → ∃ c', puts g lo hi y = some c' ∧ c' ≤ c := by
  intro y c hc
  unfold puts at hc ⊢
  split
  · rename_i k
    rw [if_pos k] at hc
    exact ⟨0, rfl, by cases hc; exact Int.le_refl _⟩
  · rename_i k
    rw [if_neg k] at hc
    exact h y c hc
theorem fitS_step {S W : Int} {st : St} (h : FitS W st) (hW : 1 ≤ W) (lo hi : Int) : FitS W (sStep S W st lo hi) := by
  intro f hf
  cases st with
  | none => unfold sStep at hf; split at hf <;> cases hf
  | some g =>
    have hg := h g rfl
    unfold sStep at hf
    split at hf
    · simp only [sAcc] at hf
      split at hf
      · cases hf; exact hg
      · cases hf; exact fit_acc hg hW (by omega)
    · simp only [sRange] at hf
      split at hf
      · cases hf; exact hg
      · split at hf
        · cases hf; exact fit_acc hg hW (by omega)
        · split at hf
          · cases hf
          · cases hf; exact fit_puts hg hW (by omega)
theorem Le.step {S W : Int} {st su : St} (h : Le st su) (hf : FitS W st) (hg : FitS W su) (lo hi : Int) : Le (sStep S W st lo hi) (sStep S W su lo hi) := by
  intro g' hg'
  cases su with
  | none => unfold sStep at hg'; split at hg' <;> cases hg'
  | some g =>
    obtain ⟨f, rfl, hfg⟩ := h g rfl
    have hf := hf f rfl
    have hg := hg g rfl
    unfold sStep at hg' ⊢
    by_cases h0 : lo = hi
    · rw [if_pos h0] at hg' ⊢
      simp only [sAcc] at hg' ⊢
      by_cases h1 : lo < 0
      · rw [if_pos h1] at hg' ⊢
        cases hg'
        exact ⟨f, rfl, hfg⟩
      · rw [if_neg h1] at hg' ⊢
        cases hg'
        exact ⟨_, rfl, le_acc hf hg hfg lo⟩
    · rw [if_neg h0] at hg' ⊢
      simp only [sRange] at hg' ⊢
      by_cases h1 : hi < max lo 0
      · rw [if_pos h1] at hg' ⊢
        cases hg'
        exact ⟨f, rfl, hfg⟩
      · rw [if_neg h1] at hg' ⊢
        by_cases h2 : max lo 0 = hi
        · rw [if_pos h2] at hg' ⊢
          cases hg'
          exact ⟨_, rfl, le_acc hf hg hfg hi⟩
        · rw [if_neg h2] at hg' ⊢
          by_cases h3 : 64 ≤ hi - max lo 0
          · rw [if_pos h3] at hg'
            cases hg'
          · rw [if_neg h3] at hg' ⊢
            cases hg'
            exact ⟨_, rfl, le_puts hfg _ _⟩
theorem fitS_steps {S W : Int} (hW : 1 ≤ W) : ∀ (l : List S45) {st : St}, FitS W st → FitS W (sSteps S W st l)
  | [], _, h => h
  | x :: t, _, h => fitS_steps hW t (fitS_step h hW x.f0 x.f1)
theorem fitS_start (W : Int) : FitS W (some noF) := fun f h => by cases h; exact fit_no W
theorem fitS_join {W : Int} {st su : St} (h : FitS W st) (k : FitS W su) : FitS W (sJoin st su) := by
  intro f hf
  cases st with
  | none => cases hf
  | some a =>
    cases su with
    | none => cases hf
    | some b =>
      cases hf
      exact fit_joined (h a rfl) (k b rfl)
theorem fitS_of {w : World} {W : Int} {n : Nat} {st : St} {u : Bool} {p : Option Nat} (h : StB w W n st u p) : FitS W st := by
  intro f hf
  rcases h with ⟨_, _, rfl⟩ | ⟨_, g, rfl, _, h⟩
  · cases hf
  · cases hf; exact h
end Go.Proofs.Ytjckghdgogkeaaa

namespace Go.Proofs.Ytjckghdgogkeaaa
open Go.RowKit Go.Maps
set_option linter.unusedVariables false

theorem Descr.row {S : Int} {f : FM} {rows : List (List Int)} (h : Descr S (some f) rows) {k : Nat} : OkRow f (rows.getD k []) := by
  by_cases hk : k < rows.length
  · exact h.2 f rfl k hk
  · intro j hj
    rw [List.getD, List.getElem?_eq_none (by omega)] at hj
    exact absurd hj (Nat.not_lt_zero _)

theorem sound_acc {S W : Int} {f : FM} {rows : List (List Int)} (hs : 1 ≤ S) (hw : 1 ≤ W) (hr : Rows S W rows) (hf : Fit W f) (h : Descr S (some f) rows) {x : Int} (hx : 0 ≤ x) : Descr S (some (mayAcc S W f x)) (cAcc S W rows x) := by
  have hi := Int.emod_nonneg x (show S ≠ 0 by omega)
  have hi2 := Int.emod_lt_of_pos x (show 0 < S by omega)
  have hlt : (x % S).toNat < rows.length := by have := hr.len; omega
  refine ⟨by unfold cAcc; rw [List.length_set]; exact h.1, fun g hg k hk => ?_⟩
  cases hg
  intro j hj
  by_cases e : k = (x % S).toNat
  · subst e
    have eg : (cAcc S W rows x).getD (x % S).toNat [] = cRow W x (rows.getD (x % S).toNat []) := getD_set_same hlt _
    have hok := h.row (k := (x % S).toNat)
    have hnd := hr.nodup (x % S).toNat
    have hmine := hr.mine (x % S).toNat
    rw [eg] at hj
    unfold OkAt
    rw [eg]
    obtain ⟨r, hrr⟩ : ∃ r, r = rows.getD (x % S).toNat [] := ⟨_, rfl⟩
    rw [← hrr] at hj hok hnd hmine ⊢
    cases j with
    | zero => exact ⟨0, by rw [cRow_cons hw]; simp [List.getD, mayAcc, put], Int.le_refl _⟩
    | succ j =>
      obtain ⟨p, hp, hpl, hval, hne, hjw⟩ := cRow_at hw hnd hj
      obtain ⟨b, hb, hbp⟩ := hok p hpl
      have hmem : r.getD p 0 ∈ r := by rw [List.getD, List.getElem?_eq_getElem hpl]; exact List.getElem_mem hpl
      have hset : r.getD p 0 % S = x % S := by rw [(hmine _ hmem).2]; exact Int.toNat_of_nonneg hi
      have hfit := hf _ _ hb
      have hh : (f x).getD W < b ∨ b ≤ (j : Int) := by
        rcases hp with rfl | ⟨rfl, q, hq, hql, hqx⟩
        · exact .inr hbp
        · obtain ⟨h', hh', hle⟩ := hok q hql
          rw [hqx] at hh'
          rw [hh', Option.getD_some]
          omega
      have hbj : b ≤ (j : Int) + 1 := by rcases hp with rfl | ⟨rfl, _⟩ <;> omega
      rw [hval]
      unfold mayAcc put
      rw [if_neg hne]
      by_cases c : (f x).getD W < b
      · exact ⟨b, aged_keep hb (.inr (.inr c)), by omega⟩
      · exact ⟨b + 1, aged_up hb hne hset (by omega) (by omega), by omega⟩
  · have eg : (cAcc S W rows x).getD k [] = rows.getD k [] := getD_set_other e _
    rw [eg] at hj
    unfold OkAt
    rw [eg]
    obtain ⟨b, hb, hbp⟩ := h.row (k := k) j hj
    have hmem : (rows.getD k []).getD j 0 ∈ rows.getD k [] := by rw [List.getD_eq_getElem?_getD (l := rows.getD k []), List.getElem?_eq_getElem hj]; exact List.getElem_mem hj
    have hset := (hr.mine k _ hmem).2
    refine ⟨b, ?_, hbp⟩
    unfold mayAcc put
    rw [if_neg (by intro e2; rw [e2] at hset; omega)]
    exact aged_keep hb (.inr (.inl (by omega)))

theorem sound_range {S W : Int} {f : FM} {rows : List (List Int)} (hs : 1 ≤ S) (hw : 1 ≤ W) (hr : Rows S W rows) (h : Descr S (some f) rows) {x lo hi : Int} (hl : 0 ≤ lo) (h1 : lo ≤ x) (h2 : x ≤ hi) : Descr S (some (puts f lo hi)) (cAcc S W rows x) := by
  have hi' := Int.emod_nonneg x (show S ≠ 0 by omega)
  have hi2 := Int.emod_lt_of_pos x (show 0 < S by omega)
  have hlt : (x % S).toNat < rows.length := by have := hr.len; omega
  refine ⟨by unfold cAcc; rw [List.length_set]; exact h.1, fun g hg k hk => ?_⟩
  cases hg
  intro j hj
  by_cases e : k = (x % S).toNat
  · subst e
    have eg : (cAcc S W rows x).getD (x % S).toNat [] = cRow W x (rows.getD (x % S).toNat []) := getD_set_same hlt _
    have hok := h.row (k := (x % S).toNat)
    have hnd := hr.nodup (x % S).toNat
    rw [eg] at hj
    unfold OkAt
    rw [eg]
    obtain ⟨r, hrr⟩ : ∃ r, r = rows.getD (x % S).toNat [] := ⟨_, rfl⟩
    rw [← hrr] at hj hok hnd ⊢
    cases j with
    | zero =>
      refine ⟨0, ?_, Int.le_refl _⟩
      rw [cRow_cons hw]
      simp [List.getD, puts]
      omega
    | succ j =>
      obtain ⟨p, hp, hpl, hval, hne, hjw⟩ := cRow_at hw hnd hj
      obtain ⟨b, hb, hbp⟩ := hok p hpl
      have hbj : b ≤ (j : Int) + 1 := by rcases hp with rfl | ⟨rfl, _⟩ <;> omega
      rw [hval]
      unfold puts
      split
      · exact ⟨0, rfl, by omega⟩
      · exact ⟨b, hb, by omega⟩
  · have eg : (cAcc S W rows x).getD k [] = rows.getD k [] := getD_set_other e _
    rw [eg] at hj
    unfold OkAt
    rw [eg]
    obtain ⟨b, hb, hbp⟩ := h.row (k := k) j hj
    unfold puts
    split
    · exact ⟨0, rfl, by omega⟩
    · exact ⟨b, hb, hbp⟩

theorem descr_none {S W : Int} {st : St} {rows : List (List Int)} (h : Descr S st rows) (x : Int) : Descr S none (cAcc S W rows x) := ⟨by unfold cAcc; rw [List.length_set]; exact h.1, fun _ h => by cases h⟩
theorem descr_start {S : Int} (hs : 1 ≤ S) : Descr S (some noF) (List.replicate S.toNat []) := by
  refine ⟨by simp; omega, fun f _ k hk j hj => ?_⟩
  have e : (List.replicate S.toNat ([] : List Int)).getD k [] = [] := by simp only [List.getD, List.getElem?_replicate]; split <;> rfl
  rw [e] at hj
  exact absurd hj (Nat.not_lt_zero _)

/-- The line that a step really accesses. -/
def lineOf (lo hi pk : Int) : Option Int := if hi < max lo 0 then none else some (max lo 0 + pk % (hi - max lo 0 + 1))
theorem lineOf_none {lo hi pk : Int} (h : hi < max lo 0) : lineOf lo hi pk = none := if_pos h
theorem lineOf_some {lo hi pk : Int} (h : max lo 0 ≤ hi) : lineOf lo hi pk = some (max lo 0 + pk % (hi - max lo 0 + 1)) ∧ max lo 0 ≤ max lo 0 + pk % (hi - max lo 0 + 1) ∧ max lo 0 + pk % (hi - max lo 0 + 1) ≤ hi := by
  have h1 := Int.emod_nonneg pk (show hi - max lo 0 + 1 ≠ 0 by omega)
  have h2 := Int.emod_lt_of_pos pk (show 0 < hi - max lo 0 + 1 by omega)
  exact ⟨if_neg (by omega), by omega, by omega⟩
/-- The rows after a step. -/
def cStep (S W : Int) (rows : List (List Int)) (lo hi pk : Int) : List (List Int) := match lineOf lo hi pk with
  | none => rows
  | some n => cAcc S W rows n
theorem sound_step {S W : Int} (hs : 1 ≤ S) (hw : 1 ≤ W) {st : St} {rows : List (List Int)} (hf : FitS W st) (hr : Rows S W rows) (h : Descr S st rows) (lo hi pk : Int) : Descr S (sStep S W st lo hi) (cStep S W rows lo hi pk) := by
  unfold sStep cStep
  by_cases c : hi < max lo 0
  · rw [lineOf_none c]
    by_cases e : lo = hi
    · rw [if_pos e]
      cases st with
      | none => exact h
      | some f => unfold sAcc; simp only; rw [if_pos (by omega)]; exact h
    · rw [if_neg e]
      cases st with
      | none => exact h
      | some f => unfold sRange; simp only; rw [if_pos c]; exact h
  · obtain ⟨e1, e2, e3⟩ := lineOf_some (lo := lo) (hi := hi) (pk := pk) (by omega)
    rw [e1]
    simp only
    obtain ⟨n, hn⟩ : ∃ n, n = max lo 0 + pk % (hi - max lo 0 + 1) := ⟨_, rfl⟩
    rw [← hn] at e2 e3 ⊢
    cases st with
    | none =>
      have : (if lo = hi then sAcc S W none lo else sRange S W none lo hi) = none := by split <;> rfl
      rw [this]
      exact descr_none h n
    | some f =>
      by_cases e : lo = hi
      · rw [if_pos e]
        unfold sAcc
        simp only
        rw [if_neg (by omega)]
        obtain rfl : n = lo := by omega
        exact sound_acc hs hw hr (hf f rfl) h (by omega)
      · rw [if_neg e]
        unfold sRange
        simp only
        rw [if_neg c]
        by_cases e4 : max lo 0 = hi
        · rw [if_pos e4]
          obtain rfl : n = hi := by omega
          exact sound_acc hs hw hr (hf f rfl) h (by omega)
        · rw [if_neg e4]
          by_cases e5 : 64 ≤ hi - max lo 0
          · rw [if_pos e5]
            exact descr_none h n
          · rw [if_neg e5]
            exact sound_range hs hw hr h (by omega) e2 e3
theorem rows_step {S W : Int} (hs : 1 ≤ S) (hw : 1 ≤ W) {rows : List (List Int)} (hr : Rows S W rows) (ht : Top 4000 rows) {lo hi pk : Int} (hh : hi ≤ 4000) : Rows S W (cStep S W rows lo hi pk) ∧ Top 4000 (cStep S W rows lo hi pk) := by
  unfold cStep
  by_cases c : hi < max lo 0
  · rw [lineOf_none c]; exact ⟨hr, ht⟩
  · obtain ⟨e1, e2, e3⟩ := lineOf_some (lo := lo) (hi := hi) (pk := pk) (by omega)
    rw [e1]
    exact ⟨hr.acc hs hw (by omega), ht.acc hw (by omega)⟩
/-- What is in the cache is in the state. -/
theorem in_state {S : Int} {f : FM} {rows : List (List Int)} (h : Descr S (some f) rows) {i : Nat} {x : Int} (hx : x ∈ rows.getD i []) : ∃ b, f x = some b := by
  obtain ⟨j, hj, e⟩ := List.getElem_of_mem hx
  obtain ⟨b, hb, _⟩ := h.row (k := i) j hj
  rw [List.getD_eq_getElem?_getD (l := rows.getD i []), List.getElem?_eq_getElem hj] at hb
  simp only [Option.getD_some] at hb
  rw [e] at hb
  exact ⟨b, hb⟩
end Go.Proofs.Ytjckghdgogkeaaa
