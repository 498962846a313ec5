/- What must's accesses do, against a cache in plain Lean: no program in sight. -/
import Derived.Test.YtaekkfgggmighaaMu6
import Derived.Test.YtaekkfgggmighaaCp2
namespace Go.Proofs.Ytaekkfgggmighaa
open Go.RowKit Go.Maps
set_option linter.unusedVariables false

/-- y stands in r at a place of at most c. -/
def HasAt (r : List Int) (y c : Int) : Prop := ∃ p : Nat, r[p]? = some y ∧ (p : Int) ≤ c
/-- f describes the rows. -/
def Desc (S : Int) (f : FM) (rows : List (List Int)) : Prop := (rows.length : Int) = S ∧ ∀ y c, f y = some c → HasAt (rows.getD (y % S).toNat []) y c
theorem HasAt.mono {r : List Int} {y c d : Int} (h : HasAt r y c) (hd : c ≤ d) : HasAt r y d := by
  obtain ⟨p, h1, h2⟩ := h
  exact ⟨p, h1, by omega⟩
theorem getD_of_some {r : List Int} {p : Nat} {y : Int} (h : r[p]? = some y) : p < r.length ∧ r.getD p 0 = y :=
  ⟨(List.getElem?_eq_some_iff.1 h).1, by rw [List.getD_eq_getElem?_getD, h]; rfl⟩
theorem some_of_getD {r : List Int} {p : Nat} {y : Int} (hp : p < r.length) (h : r.getD p 0 = y) : r[p]? = some y := by
  rw [List.getD_eq_getElem?_getD, List.getElem?_eq_getElem hp] at h
  rw [List.getElem?_eq_getElem hp]
  exact congrArg some h
theorem erase_head (a : Int) (t : List Int) : (a :: t).erase a = t := by simp
theorem erase_tail {a x : Int} (t : List Int) (e : a ≠ x) : (a :: t).erase x = a :: t.erase x := by simp [e]
theorem erase_before : ∀ (r : List Int) {x y : Int} {p q : Nat}, q < p → r[q]? = some x → r[p]? = some y → (r.erase x)[p - 1]? = some y
  | [], x, y, p, q, _, hx, _ => by simp at hx
  | a :: t, x, y, p, q, hq, hx, hy => by
    obtain ⟨p, rfl⟩ : ∃ j, p = j + 1 := ⟨p - 1, by omega⟩
    rw [List.getElem?_cons_succ] at hy
    by_cases e : a = x
    · subst e
      rw [erase_head]
      exact hy
    · rw [erase_tail t e]
      cases q with
      | zero => simp at hx; exact absurd hx e
      | succ q =>
        rw [List.getElem?_cons_succ] at hx
        have ih := erase_before t (show q < p by omega) hx hy
        obtain ⟨p, rfl⟩ : ∃ j, p = j + 1 := ⟨p - 1, by omega⟩
        simpa using ih
theorem erase_after : ∀ (r : List Int) {x y : Int} {p : Nat}, (∀ q, q ≤ p → r[q]? ≠ some x) → r[p]? = some y → (r.erase x)[p]? = some y
  | [], x, y, p, _, hy => by simp at hy
  | a :: t, x, y, p, hx, hy => by
    have e : a ≠ x := fun e => hx 0 (Nat.zero_le _) (by simp [e])
    rw [erase_tail t e]
    cases p with
    | zero => simpa using hy
    | succ p =>
      rw [List.getElem?_cons_succ] at hy ⊢
      exact erase_after t (fun q hq => by have := hx (q + 1) (by omega); rwa [List.getElem?_cons_succ] at this) hy
theorem cRow_get {W x : Int} {r : List Int} {k : Nat} (hw : 1 ≤ W) (hk : (k : Int) + 1 < W) : (cRow W x r)[k + 1]? = (r.erase x)[k]? := by
  rw [cRow_cons hw, List.getElem?_cons_succ, List.getElem?_take, if_pos (by omega)]
theorem HasAt.touch {W x y c : Int} {r : List Int} (hw : 1 ≤ W) (hs : (r.length : Int) ≤ W) (h : HasAt r y c) (hyx : y ≠ x) (hc : c + 1 < W) : HasAt (cRow W x r) y (c + 1) := by
  obtain ⟨p, hp, hpc⟩ := h
  have hpl := (getD_of_some hp).1
  by_cases hq : ∃ q, q < p ∧ r[q]? = some x
  · obtain ⟨q, hq, hqx⟩ := hq
    have := erase_before r hq hqx hp
    obtain ⟨p, rfl⟩ : ∃ j, p = j + 1 := ⟨p - 1, by omega⟩
    exact ⟨p + 1, by rw [cRow_get hw (by omega)]; exact this, by omega⟩
  · have := erase_after r (x := x) (fun q hqp e => by
      by_cases c : q = p
      · subst c; rw [hp] at e; exact hyx (Option.some.inj e)
      · exact hq ⟨q, by omega, e⟩) hp
    exact ⟨p + 1, by rw [cRow_get hw (by omega)]; exact this, by omega⟩
theorem HasAt.behind {W x y c : Int} {r : List Int} (hw : 1 ≤ W) (hs : (r.length : Int) ≤ W) (h : HasAt r y c) (hx : HasAt r x c) (hyx : y ≠ x) (hc : c < W) : HasAt (cRow W x r) y c := by
  obtain ⟨p, hp, hpc⟩ := h
  obtain ⟨q, hqx, hqc⟩ := hx
  have hpl := (getD_of_some hp).1
  by_cases hq : ∃ q, q < p ∧ r[q]? = some x
  · obtain ⟨q, hq, hqx⟩ := hq
    have := erase_before r hq hqx hp
    obtain ⟨p, rfl⟩ : ∃ j, p = j + 1 := ⟨p - 1, by omega⟩
    exact ⟨p + 1, by rw [cRow_get hw (by omega)]; exact this, by omega⟩
  · have hne : ∀ q, q ≤ p → r[q]? ≠ some x := fun q hqp e => by
      by_cases c : q = p
      · subst c; rw [hp] at e; exact hyx (Option.some.inj e)
      · exact hq ⟨q, by omega, e⟩
    have hpq : p < q := by
      by_cases c : q ≤ p
      · exact absurd hqx (hne q c)
      · omega
    have := erase_after r hne hp
    exact ⟨p + 1, by rw [cRow_get hw (by omega)]; exact this, by omega⟩
theorem HasAt.head {W x : Int} {r : List Int} (hw : 1 ≤ W) {c : Int} (hc : 0 ≤ c) : HasAt (cRow W x r) x c := ⟨0, by rw [cRow_cons hw]; rfl, hc⟩

theorem desc_no {S : Int} {rows : List (List Int)} (h : (rows.length : Int) = S) : Desc S noF rows := ⟨h, fun _ _ e => by cases e⟩
section
variable {S W : Int} {f : FM} {rows : List (List Int)} {x : Int}
theorem cAcc_same (hs : 1 ≤ S) (hr : Rows S W rows) : (cAcc S W rows x).getD (x % S).toNat [] = cRow W x (rows.getD (x % S).toNat []) := by
  have hi := Int.emod_nonneg x (show S ≠ 0 by omega)
  have hi2 := Int.emod_lt_of_pos x (show 0 < S by omega)
  unfold cAcc
  exact getD_set_same (by have := hr.len; omega) _
theorem cAcc_other {i : Nat} (h : i ≠ (x % S).toNat) : (cAcc S W rows x).getD i [] = rows.getD i [] := by
  unfold cAcc
  exact getD_set_other h _
theorem cAcc_len (hr : Rows S W rows) : ((cAcc S W rows x).length : Int) = S := by
  unfold cAcc; rw [List.length_set]; exact hr.len
theorem set_eq (hs : 1 ≤ S) {y : Int} (e : (y % S).toNat = (x % S).toNat) : y % S = x % S := by
  have h1 := Int.emod_nonneg x (show S ≠ 0 by omega)
  have h2 := Int.emod_nonneg y (show S ≠ 0 by omega)
  omega
theorem desc_acc (hs : 1 ≤ S) (hw : 1 ≤ W) (hr : Rows S W rows) (hf : Fit W f) (h : Desc S f rows) (hx : 0 ≤ x) : Desc S (uAcc S W f x) (cAcc S W rows x) := by
  refine ⟨cAcc_len hr, fun y c e => ?_⟩
  unfold uAcc put at e
  by_cases hyx : y = x
  · subst hyx
    rw [if_pos rfl] at e
    cases e
    rw [cAcc_same hs hr]
    exact .head hw (Int.le_refl _)
  · rw [if_neg hyx] at e
    cases hfy : f y with
    | none => rw [mUp_none hfy] at e; cases e
    | some d =>
      have hd := h.2 y d hfy
      have hfd := hf y d hfy
      by_cases es : (y % S).toNat = (x % S).toNat
      · rw [es] at hd ⊢
        rw [cAcc_same hs hr]
        have hsh := hr.short (x % S).toNat
        by_cases hlt : d < (f x).getD W
        · have hm : accM S x ((f x).getD W) y d = true := by unfold accM; simp [hyx, hlt, set_eq hs es]
          by_cases hc : d + 1 < W
          · rw [mUp_up hfy hm hc] at e
            cases e
            exact hd.touch hw hsh hyx hc
          · rw [mUp_out hfy hm hc] at e; cases e
        · have hm : accM S x ((f x).getD W) y d = false := by unfold accM; simp [hlt]
          rw [mUp_keep hfy hm] at e
          cases e
          cases hfx : f x with
          | none => rw [hfx] at hlt; simp only [Option.getD_none] at hlt; omega
          | some b =>
            rw [hfx] at hlt
            simp only [Option.getD_some] at hlt
            exact hd.behind hw hsh ((h.2 x b hfx).mono (by omega)) hyx (by omega)
      · have hm : accM S x ((f x).getD W) y d = false := by
          unfold accM
          have : ¬ y % S = x % S := fun e => es (by rw [e])
          simp [this]
        rw [mUp_keep hfy hm] at e
        cases e
        rw [cAcc_other es]
        exact hd
theorem desc_range (hs : 1 ≤ S) (hw : 1 ≤ W) (hr : Rows S W rows) (hf : Fit W f) (h : Desc S f rows) {lo hi : Int} (h1 : lo ≤ x) (h2 : x ≤ hi) : Desc S (mUp W (rngM S lo hi) f) (cAcc S W rows x) := by
  refine ⟨cAcc_len hr, fun y c e => ?_⟩
  cases hfy : f y with
  | none => rw [mUp_none hfy] at e; cases e
  | some d =>
    have hd := h.2 y d hfy
    have hfd := hf y d hfy
    by_cases es : (y % S).toNat = (x % S).toNat
    · have hm : rngM S lo hi y d = true := by
        unfold rngM
        rw [decide_eq_true_eq]
        have he : (y - lo) % S = (x - lo) % S := by
          rw [Int.sub_emod, set_eq hs es, ← Int.sub_emod]
        have hle : (x - lo) % S ≤ x - lo := by
          have h3 : x - lo - (x - lo) % S = S * ((x - lo) / S) := by have := Int.emod_add_mul_ediv (x - lo) S; omega
          have h4 : 0 ≤ S * ((x - lo) / S) := Int.mul_nonneg (by omega) (Int.ediv_nonneg (by omega) (by omega))
          omega
        omega
      by_cases hc : d + 1 < W
      · rw [mUp_up hfy hm hc] at e
        cases e
        rw [es] at hd ⊢
        rw [cAcc_same hs hr]
        by_cases hyx : y = x
        · subst hyx; exact .head hw (by omega)
        · exact hd.touch hw (hr.short _) hyx hc
      · rw [mUp_out hfy hm hc] at e; cases e
    · rw [cAcc_other es]
      cases hm : rngM S lo hi y d with
      | false => rw [mUp_keep hfy hm] at e; cases e; exact hd
      | true =>
        by_cases hc : d + 1 < W
        · rw [mUp_up hfy hm hc] at e; cases e; exact hd.mono (by omega)
        · rw [mUp_out hfy hm hc] at e; cases e

/-- The line that an operation really accesses, or -1. -/
def lineM (lo hi pk : Int) : Int := if hi < max lo 0 then -1 else max lo 0 + pk % (hi - max lo 0 + 1)
/-- The rows after it. -/
def rowsM (S W : Int) (rows : List (List Int)) (lo hi pk : Int) : List (List Int) := if lineM lo hi pk < 0 then rows else cAcc S W rows (lineM lo hi pk)
theorem lineM_neg {lo hi pk : Int} (h : hi < max lo 0) : lineM lo hi pk = -1 := if_pos h
theorem lineM_pos {lo hi pk : Int} (h : max lo 0 ≤ hi) : lineM lo hi pk = max lo 0 + pk % (hi - max lo 0 + 1) ∧ max lo 0 ≤ lineM lo hi pk ∧ lineM lo hi pk ≤ hi := by
  have e : lineM lo hi pk = max lo 0 + pk % (hi - max lo 0 + 1) := if_neg (by omega)
  have h1 := Int.emod_nonneg pk (show hi - max lo 0 + 1 ≠ 0 by omega)
  have h2 := Int.emod_lt_of_pos pk (show 0 < hi - max lo 0 + 1 by omega)
  exact ⟨e, by omega, by omega⟩
theorem lineM_top {lo hi pk M : Int} (h : hi ≤ M) (h0 : -1 ≤ M) : -1 ≤ lineM lo hi pk ∧ lineM lo hi pk ≤ M := by
  by_cases c : hi < max lo 0
  · rw [lineM_neg c]; omega
  · have := lineM_pos (lo := lo) (hi := hi) (pk := pk) (by omega)
    omega
theorem desc_do (hs : 1 ≤ S) (hw : 1 ≤ W) (hr : Rows S W rows) (hf : Fit W f) (h : Desc S f rows) (lo hi pk : Int) : Desc S (uDo S W f lo hi) (rowsM S W rows lo hi pk) := by
  unfold rowsM
  by_cases c : hi < max lo 0
  · rw [lineM_neg c, if_pos (by omega)]
    unfold uDo
    split
    · exact desc_no h.1
    · split
      · unfold uAccS; rw [if_pos (by omega)]; exact h
      · unfold uRange; rw [if_pos c]; exact h
  · obtain ⟨e1, e2, e3⟩ := lineM_pos (lo := lo) (hi := hi) (pk := pk) (by omega)
    rw [if_neg (by omega)]
    unfold uDo
    rw [if_neg (by omega)]
    split
    · rename_i e
      subst e
      obtain e4 : lineM lo lo pk = lo := by omega
      rw [e4]
      unfold uAccS
      rw [if_neg (by omega)]
      exact desc_acc hs hw hr hf h (by omega)
    · unfold uRange
      rw [if_neg c]
      split
      · obtain e4 : lineM lo hi pk = hi := by omega
        rw [e4]
        exact desc_acc hs hw hr hf h (by omega)
      · exact desc_range hs hw hr hf h e2 e3
theorem rows_do (hs : 1 ≤ S) (hw : 1 ≤ W) (hr : Rows S W rows) (lo hi pk : Int) : Rows S W (rowsM S W rows lo hi pk) := by
  unfold rowsM
  split
  · exact hr
  · exact hr.acc hs hw (by omega)
theorem top_do (hs : 1 ≤ S) (hw : 1 ≤ W) {M : Int} (ht : Top M rows) {lo hi : Int} (hh : hi ≤ M) (h0 : -1 ≤ M) (pk : Int) : Top M (rowsM S W rows lo hi pk) := by
  unfold rowsM
  split
  · exact ht
  · exact ht.acc hw (lineM_top hh h0).2

/-! ### joins -/
def uJoin (f g : FM) : FM := fun y => match f y, g y with
  | some a, some b => some (max a b)
  | _, _ => none
theorem uJoin_some {f g : FM} {y a b : Int} (h1 : f y = some a) (h2 : g y = some b) : uJoin f g y = some (max a b) := by unfold uJoin; rw [h1, h2]
theorem uJoin_nl {f g : FM} {y : Int} (h1 : f y = none) : uJoin f g y = none := by unfold uJoin; rw [h1]
theorem uJoin_nr {f g : FM} {y : Int} (h1 : g y = none) : uJoin f g y = none := by unfold uJoin; rw [h1]; cases f y <;> rfl
theorem uJoin_inv {f g : FM} {y c : Int} (h : uJoin f g y = some c) : ∃ a b, f y = some a ∧ g y = some b ∧ c = max a b := by
  cases h1 : f y with
  | none => rw [uJoin_nl h1] at h; cases h
  | some a =>
    cases h2 : g y with
    | none => rw [uJoin_nr h2] at h; cases h
    | some b => rw [uJoin_some h1 h2] at h; cases h; exact ⟨a, b, rfl, rfl, rfl⟩
theorem fit_join {g : FM} (hf : Fit W f) (hg : Fit W g) : Fit W (uJoin f g) := fun y c e => by
  obtain ⟨a, b, h1, h2, rfl⟩ := uJoin_inv e
  have := hf y a h1
  have := hg y b h2
  omega
theorem desc_join_l {g : FM} (h : Desc S f rows) : Desc S (uJoin f g) rows := ⟨h.1, fun y c e => by
  obtain ⟨a, b, h1, h2, rfl⟩ := uJoin_inv e
  exact (h.2 y a h1).mono (by omega)⟩
theorem desc_join_r {g : FM} (h : Desc S g rows) : Desc S (uJoin f g) rows := ⟨h.1, fun y c e => by
  obtain ⟨a, b, h1, h2, rfl⟩ := uJoin_inv e
  exact (h.2 y b h2).mono (by omega)⟩
theorem uJoin_comm (f g : FM) (y : Int) : uJoin f g y = uJoin g f y := by
  unfold uJoin
  cases f y <;> cases g y <;> simp [Int.max_comm]
theorem uJoin_self (f : FM) (y : Int) : uJoin f f y = f y := by
  unfold uJoin
  cases f y <;> simp
theorem uJoin_assoc (f g h : FM) (y : Int) : uJoin (uJoin f g) h y = uJoin f (uJoin g h) y := by
  unfold uJoin
  cases f y <;> cases g y <;> cases h y <;> simp [Int.max_assoc]

/-! ### without ranges -/
theorem must_is_may (hs : 1 ≤ S) (hr : Rows S W rows) (hf : Fit W f) (h : Exact S f rows) : uAcc S W f x = mayAcc S W f x := by
  funext y
  unfold uAcc mayAcc put
  by_cases hyx : y = x
  · rw [if_pos hyx, if_pos hyx]
  rw [if_neg hyx, if_neg hyx]
  cases hfy : f y with
  | none => rw [mUp_none hfy, aged_none hfy]
  | some d =>
    have hfd := hf y d hfy
    by_cases hes : y % S = x % S
    · by_cases hlt : d < (f x).getD W
      · have hm : accM S x ((f x).getD W) y d = true := by unfold accM; simp [hyx, hlt, hes]
        by_cases hc : d + 1 < W
        · rw [mUp_up hfy hm hc, aged_up hfy hyx hes (by omega) hc]
        · rw [mUp_out hfy hm hc, aged_out hfy hyx hes (by omega) (by omega)]
      · have hm : accM S x ((f x).getD W) y d = false := by unfold accM; simp [hlt]
        rw [mUp_keep hfy hm]
        by_cases hgt : (f x).getD W < d
        · rw [aged_keep hfy (.inr (.inr hgt))]
        · exfalso
          cases hfx : f x with
          | none => rw [hfx] at hlt hgt; simp only [Option.getD_none] at hlt hgt; omega
          | some b =>
            rw [hfx] at hlt hgt
            simp only [Option.getD_some] at hlt hgt
            obtain ⟨p, _, hp, e1⟩ := h.at_ hfy
            obtain ⟨q, _, hq, e2⟩ := h.at_ hfx
            obtain rfl : p = q := by omega
            rw [hes] at hp
            exact hyx (hp.symm.trans hq)
    · have hm : accM S x ((f x).getD W) y d = false := by unfold accM; simp [hes]
      rw [mUp_keep hfy hm, aged_keep hfy (.inr (.inl hes))]
theorem exact_must (hs : 1 ≤ S) (hw : 1 ≤ W) (hr : Rows S W rows) (hf : Fit W f) (h : Exact S f rows) (hx : 0 ≤ x) : Exact S (uAcc S W f x) (cAcc S W rows x) := by
  rw [must_is_may hs hr hf h]
  exact exact_acc hs hw hr h hx
end
end Go.Proofs.Ytaekkfgggmighaa
