/- A may state after accesses to single lines has exactly the lines of the cache, with their ages: plain Lean. -/
import Derived.Test.YtaekkfgggmighaaMayT
import Derived.Test.YtaekkfgggmighaaMapEq
import Derived.Test.YtaekkfgggmighaaCp0
namespace Go.Proofs.Ytaekkfgggmighaa
open Go.RowKit Go.Maps
set_option linter.unusedVariables false

theorem cRow_at2 {W x : Int} {r : List Int} (hw : 1 ≤ W) (hn : r.Nodup) {j : Nat} (hj : j + 1 < (cRow W x r).length) :
    ∃ p, ((p = j ∧ ∀ q, q < r.length → r.getD q 0 = x → j < q) ∨ (p = j + 1 ∧ ∃ q, q ≤ j ∧ q < r.length ∧ r.getD q 0 = x)) ∧ p < r.length ∧ (cRow W x r).getD (j + 1) 0 = r.getD p 0 ∧ r.getD p 0 ≠ x ∧ ((j : Int) + 1 < W) := by
  obtain ⟨p, hp, hpl, hval, hne, hjw⟩ := cRow_at hw hn hj
  refine ⟨p, ?_, hpl, hval, hne, hjw⟩
  rcases hp with rfl | hp
  · by_cases c : ∃ q, q < r.length ∧ r.getD q 0 = x ∧ q ≤ p
    · obtain ⟨q, hq, hqx, hqp⟩ := c
      exfalso
      have hqne : q ≠ p := fun e => hne (e ▸ hqx)
      have hmem : x ∈ r := by rw [← hqx, List.getD, List.getElem?_eq_getElem hq]; exact List.getElem_mem hq
      have hix : r.idxOf x = q := by
        have h1 := List.idxOf_lt_length_of_mem hmem
        have h2 : r[r.idxOf x] = r[q] := by rw [List.getElem_idxOf h1]; rw [List.getD, List.getElem?_eq_getElem hq] at hqx; exact hqx.symm
        exact (List.getElem_inj hn).1 h2
      rw [cRow_cons hw] at hj hval
      simp only [List.length_cons, List.length_take] at hj
      have e1 : (x :: (r.erase x).take (W.toNat - 1)).getD (p + 1) 0 = (r.erase x).getD p 0 := by
        simp only [List.getD, List.getElem?_cons_succ, List.getElem?_take]
        rw [if_pos (by omega)]
      rw [e1, List.erase_eq_eraseIdx_of_idxOf rfl, hix] at hval
      have hjl : p < (r.erase x).length := by omega
      rw [List.erase_eq_eraseIdx_of_idxOf rfl, hix, List.length_eraseIdx, if_pos hq] at hjl
      have e3 : (r.eraseIdx q).getD p 0 = r.getD (p + 1) 0 := by simp only [List.getD, List.getElem?_eraseIdx]; rw [if_neg (by omega)]
      rw [e3, List.getD, List.getD, List.getElem?_eq_getElem (by omega), List.getElem?_eq_getElem hpl] at hval
      have := (List.getElem_inj hn).1 hval
      omega
    · left
      refine ⟨rfl, fun q hq hqx => ?_⟩
      by_cases h : p < q
      · exact h
      · exact absurd ⟨q, hq, hqx, by omega⟩ c
  · exact .inr hp
theorem cRow_mem {W x y : Int} {r : List Int} (hw : 1 ≤ W) (hn : r.Nodup) {p : Nat} (hp : p < r.length) (hy : r.getD p 0 = y) (hyx : y ≠ x) (h : (∃ q, q < p ∧ q < r.length ∧ r.getD q 0 = x ∧ (p : Int) < W) ∨ (p : Int) + 1 < W) : y ∈ cRow W x r := by
  rw [cRow_cons hw]
  refine List.mem_cons_of_mem _ ?_
  have key : ∃ k, (r.erase x)[k]? = some y ∧ k < W.toNat - 1 := by
    by_cases hmem : x ∈ r
    · have h1 := List.idxOf_lt_length_of_mem hmem
      obtain ⟨i, hi⟩ : ∃ i, r.idxOf x = i := ⟨_, rfl⟩
      have hix : r[i]? = some x := by rw [← hi, List.getElem?_eq_getElem h1, List.getElem_idxOf h1]
      rw [List.erase_eq_eraseIdx_of_idxOf rfl, hi]
      have hpy : r[p]? = some y := by rw [List.getD, List.getElem?_eq_getElem hp] at hy; rw [List.getElem?_eq_getElem hp]; exact congrArg some hy
      have hip : i ≠ p := fun e => by rw [e, hpy] at hix; exact hyx (Option.some.inj hix)
      by_cases c : p < i
      · refine ⟨p, by rw [List.getElem?_eraseIdx, if_pos c]; exact hpy, ?_⟩
        rcases h with ⟨q, hq, hql, hqx, _⟩ | h
        · exfalso
          have hq2 : r[q]? = some x := by rw [List.getD, List.getElem?_eq_getElem hql] at hqx; rw [List.getElem?_eq_getElem hql]; exact congrArg some hqx
          rw [hi] at h1
          have : q = i := by
            rw [List.getElem?_eq_getElem hql] at hq2
            rw [List.getElem?_eq_getElem h1] at hix
            exact (List.getElem_inj hn).1 ((Option.some.inj hq2).trans (Option.some.inj hix).symm)
          omega
        · omega
      · refine ⟨p - 1, by rw [List.getElem?_eraseIdx, if_neg (by omega), show p - 1 + 1 = p by omega]; exact hpy, ?_⟩
        rcases h with ⟨_, _, _, _, h⟩ | h <;> omega
    · rw [List.erase_of_not_mem hmem]
      refine ⟨p, by rw [List.getD, List.getElem?_eq_getElem hp] at hy; rw [List.getElem?_eq_getElem hp]; exact congrArg some hy, ?_⟩
      rcases h with ⟨q, _, hql, hqx, _⟩ | h
      · exact absurd (by rw [← hqx, List.getD, List.getElem?_eq_getElem hql]; exact List.getElem_mem hql) hmem
      · omega
  obtain ⟨k, hk, hkw⟩ := key
  refine List.mem_of_getElem? (i := k) ?_
  rw [List.getElem?_take, if_pos hkw]
  exact hk

structure Exact (S : Int) (f : FM) (rows : List (List Int)) : Prop where
  age : ∀ i j, j < (rows.getD i []).length → f ((rows.getD i []).getD j 0) = some (j : Int)
  only : ∀ y b, f y = some b → 0 ≤ y ∧ y ∈ rows.getD (y % S).toNat []
theorem exact_start (S : Int) (n : Nat) : Exact S noF (List.replicate n []) := by
  refine ⟨fun i j hj => ?_, fun y b h => by cases h⟩
  have e : (List.replicate n ([] : List Int)).getD i [] = [] := by simp only [List.getD, List.getElem?_replicate]; split <;> rfl
  rw [e] at hj
  exact absurd hj (Nat.not_lt_zero _)
theorem Exact.at_ {S : Int} {f : FM} {rows : List (List Int)} (h : Exact S f rows) {y b : Int} (hy : f y = some b) : ∃ p : Nat, p < (rows.getD (y % S).toNat []).length ∧ (rows.getD (y % S).toNat []).getD p 0 = y ∧ b = p := by
  obtain ⟨p, hp, e⟩ := List.getElem_of_mem (h.only y b hy).2
  have e2 : (rows.getD (y % S).toNat []).getD p 0 = y := by rw [List.getD_eq_getElem?_getD (l := rows.getD (y % S).toNat []), List.getElem?_eq_getElem hp]; exact e
  have := h.age _ p hp
  rw [e2, hy] at this
  exact ⟨p, hp, e2, Option.some.inj this⟩
theorem exact_acc {S W : Int} {f : FM} {rows : List (List Int)} (hs : 1 ≤ S) (hw : 1 ≤ W) (hr : Rows S W rows) (h : Exact S f rows) {x : Int} (hx : 0 ≤ x) : Exact S (mayAcc S W f x) (cAcc S W rows x) := by
  have hi := Int.emod_nonneg x (show S ≠ 0 by omega)
  have hi2 := Int.emod_lt_of_pos x (show 0 < S by omega)
  have hlt : (x % S).toNat < rows.length := by have := hr.len; omega
  have eg : (cAcc S W rows x).getD (x % S).toNat [] = cRow W x (rows.getD (x % S).toNat []) := getD_set_same hlt _
  have eo : ∀ k, k ≠ (x % S).toNat → (cAcc S W rows x).getD k [] = rows.getD k [] := fun k hk => getD_set_other hk _
  have hnd := hr.nodup (x % S).toNat
  have hsh := hr.short (x % S).toNat
  have hmine := hr.mine (x % S).toNat
  have hage := h.age (x % S).toNat
  have hfx : ∀ b, f x = some b → ∃ q : Nat, q < (rows.getD (x % S).toNat []).length ∧ (rows.getD (x % S).toNat []).getD q 0 = x ∧ b = q := fun b hb => h.at_ hb
  obtain ⟨r, hrr⟩ : ∃ r, r = rows.getD (x % S).toNat [] := ⟨_, rfl⟩
  rw [← hrr] at eg hnd hsh hmine hage hfx
  have hfq : ∀ q, q < r.length → r.getD q 0 = x → (f x).getD W = q := fun q hq hqx => by
    have := hage q hq
    rw [hqx] at this
    rw [this]; rfl
  refine ⟨fun i j hj => ?_, fun y b hy => ?_⟩
  · by_cases e : i = (x % S).toNat
    · subst e
      rw [eg] at hj ⊢
      cases j with
      | zero => rw [cRow_cons hw]; simp [List.getD, mayAcc, put]
      | succ j =>
        obtain ⟨p, hp, hpl, hval, hne, hjw⟩ := cRow_at2 hw hnd hj
        rw [hval]
        have hmem : r.getD p 0 ∈ r := by rw [List.getD, List.getElem?_eq_getElem hpl]; exact List.getElem_mem hpl
        have hset : r.getD p 0 % S = x % S := by rw [(hmine _ hmem).2]; exact Int.toNat_of_nonneg hi
        have hb := hage p hpl
        unfold mayAcc put
        rw [if_neg hne]
        rcases hp with ⟨rfl, hq⟩ | ⟨rfl, q, hq, hql, hqx⟩
        · have hh : (p : Int) ≤ (f x).getD W := by
            cases hf : f x with
            | none => simp only [Option.getD_none]; omega
            | some b =>
              obtain ⟨q, hql, hqx, hbq⟩ := hfx b hf
              have := hq q hql hqx
              simp only [Option.getD_some]
              omega
          rw [aged_up hb hne hset hh (by omega)]
          simp
        · have hh := hfq q hql hqx
          rw [aged_keep hb (.inr (.inr (by rw [hh]; omega)))]
    · rw [eo i e] at hj ⊢
      have hb := h.age i j hj
      have hmem : (rows.getD i []).getD j 0 ∈ rows.getD i [] := by rw [List.getD_eq_getElem?_getD (l := rows.getD i []), List.getElem?_eq_getElem hj]; exact List.getElem_mem hj
      have hset := (hr.mine i _ hmem).2
      unfold mayAcc put
      rw [if_neg (by intro e2; rw [e2] at hset; omega)]
      exact aged_keep hb (.inr (.inl (by omega)))
  · unfold mayAcc put at hy
    by_cases hyx : y = x
    · subst hyx
      exact ⟨hx, by rw [eg, cRow_cons hw]; exact List.mem_cons_self⟩
    · rw [if_neg hyx] at hy
      cases hfy : f y with
      | none => rw [aged_none hfy] at hy; cases hy
      | some c =>
        obtain ⟨h0, _⟩ := h.only y c hfy
        refine ⟨h0, ?_⟩
        obtain ⟨p, hp, hpy, hcp⟩ := h.at_ hfy
        by_cases e : (y % S).toNat = (x % S).toNat
        · have hys : y % S = x % S := by
            have := Int.emod_nonneg y (show S ≠ 0 by omega)
            omega
          rw [e] at hp hpy ⊢
          rw [← hrr] at hp hpy
          rw [eg]
          refine cRow_mem hw hnd hp hpy hyx ?_
          by_cases c2 : (f x).getD W < c
          · left
            cases hf : f x with
            | none => rw [hf] at c2; simp only [Option.getD_none] at c2; omega
            | some b2 =>
              obtain ⟨q, hql, hqx, hbq⟩ := hfx b2 hf
              rw [hf] at c2
              simp only [Option.getD_some] at c2
              exact ⟨q, by omega, hql, hqx, by omega⟩
          · right
            by_cases c3 : c + 1 < W
            · omega
            · rw [aged_out hfy hyx hys (by omega) (by omega)] at hy; cases hy
        · rw [eo _ e]
          exact (h.only y c hfy).2
/-- The state's lines, counted. -/
theorem exact_count {S W : Int} {f : FM} {rows : List (List Int)} (hr : Rows S W rows) (h : Exact S f rows) {L : List Int} (hL : Dom f L) : L.length = rows.flatten.length := by
  refine List.Perm.length_eq ((List.perm_ext_iff_of_nodup (hL.1.imp (fun h => by omega)) ?_).2 fun x => ?_)
  · unfold List.Nodup
    rw [List.pairwise_flatten]
    refine ⟨fun l hl => ?_, ?_⟩
    · obtain ⟨i, hi, rfl⟩ := List.getElem_of_mem hl
      have := hr.nodup i
      rwa [List.getD, List.getElem?_eq_getElem hi] at this
    · rw [List.pairwise_iff_getElem]
      intro i j hi hj hij x hx y hy e
      subst e
      have h1 := (hr.mine i x (by rw [List.getD, List.getElem?_eq_getElem hi]; exact hx)).2
      have h2 := (hr.mine j x (by rw [List.getD, List.getElem?_eq_getElem hj]; exact hy)).2
      omega
  · rw [hL.2, List.mem_flatten]
    constructor
    · intro hx
      obtain ⟨b, hb⟩ := Option.isSome_iff_exists.1 hx
      obtain ⟨_, hm⟩ := h.only x b hb
      by_cases c : (x % S).toNat < rows.length
      · refine ⟨_, List.getElem_mem c, ?_⟩
        rwa [List.getD, List.getElem?_eq_getElem c] at hm
      · rw [List.getD, List.getElem?_eq_none (by omega)] at hm
        cases hm
    · rintro ⟨l, hl, hx⟩
      obtain ⟨i, hi, rfl⟩ := List.getElem_of_mem hl
      obtain ⟨j, hj, e⟩ := List.getElem_of_mem hx
      have e0 : rows.getD i [] = rows[i] := by rw [List.getD, List.getElem?_eq_getElem hi]; rfl
      have := h.age i j (by rw [e0]; exact hj)
      rw [e0, List.getD, List.getElem?_eq_getElem hj, Option.getD_some, e] at this
      rw [this]; rfl
end Go.Proofs.Ytaekkfgggmighaa
