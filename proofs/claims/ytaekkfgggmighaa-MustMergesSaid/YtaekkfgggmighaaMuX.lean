/- Words for the walks of must's statements beside a cache: what stays at a store or an access; cache.New at a geometry that is not valid; (Op).line. -/
import Derived.Test.YtaekkfgggmighaaCacheE
import Derived.Test.YtaekkfgggmighaaMu8
import Derived.Test.YtaekkfgggmighaaMuJ
namespace Go.Proofs.Ytaekkfgggmighaa
open Go.RowKit Go.Maps Go.Proofs.YtaekkfgggmighaaW.PrintWords
set_option linter.unusedVariables false

theorem CaB.set {w : World} {base q g k : Nat} {S W L : Int} {F : Nat → Prop} {rows : List (List Int)} {cs : Array Value} {t : TypeId} {u : Value} (h : CaB w base q S W L F rows) (hb : Blk w g (.cells cs t)) (h1 : t ≠ 3) (h2 : t ≠ 57) (h3 : t ≠ 74) : CaB (w.setCell ⟨g, k, none⟩ u) base q S W L F rows := by
  refine h.fr (G := fun j => j = g) ((Fr.refl _ _).setCell rfl) (fun j hj e => ?_) (fun e => ?_)
  · subst e
    exact h.out hb (cells_ne h1 h2) hj
  · subst e
    obtain ⟨gb, vs, h⟩ := h
    have := Blk.agree h.kq hb
    injection this with _ e _
    exact h3 e.symm
/-- The store of a whole must state leaves a cache as it is. -/
theorem CaB.set4 {w : World} {base q B : Nat} {S W L S' W' L' : Int} {p : Option Nat} {F : Nat → Prop} {rows : List (List Int)} {a' b' c' d' : Value} (h : CaB w base q S W L F rows) (hb : Blk w B (mustO S' W' L' p)) : CaB ((((w.setCell ⟨B, 0, none⟩ a').setCell ⟨B, 1, none⟩ b').setCell ⟨B, 2, none⟩ c').setCell ⟨B, 3, none⟩ d') base q S W L F rows :=
  (((h.set hb (by decide) (by decide) (by decide)).set hb.put (by decide) (by decide) (by decide)).set hb.put.put (by decide) (by decide) (by decide)).set hb.put.put.put (by decide) (by decide) (by decide)
/-- A must state stays at an access of a cache. -/
theorem MB.keep {w w' : World} {b q : Nat} {S W L : Int} {F : Nat → Prop} {rows : List (List Int)} {W' : Int} {n : Nat} {f : FM} {p : Option Nat} (hs : MB w W' n f p) (c : CaB w b q S W L F rows) (fr : Fr F w w') : MB w' W' n f p := by
  refine ⟨hs.1.same fun b e => ?_, hs.2⟩
  rcases hs.1 with ⟨rfl, _⟩ | ⟨b', rfl, h3⟩
  · cases e
  · cases e
    obtain ⟨D, ⟨es, clock, hb, _⟩, _⟩ := h3
    exact c.keepMap fr hb
theorem idx_le : ∀ (r : List Int) {p : Nat} {y : Int}, r[p]? = some y → r.idxOf y ≤ p
  | [], p, y, h => by simp at h
  | a :: t, p, y, h => by
    by_cases e : a = y
    · subst e; simp
    · have he : (a == y) = false := by simpa using e
      cases p with
      | zero => simp at h; exact absurd h e
      | succ p =>
        rw [List.getElem?_cons_succ] at h
        have := idx_le t h
        simp only [List.idxOf_cons, he, cond_false]
        omega
theorem lib_idx {r : List Int} {y : Int} (h : y ∈ r) : Lib.idxOf r y = (r.idxOf y : Int) := by
  have hq := List.idxOf_lt_length_of_mem h
  have := Lib.idxOf_hit r r.length (r.idxOf y) y hq (Nat.le_refl _) (by rw [List.getD, List.getElem?_eq_getElem hq]; exact List.getElem_idxOf hq) (fun j hj e => by
    have hjl : j < r.length := by omega
    rw [List.getD, List.getElem?_eq_getElem hjl] at e
    have h5 := List.not_of_lt_findIdx (p := (· == y)) hj
    simp at h5
    exact h5 (by simpa using e))
  rwa [List.take_length] at this
theorem cage_ok {S : Int} {rows : List (List Int)} {y c : Int} (h : HasAt (rows.getD (y % S).toNat []) y c) : 0 ≤ cAge S rows y ∧ cAge S rows y ≤ c := by
  obtain ⟨p, hp, hpc⟩ := h
  have hm : y ∈ rows.getD (y % S).toNat [] := List.mem_of_getElem? hp
  unfold cAge
  rw [lib_idx hm]
  have := idx_le _ hp
  omega
theorem has_mem {r : List Int} {y c : Int} (h : HasAt r y c) : y ∈ r := by
  obtain ⟨p, hp, _⟩ := h
  exact List.mem_of_getElem? hp

theorem Holds1.C {w : World} {base : Nat} {v : Value} {K : List Int} (h : Holds1 w base v K) : ∃ A c, v = .slice A K.length c ∧ K.length ≤ c ∧ c ≤ maxLen ∧ KI.C w A K.length K := by
  rcases h.1.2 with ⟨rfl, h0⟩ | ⟨g, cap, cur, rfl, _, hg, hle, hm, _, _⟩
  · obtain rfl : K = [] := List.eq_nil_of_length_eq_zero h0
    exact ⟨none, 0, rfl, Nat.le_refl _, Nat.zero_le _, Kd.C_nil _ _⟩
  · refine ⟨some ⟨g, 0, none⟩, cap, rfl, hle, hm, rfl, by unfold maxLen at hm; omega, fun _ => ⟨_, rfl, fun j q hj => ⟨[.int .i64 q], rfl, rfl, fun i u hu => ?_⟩⟩⟩
    cases i with
    | succ _ => cases hu
    | zero =>
      cases hu
      have hjl : j < K.length := (List.getElem?_eq_some_iff.1 hj).1
      have := h.1.cells (g := g) rfl j (.int .i64 q) (by rw [List.getElem?_map, hj]; rfl)
      show w.cell? (Addr.add ⟨g, 0, none⟩ (j * 1 + 0)) = _
      rw [Nat.mul_one, Nat.add_zero]
      exact this

set_option maxHeartbeats 400000 in
theorem cache_new_no {S W L : Int} (h : vldB S W L = false) (w : World) :
    Calls Try.prog 14 #[.agg #[.int .i64 S, .int .i64 W, .int .i64 L]] w fun e w' => e = .returned (.tuple #[.pointer none, .int .i64 1]) ∧ Ext w w' := by
  have H := Lib.hid h; clear h
  go_enter Try.func14, Try.ntmps14
  go_wp2_with (go_at_call 22; refine (valid_no H.out _).mono ?_; rintro e w1 ⟨rfl, hb1⟩)
  refine bodyPost_ret (v := .tuple #[.pointer none, .int .i64 1]) ?_ rfl ⟨rfl, (by repeat (first | ((with_reducible refine Ext.set1 ?_ ?_); (first | (focus (simp; done)) | (focus (simp; omega)) | (focus omega))) | (with_reducible refine Ext.alloc ?_ _) | (with_reducible exact Ext.refl _) | (refine Ext.trans ?_ (by with_reducible assumption))))⟩
  simp [results, Try.results14, go_sem]

set_option maxHeartbeats 1000000 in
theorem op_line_neg (lo hi pk : Int) (h : hi < max lo 0) (w : World) :
    Calls Try.prog 15 #[.agg #[.int .i64 lo, .int .i64 hi, .int .u8 pk]] w fun e w' => e = .returned (.int .i64 (-1)) ∧ Ext w w' := by
  by_cases c : 0 ≤ lo
  · have h' : hi < lo := by omega
    have e : max lo 0 = lo := by omega
    go_enter Try.func15, Try.ntmps15
    go_wp2
    go_ret
    exact ⟨rfl, (by repeat (first | ((with_reducible refine Ext.set1 ?_ ?_); (first | (focus (simp; done)) | (focus (simp; omega)) | (focus omega))) | (with_reducible refine Ext.alloc ?_ _) | (with_reducible exact Ext.refl _) | (refine Ext.trans ?_ (by with_reducible assumption))))⟩
  · have h' : hi < 0 := by omega
    have e : max lo 0 = 0 := by omega
    go_enter Try.func15, Try.ntmps15
    go_wp2
    go_ret
    exact ⟨rfl, (by repeat (first | ((with_reducible refine Ext.set1 ?_ ?_); (first | (focus (simp; done)) | (focus (simp; omega)) | (focus omega))) | (with_reducible refine Ext.alloc ?_ _) | (with_reducible exact Ext.refl _) | (refine Ext.trans ?_ (by with_reducible assumption))))⟩
set_option maxHeartbeats 1000000 in
theorem op_line_pos (lo hi pk : Int) (h : max lo 0 ≤ hi) (h2 : hi ≤ 1000) (h4 : 0 ≤ pk) (h5 : pk ≤ 255) (w : World) :
    Calls Try.prog 15 #[.agg #[.int .i64 lo, .int .i64 hi, .int .u8 pk]] w fun e w' => e = .returned (.int .i64 (max lo 0 + pk % (hi - max lo 0 + 1))) ∧ Ext w w' := by
  have hm1 := Int.emod_nonneg pk (show hi - max lo 0 + 1 ≠ 0 by omega)
  have hm2 := Int.emod_lt_of_pos pk (show 0 < hi - max lo 0 + 1 by omega)
  by_cases c : 0 ≤ lo
  · have h' : ¬ hi < lo := by omega
    have e : max lo 0 = lo := by omega
    rw [e] at hm1 hm2 ⊢
    go_enter Try.func15, Try.ntmps15
    go_wp2
    go_ret
    exact ⟨rfl, (by repeat (first | ((with_reducible refine Ext.set1 ?_ ?_); (first | (focus (simp; done)) | (focus (simp; omega)) | (focus omega))) | (with_reducible refine Ext.alloc ?_ _) | (with_reducible exact Ext.refl _) | (refine Ext.trans ?_ (by with_reducible assumption))))⟩
  · have h' : ¬ hi < 0 := by omega
    have e : max lo 0 = 0 := by omega
    rw [e] at hm1 hm2 ⊢
    rw [Int.sub_zero] at hm1 hm2 ⊢
    rw [Int.zero_add]
    go_enter Try.func15, Try.ntmps15
    go_wp2
    go_ret
    exact ⟨rfl, (by repeat (first | ((with_reducible refine Ext.set1 ?_ ?_); (first | (focus (simp; done)) | (focus (simp; omega)) | (focus omega))) | (with_reducible refine Ext.alloc ?_ _) | (with_reducible exact Ext.refl _) | (refine Ext.trans ?_ (by with_reducible assumption))))⟩
theorem op_line (lo hi pk : Int) (h2 : hi ≤ 1000) (h4 : 0 ≤ pk) (h5 : pk ≤ 255) (w : World) :
    Calls Try.prog 15 #[.agg #[.int .i64 lo, .int .i64 hi, .int .u8 pk]] w fun e w' => e = .returned (.int .i64 (lineM lo hi pk)) ∧ Ext w w' := by
  by_cases c : hi < max lo 0
  · rw [lineM_neg c]
    exact op_line_neg lo hi pk c w
  · rw [(lineM_pos (lo := lo) (hi := hi) (pk := pk) (by omega)).1]
    exact op_line_pos lo hi pk (by omega) h2 h4 h5 w
theorem mul_fits {n L : Int} (hn : 0 ≤ n) (hn2 : n ≤ 70000) (hL : 1 ≤ L) (hL2 : L ≤ 16) : 0 ≤ n * L ∧ n * L ≤ 2000000 ∧ n * L / L = n := by
  have h1 : n * L ≤ 70000 * 16 := Int.mul_le_mul hn2 hL2 (by omega) (by omega)
  exact ⟨Int.mul_nonneg hn (by omega), by omega, Int.mul_ediv_cancel n (by omega)⟩
end Go.Proofs.Ytaekkfgggmighaa
