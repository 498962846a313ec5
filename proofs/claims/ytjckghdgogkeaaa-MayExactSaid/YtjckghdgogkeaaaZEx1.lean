/- The words of this seat's proofs: a world that has grown, the geometry of a cache; the contracts of cache.power, cache.Valid, cache.Set, cache.Line. -/
import Derived.Test.YtjckghdgogkeaaaProg
import Derived.WalkKit
import Derived.WalkSpells
import Derived.WalkLawsBesides
import Derived.Lib.Hide
namespace Go.Proofs.Ytjckghdgogkeaaa
open Go.RowKit
set_option linter.unusedVariables false

/-- Whatever lay in w lies unturned in w'. -/
def Ext (w w' : World) : Prop := Below w.heap.size w w'
theorem Ext.refl (w : World) : Ext w w := Below.refl _ _
theorem Ext.size {w w' : World} (h : Ext w w') : w.heap.size ≤ w'.heap.size := Below.size h
theorem Ext.trans {a b c : World} (h : Ext a b) (k : Ext b c) : Ext a c := Below.trans h (Below.mono k h.size)
theorem Ext.drew {a b : World} (h : Ext a b) : Ext a b.drew := Below.drew h
theorem Ext.drewN {a b : World} (h : Ext a b) (n : Nat) : Ext a (b.drewN n) := by
  unfold Ext at *
  exact ⟨h.os, h.tape, h.output, h.size, h.block⟩
theorem Ext.alloc {a b : World} (h : Ext a b) (o : Obj) : Ext a (b.alloc o) := Below.alloc h h.size o
theorem Ext.setCell {a b : World} (h : Ext a b) {p : Addr} (hp : a.heap.size ≤ p.block) (u : Value) : Ext a (b.setCell p u) := Below.setCell h hp u
/-- (the side goal first) -/
theorem Ext.set1 {a b : World} {g o : Nat} {u : Value} (hp : a.heap.size ≤ g) (h : Ext a b) : Ext a (b.setCell ⟨g, o, none⟩ u) := h.setCell (p := ⟨g, o, none⟩) hp u
theorem Ext.cell {w w' : World} (h : Ext w w') {p : Addr} (hp : p.block < w.heap.size) : w'.cell? p = w.cell? p := Below.cell h hp
theorem Ext.frozen {w w' : World} (h : Ext w w') {p : Addr} (hp : p.block < w.heap.size) : w'.frozen? p = w.frozen? p := Below.frozen h hp
theorem Ext.block {w w' : World} (h : Ext w w') {b : Nat} (hb : b < w.heap.size) : w'.heap[b]? = w.heap[b]? := Below.block h b hb
theorem Ext.cells {W w1 : World} (h : Ext W w1) : (∀ b o, b < W.heap.size → w1.cell? ⟨b, o, none⟩ = W.cell? ⟨b, o, none⟩) ∧ (∀ b o, b < W.heap.size → w1.frozen? ⟨b, o, none⟩ = W.frozen? ⟨b, o, none⟩) :=
  ⟨fun b o hb => h.cell (p := ⟨b, o, none⟩) hb, fun b o hb => h.frozen (p := ⟨b, o, none⟩) hb⟩
theorem Ext.grown {a b c : World} {row : Option Nat} (h : Ext a b) (hg : b.grownBy c row) (hr : ∀ k, row = some k → a.heap.size ≤ k) : Ext a c := Below.grown h hg h.size hr
theorem Ext.toGrown {a b : World} (h : Ext a b) : a.grownBy b none := ⟨h.os, h.tape, h.output, Below.size h, fun i hi _ => h.block hi⟩

/-- A call that hands back whether Q holds. -/
def Says (Q : Prop) (w : World) (e : Ending) (w' : World) : Prop := ∃ r : Bool, (e = .returned (.bool r) ∧ (r = true ↔ Q)) ∧ Ext w w'
theorem Says.yes {Q : Prop} {w w' : World} {e : Ending} (h : Says Q w e w') (q : Q) : e = .returned (.bool true) ∧ Ext w w' := by
  obtain ⟨r, ⟨rfl, hr⟩, hb⟩ := h
  exact ⟨by rw [hr.2 q], hb⟩

/-! ### a block that is known whole -/
/-- Block B of w is o. -/
def Blk (w : World) (B : Nat) (o : Obj) : Prop := w.heap[B]? = some o
theorem Blk.lt {w : World} {B : Nat} {o : Obj} (h : Blk w B o) : B < w.heap.size := (Array.getElem?_eq_some_iff.1 h).1
theorem Blk.new {w : World} {B : Nat} {o : Obj} (hB : B = w.heap.size) : Blk (w.alloc o) B o := by subst hB; exact heap_alloc_new w o
theorem Blk.alloc {w : World} {B : Nat} {o o' : Obj} (h : Blk w B o) : Blk (w.alloc o') B o := (Below.heap_alloc w o' B h.lt).trans h
theorem Blk.ext {w w' : World} {B : Nat} {o : Obj} (h : Blk w B o) (e : Ext w w') : Blk w' B o := (e.block h.lt).trans h
theorem Blk.set1 {w : World} {B g k : Nat} {o : Obj} {u : Value} (hne : B ≠ g) (h : Blk w B o) : Blk (w.setCell ⟨g, k, none⟩ u) B o := (Below.heap_setCell w _ _ _ hne).trans h
theorem Blk.put {w : World} {B k : Nat} {cs : Array Value} {t : TypeId} {u : Value} (h : Blk w B (.cells cs t)) : Blk (w.setCell ⟨B, k, none⟩ u) B (.cells (cs.setIfInBounds k u) t) := by
  unfold Blk at h ⊢
  simp [World.setCell, Array.getElem?_modify, h]
theorem Blk.grown {w w' : World} {B : Nat} {o : Obj} {row : Option Nat} (h : Blk w B o) (hg : w.grownBy w' row) (hne : some B ≠ row) : Blk w' B o := (hg.block B h.lt hne).trans h
theorem Blk.cell {w : World} {B : Nat} {cs : Array Value} {t : TypeId} (h : Blk w B (.cells cs t)) (i : Nat) : w.cell? ⟨B, i, none⟩ = cs[i]? := by
  unfold Blk at h
  simp [World.cell?, h]
theorem Blk.free {w : World} {B : Nat} {cs : Array Value} {t : TypeId} (h : Blk w B (.cells cs t)) (i : Nat) : w.frozen? ⟨B, i, none⟩ = false := by
  unfold Blk at h
  simp [World.frozen?, h]
theorem Blk.c1 {w : World} {B : Nat} {a : Value} {t : TypeId} (h : Blk w B (.cells #[a] t)) : w.cell? ⟨B, 0, none⟩ = some a ∧ w.frozen? ⟨B, 0, none⟩ = false := ⟨h.cell 0, h.free 0⟩
theorem Blk.c3 {w : World} {B : Nat} {a b c : Value} {t : TypeId} (h : Blk w B (.cells #[a, b, c] t)) :
    w.cell? ⟨B, 0, none⟩ = some a ∧ w.cell? ⟨B, 1, none⟩ = some b ∧ w.cell? ⟨B, 2, none⟩ = some c := ⟨h.cell 0, h.cell 1, h.cell 2⟩
theorem Blk.f3 {w : World} {B : Nat} {cs : Array Value} {t : TypeId} (h : Blk w B (.cells cs t)) :
    w.frozen? ⟨B, 0, none⟩ = false ∧ w.frozen? ⟨B, 1, none⟩ = false ∧ w.frozen? ⟨B, 2, none⟩ = false := ⟨h.free 0, h.free 1, h.free 2⟩
theorem Blk.c4 {w : World} {B : Nat} {a b c d : Value} {t : TypeId} (h : Blk w B (.cells #[a, b, c, d] t)) :
    w.cell? ⟨B, 0, none⟩ = some a ∧ w.cell? ⟨B, 1, none⟩ = some b ∧ w.cell? ⟨B, 2, none⟩ = some c ∧ w.cell? ⟨B, 3, none⟩ = some d := ⟨h.cell 0, h.cell 1, h.cell 2, h.cell 3⟩
theorem Blk.f4 {w : World} {B : Nat} {cs : Array Value} {t : TypeId} (h : Blk w B (.cells cs t)) :
    w.frozen? ⟨B, 0, none⟩ = false ∧ w.frozen? ⟨B, 1, none⟩ = false ∧ w.frozen? ⟨B, 2, none⟩ = false ∧ w.frozen? ⟨B, 3, none⟩ = false := ⟨h.free 0, h.free 1, h.free 2, h.free 3⟩
theorem Blk.c5 {w : World} {B : Nat} {a b c d e : Value} {t : TypeId} (h : Blk w B (.cells #[a, b, c, d, e] t)) :
    w.cell? ⟨B, 0, none⟩ = some a ∧ w.cell? ⟨B, 1, none⟩ = some b ∧ w.cell? ⟨B, 2, none⟩ = some c ∧ w.cell? ⟨B, 3, none⟩ = some d ∧ w.cell? ⟨B, 4, none⟩ = some e := ⟨h.cell 0, h.cell 1, h.cell 2, h.cell 3, h.cell 4⟩
theorem Blk.f5 {w : World} {B : Nat} {cs : Array Value} {t : TypeId} (h : Blk w B (.cells cs t)) :
    w.frozen? ⟨B, 0, none⟩ = false ∧ w.frozen? ⟨B, 1, none⟩ = false ∧ w.frozen? ⟨B, 2, none⟩ = false ∧ w.frozen? ⟨B, 3, none⟩ = false ∧ w.frozen? ⟨B, 4, none⟩ = false := ⟨h.free 0, h.free 1, h.free 2, h.free 3, h.free 4⟩

/-! ### the geometry -/
def Pow (n : Int) : Prop := n = 1 ∨ n = 2 ∨ n = 4 ∨ n = 8 ∨ n = 16 ∨ n = 32 ∨ n = 64
instance (n : Int) : Decidable (Pow n) := by unfold Pow; infer_instance
def powB (n most : Int) : Bool := decide (n ≤ most ∧ Pow n)
structure Geo (S W L : Int) : Prop where
  sets : Pow S
  w1 : 1 ≤ W
  w8 : W ≤ 8
  line : Pow L
  l16 : L ≤ 16
def vldB (S W L : Int) : Bool := powB S 64 && (decide (1 ≤ W) && (decide (W ≤ 8) && powB L 16))
theorem vld_iff (S W L : Int) : vldB S W L = true ↔ Geo S W L := by
  unfold vldB powB
  simp only [Bool.and_eq_true, decide_eq_true_eq]
  constructor
  · rintro ⟨⟨_, h1⟩, h2, h3, h4, h5⟩
    exact ⟨h1, h2, h3, h5, h4⟩
  · rintro ⟨h1, h2, h3, h4, h5⟩
    refine ⟨⟨?_, h1⟩, h2, h3, h5, h4⟩
    unfold Pow at h1; omega
theorem Geo.s1 {S W L : Int} (h : Geo S W L) : 1 ≤ S := by have := h.sets; unfold Pow at this; omega
theorem Geo.s64 {S W L : Int} (h : Geo S W L) : S ≤ 64 := by have := h.sets; unfold Pow at this; omega
theorem Geo.l1 {S W L : Int} (h : Geo S W L) : 1 ≤ L := by have := h.line; unfold Pow at this; omega

theorem pow_bits (n : Int) (h1 : 1 ≤ n) (h2 : n ≤ 64) : (bits BinOp.and IntKind.i64 n (n - 1) == 0) = decide (Pow n) := by
  have key : ∀ m : Fin 65, 1 ≤ m.val → (bits BinOp.and IntKind.i64 (m.val : Int) ((m.val : Int) - 1) == 0) = decide (Pow (m.val : Int)) := by decide +kernel
  have := key ⟨n.toNat, by omega⟩ (by show 1 ≤ n.toNat; omega)
  have e : ((n.toNat : Nat) : Int) = n := by omega
  simp only [e] at this
  exact this

set_option maxHeartbeats 400000 in
theorem power_any (n most : Int) (w : World) (hm : most ≤ 64) :
    Calls Try.prog 45 #[.int .i64 n, .int .i64 most] w fun e w' => e = .returned (.bool (powB n most)) ∧ w = w' := by
  by_cases h1 : 1 ≤ n
  · by_cases h2 : n ≤ most
    · have hb := pow_bits n h1 (by omega)
      have hf : powB n most = decide (Pow n) := by unfold powB; simp [h2]
      have HF := Lib.hid hf; clear hf
      go_enter Try.func45, Try.ntmps45
      go_wp2
      go_ret
      exact ⟨by rw [HF.out]; rfl, rfl⟩
    · have hf : powB n most = false := by unfold powB; simp; omega
      have HF := Lib.hid hf; clear hf
      go_enter Try.func45, Try.ntmps45
      go_wp2
      go_ret
      exact ⟨by rw [HF.out]; rfl, rfl⟩
  · have hf : powB n most = false := by
      unfold powB Pow; simp; omega
    have HF := Lib.hid hf; clear hf
    go_enter Try.func45, Try.ntmps45
    go_wp2
    go_ret
    exact ⟨by rw [HF.out]; rfl, rfl⟩
end Go.Proofs.Ytjckghdgogkeaaa

namespace Go.Proofs.Ytjckghdgogkeaaa
open Go.RowKit
set_option linter.unusedVariables false

abbrev geoV (S W L : Int) : Value := .agg #[.int .i64 S, .int .i64 W, .int .i64 L]

set_option maxHeartbeats 400000 in
theorem valid_any (S W L : Int) (w : World) :
    Calls Try.prog 30 #[.agg #[.int .i64 S, .int .i64 W, .int .i64 L]] w fun e w' => e = .returned (.bool (vldB S W L)) ∧ Ext w w' := by
  have hf : vldB S W L = (powB S 64 && (decide (1 ≤ W) && (decide (W ≤ 8) && powB L 16))) := rfl
  have HF := Lib.hid hf; clear hf
  go_enter Try.func30, Try.ntmps30
  go_wp2_with (go_at_call 45; refine (power_any _ _ _ (by omega)).mono ?_; rintro e w' ⟨rfl, rfl⟩)
  all_goals
    go_ret
    exact ⟨by rw [HF.out]; first | (simp [*]; done) | (simp [*]; intros; omega), (Ext.refl _).alloc _⟩

theorem valid_yes {S W L : Int} (h : Geo S W L) (w : World) :
    Calls Try.prog 30 #[.agg #[.int .i64 S, .int .i64 W, .int .i64 L]] w fun e w' => e = .returned (.bool true) ∧ Ext w w' := by
  have := valid_any S W L w
  rw [(vld_iff S W L).2 h] at this
  exact this

set_option maxHeartbeats 400000 in
theorem set_yes {S W L : Int} (h : Geo S W L) (x : Int) (hx : 0 ≤ x) (w : World) :
    Calls Try.prog 46 #[.agg #[.int .i64 S, .int .i64 W, .int .i64 L], .int .i64 x] w fun e w' => e = .returned (.int .i64 (x % S)) ∧ Ext w w' := by
  have hs := h.s1
  have hs6 := h.s64
  go_enter Try.func46, Try.ntmps46
  go_wp2_with (go_at_call 30; refine (valid_yes h _).mono ?_; rintro e w1 ⟨rfl, hb1⟩; obtain ⟨hc1, hf1⟩ := hb1.cells)
  go_ret
  exact ⟨rfl, ((Ext.refl _).alloc _).trans hb1⟩

set_option maxHeartbeats 400000 in
theorem line_yes {S W L : Int} (h : Geo S W L) (x : Int) (hx : 0 ≤ x) (hx2 : x ≤ 2000000) (w : World) :
    Calls Try.prog 39 #[.agg #[.int .i64 S, .int .i64 W, .int .i64 L], .int .i64 x] w fun e w' => e = .returned (.int .i64 (x / L)) ∧ Ext w w' := by
  have hs := h.l1
  have hs6 := h.l16
  go_enter Try.func39, Try.ntmps39
  go_wp2_with (go_at_call 30; refine (valid_yes h _).mono ?_; rintro e w1 ⟨rfl, hb1⟩; obtain ⟨hc1, hf1⟩ := hb1.cells)
  go_ret
  exact ⟨rfl, ((Ext.refl _).alloc _).trans hb1⟩
end Go.Proofs.Ytjckghdgogkeaaa

namespace Go.Proofs.Ytjckghdgogkeaaa
open Go.RowKit
set_option linter.unusedVariables false

/-- The row after an access of x. -/
def cRow (W x : Int) (r : List Int) : List Int := (x :: r.erase x).take W.toNat
/-- The rows after an access of the line x. -/
def cAcc (S W : Int) (rows : List (List Int)) (x : Int) : List (List Int) := rows.set (x % S).toNat (cRow W x (rows.getD (x % S).toNat []))
/-- Each row has distinct lines of its own set, no more than the ways. -/
structure Rows (S W : Int) (rows : List (List Int)) : Prop where
  len : (rows.length : Int) = S
  short : ∀ i, ((rows.getD i []).length : Int) ≤ W
  nodup : ∀ i, (rows.getD i []).Nodup
  mine : ∀ i x, x ∈ rows.getD i [] → 0 ≤ x ∧ x % S = i

theorem getD_set_same {rows : List (List Int)} {i : Nat} (h : i < rows.length) (r : List Int) : (rows.set i r).getD i [] = r := by simp [List.getD, h]
theorem getD_set_other {rows : List (List Int)} {i k : Nat} (h : k ≠ i) (r : List Int) : (rows.set i r).getD k [] = rows.getD k [] := by simp [List.getD, Ne.symm h]
theorem mem_erase_iff {r : List Int} (h : r.Nodup) {x y : Int} : y ∈ r.erase x ↔ y ≠ x ∧ y ∈ r := h.mem_erase_iff

theorem rows_empty {S W : Int} (hs : 1 ≤ S) (hw : 1 ≤ W) : Rows S W (List.replicate S.toNat []) := by
  have e : ∀ i, (List.replicate S.toNat ([] : List Int)).getD i [] = [] := fun i => by
    simp only [List.getD, List.getElem?_replicate]; split <;> rfl
  exact ⟨by simp; omega, fun i => by rw [e]; simp; omega, fun i => by rw [e]; exact List.nodup_nil, fun i x hx => by rw [e] at hx; cases hx⟩

theorem cRow_cons {W x : Int} {r : List Int} (hw : 1 ≤ W) : cRow W x r = x :: (r.erase x).take (W.toNat - 1) := by
  unfold cRow
  obtain ⟨k, hk⟩ : ∃ k, W.toNat = k + 1 := ⟨W.toNat - 1, by omega⟩
  rw [hk]; rfl
theorem mem_cRow {W x y : Int} {r : List Int} (hw : 1 ≤ W) (h : y ∈ cRow W x r) : y = x ∨ y ∈ r := by
  rw [cRow_cons hw, List.mem_cons] at h
  rcases h with h | h
  · exact .inl h
  · exact .inr (List.mem_of_mem_erase (List.mem_of_mem_take h))
theorem nodup_cRow {W x : Int} {r : List Int} (hw : 1 ≤ W) (h : r.Nodup) : (cRow W x r).Nodup := by
  rw [cRow_cons hw, List.nodup_cons]
  refine ⟨fun hm => ?_, (h.erase x).sublist (List.take_sublist _ _)⟩
  exact ((mem_erase_iff h).1 (List.mem_of_mem_take hm)).1 rfl
theorem length_cRow {W x : Int} {r : List Int} (hw : 1 ≤ W) : ((cRow W x r).length : Int) ≤ W := by
  unfold cRow; rw [List.length_take]; omega

theorem Rows.acc {S W : Int} {rows : List (List Int)} (h : Rows S W rows) (hs : 1 ≤ S) (hw : 1 ≤ W) {x : Int} (hx : 0 ≤ x) : Rows S W (cAcc S W rows x) := by
  have hi := Int.emod_nonneg x (show S ≠ 0 by omega)
  have hi2 := Int.emod_lt_of_pos x (show 0 < S by omega)
  have hlt : (x % S).toNat < rows.length := by have := h.len; omega
  refine ⟨by unfold cAcc; rw [List.length_set]; exact h.len, fun i => ?_, fun i => ?_, fun i y hy => ?_⟩
  · by_cases e : i = (x % S).toNat
    · subst e; unfold cAcc; rw [getD_set_same hlt]; exact length_cRow hw
    · unfold cAcc; rw [getD_set_other e]; exact h.short i
  · by_cases e : i = (x % S).toNat
    · subst e; unfold cAcc; rw [getD_set_same hlt]; exact nodup_cRow hw (h.nodup _)
    · unfold cAcc; rw [getD_set_other e]; exact h.nodup i
  · by_cases e : i = (x % S).toNat
    · subst e
      unfold cAcc at hy; rw [getD_set_same hlt] at hy
      rcases mem_cRow hw hy with rfl | hy
      · exact ⟨hx, by omega⟩
      · exact h.mine _ y hy
    · unfold cAcc at hy; rw [getD_set_other e] at hy; exact h.mine i y hy

/-- Where the line at place j + 1 of a touched row stood before: at j, if the touched line stood behind it or nowhere; else at j + 1. -/
theorem cRow_at {W x : Int} {r : List Int} (hw : 1 ≤ W) (hn : r.Nodup) {j : Nat} (hj : j + 1 < (cRow W x r).length) :
    ∃ p, (p = j ∨ (p = j + 1 ∧ ∃ q, q ≤ j ∧ q < r.length ∧ r.getD q 0 = x)) ∧ p < r.length ∧ (cRow W x r).getD (j + 1) 0 = r.getD p 0 ∧ r.getD p 0 ≠ x ∧ ((j : Int) + 1 < W) := by
  rw [cRow_cons hw] at hj ⊢
  simp only [List.length_cons, List.length_take] at hj
  have hjl : j < (r.erase x).length := by omega
  have e1 : (x :: (r.erase x).take (W.toNat - 1)).getD (j + 1) 0 = (r.erase x).getD j 0 := by
    simp only [List.getD, List.getElem?_cons_succ, List.getElem?_take]
    rw [if_pos (by omega)]
  rw [e1]
  have hmem : (r.erase x).getD j 0 ∈ r.erase x := by
    rw [List.getD, List.getElem?_eq_getElem hjl]; exact List.getElem_mem hjl
  have hne := ((mem_erase_iff hn).1 hmem).1
  by_cases hx : x ∈ r
  · have hq := List.idxOf_lt_length_of_mem hx
    have e2 : r.erase x = r.eraseIdx (r.idxOf x) := List.erase_eq_eraseIdx_of_idxOf rfl
    have hqx : r.getD (r.idxOf x) 0 = x := by rw [List.getD, List.getElem?_eq_getElem hq]; exact List.getElem_idxOf hq
    rw [e2] at hne hjl ⊢
    rw [List.length_eraseIdx, if_pos hq] at hjl
    by_cases c : j < r.idxOf x
    · have e3 : (r.eraseIdx (r.idxOf x)).getD j 0 = r.getD j 0 := by simp only [List.getD, List.getElem?_eraseIdx]; rw [if_pos c]
      rw [e3] at hne ⊢
      exact ⟨j, .inl rfl, by omega, rfl, hne, by omega⟩
    · have e3 : (r.eraseIdx (r.idxOf x)).getD j 0 = r.getD (j + 1) 0 := by simp only [List.getD, List.getElem?_eraseIdx]; rw [if_neg c]
      rw [e3] at hne ⊢
      exact ⟨j + 1, .inr ⟨rfl, _, by omega, hq, hqx⟩, by omega, rfl, hne, by omega⟩
  · rw [List.erase_of_not_mem hx] at hne hjl ⊢
    exact ⟨j, .inl rfl, hjl, rfl, hne, by omega⟩

/-- All lines are at most M. -/
def Top (M : Int) (rows : List (List Int)) : Prop := ∀ i x, x ∈ rows.getD i [] → x ≤ M
theorem top_empty (M : Int) (n : Nat) : Top M (List.replicate n []) := fun i x hx => by
  have e : (List.replicate n ([] : List Int)).getD i [] = [] := by simp only [List.getD, List.getElem?_replicate]; split <;> rfl
  rw [e] at hx; cases hx
theorem Top.acc {M S W : Int} {rows : List (List Int)} (h : Top M rows) (hw : 1 ≤ W) {x : Int} (hx : x ≤ M) : Top M (cAcc S W rows x) := fun i y hy => by
  unfold cAcc at hy
  by_cases e : i = (x % S).toNat
  · by_cases c : i < rows.length
    · subst e
      rw [getD_set_same c] at hy
      rcases mem_cRow hw hy with rfl | hy
      · exact hx
      · exact h _ y hy
    · rw [List.getD, List.getElem?_eq_none (by rw [List.length_set]; omega)] at hy
      cases hy
  · rw [getD_set_other e] at hy
    exact h i y hy
theorem Top.all {M : Int} {rows : List (List Int)} (h : Top M rows) : ∀ l ∈ rows, ∀ x ∈ l, x ≤ M := fun l hl x hx => by
  obtain ⟨i, hi, rfl⟩ := List.getElem_of_mem hl
  exact h i x (by rw [List.getD, List.getElem?_eq_getElem hi]; exact hx)
theorem Rows.all {S W : Int} {rows : List (List Int)} (h : Rows S W rows) : ∀ l ∈ rows, ∀ x ∈ l, 0 ≤ x := fun l hl x hx => by
  obtain ⟨i, hi, rfl⟩ := List.getElem_of_mem hl
  exact (h.mine i x (by rw [List.getD, List.getElem?_eq_getElem hi]; exact hx)).1
end Go.Proofs.Ytjckghdgogkeaaa
