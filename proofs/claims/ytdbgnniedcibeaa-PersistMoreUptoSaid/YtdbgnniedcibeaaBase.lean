/- The words of this seat's proofs: a world that has grown, the geometry of a cache; the contracts of cache.power, cache.Valid, cache.Set, cache.Line. -/
import Derived.Test.YtdbgnniedcibeaaProg
import Derived.WalkKit
import Derived.WalkSpells
import Derived.WalkLawsBesides
import Derived.Lib.Hide
namespace Go.Proofs.Ytdbgnniedcibeaa
open Go.RowKit
set_option linter.unusedVariables false

/-- Whatever lay in w lies unturned in w'. -/
def Ext (w w' : World) : Prop := Below w.heap.size w w'
theorem Ext.refl (w : World) : Ext w w := Below.refl _ _
theorem Ext.size {w w' : World} (h : Ext w w') : w.heap.size ≤ w'.heap.size := Below.size h
theorem Ext.trans {a b c : World} (h : Ext a b) (k : Ext b c) : Ext a c := Below.trans h (Below.mono k h.size)
theorem Ext.drew {a b : World} (h : Ext a b) : Ext a b.drew := Below.drew h
theorem Ext.drewN {a b : World} (h : Ext a b) (n : Nat) : Ext a (b.drewN n) := by
  unfold Ext at *
  exact ⟨h.os, h.tape, h.output, h.size, h.block⟩
theorem Ext.alloc {a b : World} (h : Ext a b) (o : Obj) : Ext a (b.alloc o) := Below.alloc h h.size o
theorem Ext.setCell {a b : World} (h : Ext a b) {p : Addr} (hp : a.heap.size ≤ p.block) (u : Value) : Ext a (b.setCell p u) := Below.setCell h hp u
/-- (the side goal first) -/
theorem Ext.set1 {a b : World} {g o : Nat} {u : Value} (hp : a.heap.size ≤ g) (h : Ext a b) : Ext a (b.setCell ⟨g, o, none⟩ u) := h.setCell (p := ⟨g, o, none⟩) hp u
theorem Ext.cell {w w' : World} (h : Ext w w') {p : Addr} (hp : p.block < w.heap.size) : w'.cell? p = w.cell? p := Below.cell h hp
theorem Ext.frozen {w w' : World} (h : Ext w w') {p : Addr} (hp : p.block < w.heap.size) : w'.frozen? p = w.frozen? p := Below.frozen h hp
theorem Ext.block {w w' : World} (h : Ext w w') {b : Nat} (hb : b < w.heap.size) : w'.heap[b]? = w.heap[b]? := Below.block h b hb
theorem Ext.cells {W w1 : World} (h : Ext W w1) : (∀ b o, b < W.heap.size → w1.cell? ⟨b, o, none⟩ = W.cell? ⟨b, o, none⟩) ∧ (∀ b o, b < W.heap.size → w1.frozen? ⟨b, o, none⟩ = W.frozen? ⟨b, o, none⟩) :=
  ⟨fun b o hb => h.cell (p := ⟨b, o, none⟩) hb, fun b o hb => h.frozen (p := ⟨b, o, none⟩) hb⟩
theorem Ext.grown {a b c : World} {row : Option Nat} (h : Ext a b) (hg : b.grownBy c row) (hr : ∀ k, row = some k → a.heap.size ≤ k) : Ext a c := Below.grown h hg h.size hr
theorem Ext.toGrown {a b : World} (h : Ext a b) : a.grownBy b none := ⟨h.os, h.tape, h.output, Below.size h, fun i hi _ => h.block hi⟩

/-- A call that hands back whether Q holds. -/
def Says (Q : Prop) (w : World) (e : Ending) (w' : World) : Prop := ∃ r : Bool, (e = .returned (.bool r) ∧ (r = true ↔ Q)) ∧ Ext w w'
theorem Says.yes {Q : Prop} {w w' : World} {e : Ending} (h : Says Q w e w') (q : Q) : e = .returned (.bool true) ∧ Ext w w' := by
  obtain ⟨r, ⟨rfl, hr⟩, hb⟩ := h
  exact ⟨by rw [hr.2 q], hb⟩

/-! ### a block that is known whole -/
/-- Block B of w is o. -/
def Blk (w : World) (B : Nat) (o : Obj) : Prop := w.heap[B]? = some o
theorem Blk.lt {w : World} {B : Nat} {o : Obj} (h : Blk w B o) : B < w.heap.size := (Array.getElem?_eq_some_iff.1 h).1
theorem Blk.new {w : World} {B : Nat} {o : Obj} (hB : B = w.heap.size) : Blk (w.alloc o) B o := by subst hB; exact heap_alloc_new w o
theorem Blk.alloc {w : World} {B : Nat} {o o' : Obj} (h : Blk w B o) : Blk (w.alloc o') B o := (Below.heap_alloc w o' B h.lt).trans h
theorem Blk.ext {w w' : World} {B : Nat} {o : Obj} (h : Blk w B o) (e : Ext w w') : Blk w' B o := (e.block h.lt).trans h
theorem Blk.set1 {w : World} {B g k : Nat} {o : Obj} {u : Value} (hne : B ≠ g) (h : Blk w B o) : Blk (w.setCell ⟨g, k, none⟩ u) B o := (Below.heap_setCell w _ _ _ hne).trans h
theorem Blk.put {w : World} {B k : Nat} {cs : Array Value} {t : TypeId} {u : Value} (h : Blk w B (.cells cs t)) : Blk (w.setCell ⟨B, k, none⟩ u) B (.cells (cs.setIfInBounds k u) t) := by
  unfold Blk at h ⊢
  simp [World.setCell, Array.getElem?_modify, h]
theorem Blk.grown {w w' : World} {B : Nat} {o : Obj} {row : Option Nat} (h : Blk w B o) (hg : w.grownBy w' row) (hne : some B ≠ row) : Blk w' B o := (hg.block B h.lt hne).trans h
theorem Blk.cell {w : World} {B : Nat} {cs : Array Value} {t : TypeId} (h : Blk w B (.cells cs t)) (i : Nat) : w.cell? ⟨B, i, none⟩ = cs[i]? := by
  unfold Blk at h
  simp [World.cell?, h]
theorem Blk.free {w : World} {B : Nat} {cs : Array Value} {t : TypeId} (h : Blk w B (.cells cs t)) (i : Nat) : w.frozen? ⟨B, i, none⟩ = false := by
  unfold Blk at h
  simp [World.frozen?, h]
theorem Blk.c1 {w : World} {B : Nat} {a : Value} {t : TypeId} (h : Blk w B (.cells #[a] t)) : w.cell? ⟨B, 0, none⟩ = some a ∧ w.frozen? ⟨B, 0, none⟩ = false := ⟨h.cell 0, h.free 0⟩
theorem Blk.c3 {w : World} {B : Nat} {a b c : Value} {t : TypeId} (h : Blk w B (.cells #[a, b, c] t)) :
    w.cell? ⟨B, 0, none⟩ = some a ∧ w.cell? ⟨B, 1, none⟩ = some b ∧ w.cell? ⟨B, 2, none⟩ = some c := ⟨h.cell 0, h.cell 1, h.cell 2⟩
theorem Blk.f3 {w : World} {B : Nat} {cs : Array Value} {t : TypeId} (h : Blk w B (.cells cs t)) :
    w.frozen? ⟨B, 0, none⟩ = false ∧ w.frozen? ⟨B, 1, none⟩ = false ∧ w.frozen? ⟨B, 2, none⟩ = false := ⟨h.free 0, h.free 1, h.free 2⟩
theorem Blk.c4 {w : World} {B : Nat} {a b c d : Value} {t : TypeId} (h : Blk w B (.cells #[a, b, c, d] t)) :
    w.cell? ⟨B, 0, none⟩ = some a ∧ w.cell? ⟨B, 1, none⟩ = some b ∧ w.cell? ⟨B, 2, none⟩ = some c ∧ w.cell? ⟨B, 3, none⟩ = some d := ⟨h.cell 0, h.cell 1, h.cell 2, h.cell 3⟩
theorem Blk.f4 {w : World} {B : Nat} {cs : Array Value} {t : TypeId} (h : Blk w B (.cells cs t)) :
    w.frozen? ⟨B, 0, none⟩ = false ∧ w.frozen? ⟨B, 1, none⟩ = false ∧ w.frozen? ⟨B, 2, none⟩ = false ∧ w.frozen? ⟨B, 3, none⟩ = false := ⟨h.free 0, h.free 1, h.free 2, h.free 3⟩
theorem Blk.c5 {w : World} {B : Nat} {a b c d e : Value} {t : TypeId} (h : Blk w B (.cells #[a, b, c, d, e] t)) :
    w.cell? ⟨B, 0, none⟩ = some a ∧ w.cell? ⟨B, 1, none⟩ = some b ∧ w.cell? ⟨B, 2, none⟩ = some c ∧ w.cell? ⟨B, 3, none⟩ = some d ∧ w.cell? ⟨B, 4, none⟩ = some e := ⟨h.cell 0, h.cell 1, h.cell 2, h.cell 3, h.cell 4⟩
theorem Blk.f5 {w : World} {B : Nat} {cs : Array Value} {t : TypeId} (h : Blk w B (.cells cs t)) :
    w.frozen? ⟨B, 0, none⟩ = false ∧ w.frozen? ⟨B, 1, none⟩ = false ∧ w.frozen? ⟨B, 2, none⟩ = false ∧ w.frozen? ⟨B, 3, none⟩ = false ∧ w.frozen? ⟨B, 4, none⟩ = false := ⟨h.free 0, h.free 1, h.free 2, h.free 3, h.free 4⟩

/-! ### the geometry -/
def Pow (n : Int) : Prop := n = 1 ∨ n = 2 ∨ n = 4 ∨ n = 8 ∨ n = 16 ∨ n = 32 ∨ n = 64
instance (n : Int) : Decidable (Pow n) := by unfold Pow; infer_instance
def powB (n most : Int) : Bool := decide (n ≤ most ∧ Pow n)
structure Geo (S W L : Int) : Prop where
  sets : Pow S
  w1 : 1 ≤ W
  w8 : W ≤ 8
  line : Pow L
  l16 : L ≤ 16
def vldB (S W L : Int) : Bool := powB S 64 && (decide (1 ≤ W) && (decide (W ≤ 8) && powB L 16))
theorem vld_iff (S W L : Int) : vldB S W L = true ↔ Geo S W L := by
  unfold vldB powB
  simp only [Bool.and_eq_true, decide_eq_true_eq]
  constructor
  · rintro ⟨⟨_, h1⟩, h2, h3, h4, h5⟩
    exact ⟨h1, h2, h3, h5, h4⟩
  · rintro ⟨h1, h2, h3, h4, h5⟩
    refine ⟨⟨?_, h1⟩, h2, h3, h5, h4⟩
    unfold Pow at h1; omega
theorem Geo.s1 {S W L : Int} (h : Geo S W L) : 1 ≤ S := by have := h.sets; unfold Pow at this; omega
theorem Geo.s64 {S W L : Int} (h : Geo S W L) : S ≤ 64 := by have := h.sets; unfold Pow at this; omega
theorem Geo.l1 {S W L : Int} (h : Geo S W L) : 1 ≤ L := by have := h.line; unfold Pow at this; omega

theorem pow_bits (n : Int) (h1 : 1 ≤ n) (h2 : n ≤ 64) : (bits BinOp.and IntKind.i64 n (n - 1) == 0) = decide (Pow n) := by
  have key : ∀ m : Fin 65, 1 ≤ m.val → (bits BinOp.and IntKind.i64 (m.val : Int) ((m.val : Int) - 1) == 0) = decide (Pow (m.val : Int)) := by decide +kernel
  have := key ⟨n.toNat, by omega⟩ (by show 1 ≤ n.toNat; omega)
  have e : ((n.toNat : Nat) : Int) = n := by omega
  simp only [e] at this
  exact this

set_option maxHeartbeats 400000 in
theorem power_any (n most : Int) (w : World) (hm : most ≤ 64) :
    Calls Try.prog 33 #[.int .i64 n, .int .i64 most] w fun e w' => e = .returned (.bool (powB n most)) ∧ w = w' := by
  by_cases h1 : 1 ≤ n
  · by_cases h2 : n ≤ most
    · have hb := pow_bits n h1 (by omega)
      have hf : powB n most = decide (Pow n) := by unfold powB; simp [h2]
      have HF := Lib.hid hf; clear hf
      go_enter Try.func33, Try.ntmps33
      go_wp2
      go_ret
      exact ⟨by rw [HF.out]; rfl, rfl⟩
    · have hf : powB n most = false := by unfold powB; simp; omega
      have HF := Lib.hid hf; clear hf
      go_enter Try.func33, Try.ntmps33
      go_wp2
      go_ret
      exact ⟨by rw [HF.out]; rfl, rfl⟩
  · have hf : powB n most = false := by
      unfold powB Pow; simp; omega
    have HF := Lib.hid hf; clear hf
    go_enter Try.func33, Try.ntmps33
    go_wp2
    go_ret
    exact ⟨by rw [HF.out]; rfl, rfl⟩
end Go.Proofs.Ytdbgnniedcibeaa
