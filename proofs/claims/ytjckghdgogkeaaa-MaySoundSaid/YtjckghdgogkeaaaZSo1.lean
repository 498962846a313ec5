/- The words of this seat's proofs: a world that has grown, the geometry of a cache; the contracts of cache.power, cache.Valid, cache.Set, cache.Line. -/
import Derived.Test.YtjckghdgogkeaaaProg
import Derived.WalkKit
import Derived.WalkSpells
import Derived.WalkLawsBesides
import Derived.Lib.Hide
import Derived.Test.YtjckghdgogkeaaaLay3
import Derived.Laws.AppendOwn
import Derived.Deep.QuietTactic
import Derived.Test.YtjckghdgogkeaaaWWords
import Derived.Deep.OwnRows
namespace Go.Proofs.Ytjckghdgogkeaaa
open Go.RowKit
set_option linter.unusedVariables false

/-- Whatever lay in w lies unturned in w'. -/
def Ext (w w' : World) : Prop := Below w.heap.size w w'
theorem Ext.refl (w : World) : Ext w w := Below.refl _ _
theorem Ext.size {w w' : World} (h : Ext w w') : w.heap.size ≤ w'.heap.size := Below.size h
theorem Ext.trans {a b c : World} (h : Ext a b) (k : Ext b c) : Ext a c := Below.trans h (Below.mono k h.size)
theorem Ext.drew {a b : World} (h : Ext a b) : Ext a b.drew := Below.drew h
theorem Ext.drewN {a b : World} (h : Ext a b) (n : Nat) : Ext a (b.drewN n) := by
  unfold Ext at *
  exact ⟨h.os, h.tape, h.output, h.size, h.block⟩
theorem Ext.alloc {a b : World} (h : Ext a b) (o : Obj) : Ext a (b.alloc o) := Below.alloc h h.size o
theorem Ext.setCell {a b : World} (h : Ext a b) {p : Addr} (hp : a.heap.size ≤ p.block) (u : Value) : Ext a (b.setCell p u) := Below.setCell h hp u
/-- (the side goal first) -/
theorem Ext.set1 {a b : World} {g o : Nat} {u : Value} (hp : a.heap.size ≤ g) (h : Ext a b) : Ext a (b.setCell ⟨g, o, none⟩ u) := h.setCell (p := ⟨g, o, none⟩) hp u
theorem Ext.cell {w w' : World} (h : Ext w w') {p : Addr} (hp : p.block < w.heap.size) : w'.cell? p = w.cell? p := Below.cell h hp
theorem Ext.frozen {w w' : World} (h : Ext w w') {p : Addr} (hp : p.block < w.heap.size) : w'.frozen? p = w.frozen? p := Below.frozen h hp
theorem Ext.block {w w' : World} (h : Ext w w') {b : Nat} (hb : b < w.heap.size) : w'.heap[b]? = w.heap[b]? := Below.block h b hb
theorem Ext.cells {W w1 : World} (h : Ext W w1) : (∀ b o, b < W.heap.size → w1.cell? ⟨b, o, none⟩ = W.cell? ⟨b, o, none⟩) ∧ (∀ b o, b < W.heap.size → w1.frozen? ⟨b, o, none⟩ = W.frozen? ⟨b, o, none⟩) :=
  ⟨fun b o hb => h.cell (p := ⟨b, o, none⟩) hb, fun b o hb => h.frozen (p := ⟨b, o, none⟩) hb⟩
theorem Ext.grown {a b c : World} {row : Option Nat} (h : Ext a b) (hg : b.grownBy c row) (hr : ∀ k, row = some k → a.heap.size ≤ k) : Ext a c := Below.grown h hg h.size hr
theorem Ext.toGrown {a b : World} (h : Ext a b) : a.grownBy b none := ⟨h.os, h.tape, h.output, Below.size h, fun i hi _ => h.block hi⟩

/-- A call that hands back whether Q holds. -/
def Says (Q : Prop) (w : World) (e : Ending) (w' : World) : Prop := ∃ r : Bool, (e = .returned (.bool r) ∧ (r = true ↔ Q)) ∧ Ext w w'
theorem Says.yes {Q : Prop} {w w' : World} {e : Ending} (h : Says Q w e w') (q : Q) : e = .returned (.bool true) ∧ Ext w w' := by
  obtain ⟨r, ⟨rfl, hr⟩, hb⟩ := h
  exact ⟨by rw [hr.2 q], hb⟩

/-! ### a block that is known whole -/
/-- Block B of w is o. -/
def Blk (w : World) (B : Nat) (o : Obj) : Prop := w.heap[B]? = some o
theorem Blk.lt {w : World} {B : Nat} {o : Obj} (h : Blk w B o) : B < w.heap.size := (Array.getElem?_eq_some_iff.1 h).1
theorem Blk.new {w : World} {B : Nat} {o : Obj} (hB : B = w.heap.size) : Blk (w.alloc o) B o := by subst hB; exact heap_alloc_new w o
theorem Blk.alloc {w : World} {B : Nat} {o o' : Obj} (h : Blk w B o) : Blk (w.alloc o') B o := (Below.heap_alloc w o' B h.lt).trans h
theorem Blk.ext {w w' : World} {B : Nat} {o : Obj} (h : Blk w B o) (e : Ext w w') : Blk w' B o := (e.block h.lt).trans h
theorem Blk.set1 {w : World} {B g k : Nat} {o : Obj} {u : Value} (hne : B ≠ g) (h : Blk w B o) : Blk (w.setCell ⟨g, k, none⟩ u) B o := (Below.heap_setCell w _ _ _ hne).trans h
theorem Blk.put {w : World} {B k : Nat} {cs : Array Value} {t : TypeId} {u : Value} (h : Blk w B (.cells cs t)) : Blk (w.setCell ⟨B, k, none⟩ u) B (.cells (cs.setIfInBounds k u) t) := by
  unfold Blk at h ⊢
  simp [World.setCell, Array.getElem?_modify, h]
theorem Blk.grown {w w' : World} {B : Nat} {o : Obj} {row : Option Nat} (h : Blk w B o) (hg : w.grownBy w' row) (hne : some B ≠ row) : Blk w' B o := (hg.block B h.lt hne).trans h
theorem Blk.cell {w : World} {B : Nat} {cs : Array Value} {t : TypeId} (h : Blk w B (.cells cs t)) (i : Nat) : w.cell? ⟨B, i, none⟩ = cs[i]? := by
  unfold Blk at h
  simp [World.cell?, h]
theorem Blk.free {w : World} {B : Nat} {cs : Array Value} {t : TypeId} (h : Blk w B (.cells cs t)) (i : Nat) : w.frozen? ⟨B, i, none⟩ = false := by
  unfold Blk at h
  simp [World.frozen?, h]
theorem Blk.c1 {w : World} {B : Nat} {a : Value} {t : TypeId} (h : Blk w B (.cells #[a] t)) : w.cell? ⟨B, 0, none⟩ = some a ∧ w.frozen? ⟨B, 0, none⟩ = false := ⟨h.cell 0, h.free 0⟩
theorem Blk.c3 {w : World} {B : Nat} {a b c : Value} {t : TypeId} (h : Blk w B (.cells #[a, b, c] t)) :
    w.cell? ⟨B, 0, none⟩ = some a ∧ w.cell? ⟨B, 1, none⟩ = some b ∧ w.cell? ⟨B, 2, none⟩ = some c := ⟨h.cell 0, h.cell 1, h.cell 2⟩
theorem Blk.f3 {w : World} {B : Nat} {cs : Array Value} {t : TypeId} (h : Blk w B (.cells cs t)) :
    w.frozen? ⟨B, 0, none⟩ = false ∧ w.frozen? ⟨B, 1, none⟩ = false ∧ w.frozen? ⟨B, 2, none⟩ = false := ⟨h.free 0, h.free 1, h.free 2⟩
theorem Blk.c4 {w : World} {B : Nat} {a b c d : Value} {t : TypeId} (h : Blk w B (.cells #[a, b, c, d] t)) :
    w.cell? ⟨B, 0, none⟩ = some a ∧ w.cell? ⟨B, 1, none⟩ = some b ∧ w.cell? ⟨B, 2, none⟩ = some c ∧ w.cell? ⟨B, 3, none⟩ = some d := ⟨h.cell 0, h.cell 1, h.cell 2, h.cell 3⟩
theorem Blk.f4 {w : World} {B : Nat} {cs : Array Value} {t : TypeId} (h : Blk w B (.cells cs t)) :
    w.frozen? ⟨B, 0, none⟩ = false ∧ w.frozen? ⟨B, 1, none⟩ = false ∧ w.frozen? ⟨B, 2, none⟩ = false ∧ w.frozen? ⟨B, 3, none⟩ = false := ⟨h.free 0, h.free 1, h.free 2, h.free 3⟩
theorem Blk.c5 {w : World} {B : Nat} {a b c d e : Value} {t : TypeId} (h : Blk w B (.cells #[a, b, c, d, e] t)) :
    w.cell? ⟨B, 0, none⟩ = some a ∧ w.cell? ⟨B, 1, none⟩ = some b ∧ w.cell? ⟨B, 2, none⟩ = some c ∧ w.cell? ⟨B, 3, none⟩ = some d ∧ w.cell? ⟨B, 4, none⟩ = some e := ⟨h.cell 0, h.cell 1, h.cell 2, h.cell 3, h.cell 4⟩
theorem Blk.f5 {w : World} {B : Nat} {cs : Array Value} {t : TypeId} (h : Blk w B (.cells cs t)) :
    w.frozen? ⟨B, 0, none⟩ = false ∧ w.frozen? ⟨B, 1, none⟩ = false ∧ w.frozen? ⟨B, 2, none⟩ = false ∧ w.frozen? ⟨B, 3, none⟩ = false ∧ w.frozen? ⟨B, 4, none⟩ = false := ⟨h.free 0, h.free 1, h.free 2, h.free 3, h.free 4⟩

/-! ### the geometry -/
def Pow (n : Int) : Prop := n = 1 ∨ n = 2 ∨ n = 4 ∨ n = 8 ∨ n = 16 ∨ n = 32 ∨ n = 64
instance (n : Int) : Decidable (Pow n) := by unfold Pow; infer_instance
def powB (n most : Int) : Bool := decide (n ≤ most ∧ Pow n)
structure Geo (S W L : Int) : Prop where
  sets : Pow S
  w1 : 1 ≤ W
  w8 : W ≤ 8
  line : Pow L
  l16 : L ≤ 16
def vldB (S W L : Int) : Bool := powB S 64 && (decide (1 ≤ W) && (decide (W ≤ 8) && powB L 16))
theorem vld_iff (S W L : Int) : vldB S W L = true ↔ Geo S W L := by
  unfold vldB powB
  simp only [Bool.and_eq_true, decide_eq_true_eq]
  constructor
  · rintro ⟨⟨_, h1⟩, h2, h3, h4, h5⟩
    exact ⟨h1, h2, h3, h5, h4⟩
  · rintro ⟨h1, h2, h3, h4, h5⟩
    refine ⟨⟨?_, h1⟩, h2, h3, h5, h4⟩
    unfold Pow at h1; omega
theorem Geo.s1 {S W L : Int} (h : Geo S W L) : 1 ≤ S := by have := h.sets; unfold Pow at this; omega
theorem Geo.s64 {S W L : Int} (h : Geo S W L) : S ≤ 64 := by have := h.sets; unfold Pow at this; omega
theorem Geo.l1 {S W L : Int} (h : Geo S W L) : 1 ≤ L := by have := h.line; unfold Pow at this; omega

theorem pow_bits (n : Int) (h1 : 1 ≤ n) (h2 : n ≤ 64) : (bits BinOp.and IntKind.i64 n (n - 1) == 0) = decide (Pow n) := by
  have key : ∀ m : Fin 65, 1 ≤ m.val → (bits BinOp.and IntKind.i64 (m.val : Int) ((m.val : Int) - 1) == 0) = decide (Pow (m.val : Int)) := by decide +kernel
  have := key ⟨n.toNat, by omega⟩ (by show 1 ≤ n.toNat; omega)
  have e : ((n.toNat : Nat) : Int) = n := by omega
  simp only [e] at this
  exact this

set_option maxHeartbeats 400000 in
theorem power_any (n most : Int) (w : World) (hm : most ≤ 64) :
    Calls Try.prog 45 #[.int .i64 n, .int .i64 most] w fun e w' => e = .returned (.bool (powB n most)) ∧ w = w' := by
  by_cases h1 : 1 ≤ n
  · by_cases h2 : n ≤ most
    · have hb := pow_bits n h1 (by omega)
      have hf : powB n most = decide (Pow n) := by unfold powB; simp [h2]
      have HF := Lib.hid hf; clear hf
      go_enter Try.func45, Try.ntmps45
      go_wp2
      go_ret
      exact ⟨by rw [HF.out]; rfl, rfl⟩
    · have hf : powB n most = false := by unfold powB; simp; omega
      have HF := Lib.hid hf; clear hf
      go_enter Try.func45, Try.ntmps45
      go_wp2
      go_ret
      exact ⟨by rw [HF.out]; rfl, rfl⟩
  · have hf : powB n most = false := by
      unfold powB Pow; simp; omega
    have HF := Lib.hid hf; clear hf
    go_enter Try.func45, Try.ntmps45
    go_wp2
    go_ret
    exact ⟨by rw [HF.out]; rfl, rfl⟩
end Go.Proofs.Ytjckghdgogkeaaa

namespace Go.Proofs.Ytjckghdgogkeaaa
open Go.RowKit
set_option linter.unusedVariables false

abbrev geoV (S W L : Int) : Value := .agg #[.int .i64 S, .int .i64 W, .int .i64 L]

set_option maxHeartbeats 400000 in
theorem valid_any (S W L : Int) (w : World) :
    Calls Try.prog 30 #[.agg #[.int .i64 S, .int .i64 W, .int .i64 L]] w fun e w' => e = .returned (.bool (vldB S W L)) ∧ Ext w w' := by
  have hf : vldB S W L = (powB S 64 && (decide (1 ≤ W) && (decide (W ≤ 8) && powB L 16))) := rfl
  have HF := Lib.hid hf; clear hf
  go_enter Try.func30, Try.ntmps30
  go_wp2_with (go_at_call 45; refine (power_any _ _ _ (by omega)).mono ?_; rintro e w' ⟨rfl, rfl⟩)
  all_goals
    go_ret
    exact ⟨by rw [HF.out]; first | (simp [*]; done) | (simp [*]; intros; omega), (Ext.refl _).alloc _⟩

theorem valid_yes {S W L : Int} (h : Geo S W L) (w : World) :
    Calls Try.prog 30 #[.agg #[.int .i64 S, .int .i64 W, .int .i64 L]] w fun e w' => e = .returned (.bool true) ∧ Ext w w' := by
  have := valid_any S W L w
  rw [(vld_iff S W L).2 h] at this
  exact this

set_option maxHeartbeats 400000 in
theorem set_yes {S W L : Int} (h : Geo S W L) (x : Int) (hx : 0 ≤ x) (w : World) :
    Calls Try.prog 46 #[.agg #[.int .i64 S, .int .i64 W, .int .i64 L], .int .i64 x] w fun e w' => e = .returned (.int .i64 (x % S)) ∧ Ext w w' := by
  have hs := h.s1
  have hs6 := h.s64
  go_enter Try.func46, Try.ntmps46
  go_wp2_with (go_at_call 30; refine (valid_yes h _).mono ?_; rintro e w1 ⟨rfl, hb1⟩; obtain ⟨hc1, hf1⟩ := hb1.cells)
  go_ret
  exact ⟨rfl, ((Ext.refl _).alloc _).trans hb1⟩

set_option maxHeartbeats 400000 in
theorem line_yes {S W L : Int} (h : Geo S W L) (x : Int) (hx : 0 ≤ x) (hx2 : x ≤ 2000000) (w : World) :
    Calls Try.prog 39 #[.agg #[.int .i64 S, .int .i64 W, .int .i64 L], .int .i64 x] w fun e w' => e = .returned (.int .i64 (x / L)) ∧ Ext w w' := by
  have hs := h.l1
  have hs6 := h.l16
  go_enter Try.func39, Try.ntmps39
  go_wp2_with (go_at_call 30; refine (valid_yes h _).mono ?_; rintro e w1 ⟨rfl, hb1⟩; obtain ⟨hc1, hf1⟩ := hb1.cells)
  go_ret
  exact ⟨rfl, ((Ext.refl _).alloc _).trans hb1⟩
end Go.Proofs.Ytjckghdgogkeaaa

namespace Go.Proofs.Ytjckghdgogkeaaa
open Go.RowKit
set_option linter.unusedVariables false

/-- Only blocks of F have turned, and new ones have come. -/
structure Fr (F : Nat → Prop) (w w' : World) : Prop where
  os : w'.os = w.os
  tape : w'.tape = w.tape
  output : w'.output = w.output
  size : w.heap.size ≤ w'.heap.size
  block : ∀ k, k < w.heap.size → ¬ F k → w'.heap[k]? = w.heap[k]?

section
variable {F G : Nat → Prop} {a w w' w'' : World}
theorem Fr.refl (F : Nat → Prop) (w : World) : Fr F w w := ⟨rfl, rfl, rfl, Nat.le_refl _, fun _ _ _ => rfl⟩
theorem Fr.trans (h : Fr F w w') (k : Fr F w' w'') : Fr F w w'' :=
  ⟨k.os.trans h.os, k.tape.trans h.tape, k.output.trans h.output, Nat.le_trans h.size k.size, fun i hi hF => (k.block i (Nat.lt_of_lt_of_le hi h.size) hF).trans (h.block i hi hF)⟩
theorem Fr.mono (h : Fr F w w') (hFG : ∀ k, k < w.heap.size → F k → G k) : Fr G w w' :=
  ⟨h.os, h.tape, h.output, h.size, fun k hk hG => h.block k hk fun hF => hG (hFG k hk hF)⟩
theorem Fr.ofExt (F : Nat → Prop) (h : Ext w w') : Fr F w w' := ⟨h.os, h.tape, h.output, h.size, fun k hk _ => h.block hk⟩
theorem Fr.ext (h : Fr F w w') (k : Ext w' w'') : Fr F w w'' := h.trans (Fr.ofExt F k)
theorem Fr.drew (h : Fr F w w') : Fr F w w'.drew := ⟨h.os, h.tape, h.output, h.size, h.block⟩
theorem Fr.drewN (h : Fr F w w') (n : Nat) : Fr F w (w'.drewN n) := ⟨h.os, h.tape, h.output, h.size, h.block⟩
theorem Fr.alloc (h : Fr F w w') (o : Obj) : Fr F w (w'.alloc o) := h.ext ((Ext.refl _).alloc o)
theorem Fr.setCell (h : Fr F w w') {b o : Nat} {u : Value} (hb : F b) : Fr F w (w'.setCell ⟨b, o, none⟩ u) :=
  h.trans ⟨rfl, rfl, rfl, by simp [World.setCell], fun k hk hF => Below.heap_setCell w' _ _ _ (fun e => hF (e ▸ hb))⟩
theorem Fr.setNew (h : Fr F w w') {b o : Nat} {u : Value} (hb : w.heap.size ≤ b) : Fr F w (w'.setCell ⟨b, o, none⟩ u) :=
  ⟨h.os, h.tape, h.output, by simpa [World.setCell] using h.size, fun k hk hF => (Below.heap_setCell w' _ _ _ (by show k ≠ b; omega)).trans (h.block k hk hF)⟩
theorem Fr.setCells {b : Nat} (hb : F b) : ∀ (vs : List Value) (o : Nat) {w' : World}, Fr F w w' → Fr F w (w'.setCells b o vs)
  | [], _, _, h => h
  | _ :: vs, o, _, h => Fr.setCells hb vs (o + 1) (h.setCell hb)
theorem Fr.newCells {b : Nat} (hb : w.heap.size ≤ b) : ∀ (vs : List Value) (o : Nat) {w' : World}, Fr F w w' → Fr F w (w'.setCells b o vs)
  | [], _, _, h => h
  | _ :: vs, o, _, h => Fr.newCells hb vs (o + 1) (h.setNew hb)
theorem Ext.fr (h : Ext a w) (f : Fr F w w') (hF : ∀ k, F k → a.heap.size ≤ k) : Ext a w' :=
  ⟨f.os.trans h.os, f.tape.trans h.tape, f.output.trans h.output, Nat.le_trans h.size f.size, fun k hk => (f.block k (Nat.lt_of_lt_of_le hk h.size) (fun e => by have := hF k e; omega)).trans (h.block hk)⟩
theorem Blk.fr {B : Nat} {o : Obj} (h : Blk w B o) (f : Fr F w w') (hB : ¬ F B) : Blk w' B o := (f.block B h.lt hB).trans h
end

theorem Blk.setCells {b : Nat} {t : TypeId} : ∀ (vs : List Value) (o : Nat) (w : World) (cs : Array Value), Blk w b (.cells cs t) → ∃ cs' : Array Value, Blk (w.setCells b o vs) b (.cells cs' t) ∧ cs'.size = cs.size ∧
    (∀ j, j < cs.size → cs'[j]? = if o ≤ j ∧ j < o + vs.length then vs[j - o]? else cs[j]?)
  | [], o, w, cs, h => ⟨cs, h, rfl, fun j _ => by rw [if_neg]; rintro ⟨a, b⟩; simp at b; omega⟩
  | v :: vs, o, w, cs, h => by
    obtain ⟨cs', h1, h2, h3⟩ := Blk.setCells vs (o + 1) _ _ (h.put (k := o) (u := v))
    have h2' : cs'.size = cs.size := by simpa using h2
    refine ⟨cs', h1, h2', fun j hj => ?_⟩
    rw [h3 j (by simpa using hj)]
    simp only [List.length_cons]
    by_cases e : j = o
    · subst e
      rw [if_neg (by omega), if_pos (by omega), Nat.sub_self]
      simp [hj]
    · by_cases h4 : o + 1 ≤ j ∧ j < o + 1 + vs.length
      · rw [if_pos h4, if_pos (by omega)]
        obtain ⟨m, rfl⟩ : ∃ m, j = o + 1 + m := ⟨j - (o + 1), by omega⟩
        rw [show o + 1 + m - (o + 1) = m by omega, show o + 1 + m - o = m + 1 by omega]
        rfl
      · rw [if_neg h4, if_neg (by omega), Array.getElem?_setIfInBounds, if_neg (by omega)]

/-- The slice v owns a row of the numbers r. -/
def RowB (w : World) (base : Nat) (v : Value) (r : List Int) : Prop := w.ownsRow base 3 1 v r.length (r.map (Value.int .i64))

theorem RowB.nil (w : World) (base : Nat) : RowB w base (.slice none 0 0) [] := World.ownsRow_nil _ _ _ _
theorem RowB.cases {w : World} {base : Nat} {v : Value} {r : List Int} (h : RowB w base v r) : (v = .slice none 0 0 ∧ r = []) ∨
    ∃ g cap, ∃ cur : Array Value, v = .slice (some ⟨g, 0, none⟩) r.length cap ∧ base ≤ g ∧ Blk w g (.cells cur 3) ∧ r.length ≤ cap ∧ cap ≤ 9223372036854775807 ∧ cur.size = cap ∧ (∀ j, j < r.length → cur[j]? = some (.int .i64 (r.getD j 0))) := by
  rcases h.2 with ⟨rfl, h0⟩ | ⟨g, cap, cur, rfl, hb, hg, hn, hc, hs, ht⟩
  · exact .inl ⟨rfl, List.length_eq_zero_iff.1 h0⟩
  · refine .inr ⟨g, cap, cur, rfl, hb, hg, hn, ?_, by simpa using hs, fun j hj => ?_⟩
    · unfold maxLen at hc; omega
    · have e : (cur.toList.take (r.length * 1))[j]? = (r.map (Value.int .i64))[j]? := by rw [ht]
      rw [List.getElem?_take, if_pos (by omega), Array.getElem?_toList] at e
      rw [e, List.getElem?_map, List.getElem?_eq_getElem hj]
      simp [List.getD, hj]
theorem RowB.intro {w : World} {base g cap : Nat} {cur : Array Value} {r : List Int} (hb : base ≤ g) (hB : Blk w g (.cells cur 3)) (hn : r.length ≤ cap) (hc : cap ≤ 9223372036854775807) (hs : cur.size = cap) (ht : ∀ j, j < r.length → cur[j]? = some (.int .i64 (r.getD j 0))) :
    RowB w base (.slice (some ⟨g, 0, none⟩) r.length cap) r := by
  refine ⟨by simp, .inr ⟨g, cap, cur, rfl, hb, hB, hn, by unfold maxLen; omega, by simpa using hs, ?_⟩⟩
  refine List.ext_getElem? fun j => ?_
  rw [List.getElem?_take]
  by_cases hj : j < r.length
  · rw [if_pos (by omega), Array.getElem?_toList, ht j hj, List.getElem?_map, List.getElem?_eq_getElem hj]
    simp [List.getD, hj]
  · rw [if_neg (by omega), List.getElem?_eq_none (by simp; omega)]
theorem RowB.lt {w : World} {base : Nat} {v : Value} {r : List Int} (h : RowB w base v r) : ∀ k, v.ownBlock = some k → base ≤ k ∧ k < w.heap.size := World.ownsRow.lt h
theorem RowB.fr {w w' : World} {base : Nat} {v : Value} {r : List Int} {F : Nat → Prop} (h : RowB w base v r) (f : Fr F w w') (hF : ∀ k, v.ownBlock = some k → ¬ F k) : RowB w' base v r := by
  refine ⟨h.1, ?_⟩
  rcases h.2 with ⟨rfl, h0⟩ | ⟨g, cap, cur, rfl, hb, hg, hr⟩
  · exact .inl ⟨rfl, h0⟩
  · exact .inr ⟨g, cap, cur, rfl, hb, Blk.fr (B := g) hg f (hF g rfl), hr⟩
theorem RowB.ext {w w' : World} {base : Nat} {v : Value} {r : List Int} (h : RowB w base v r) (f : Ext w w') : RowB w' base v r := h.fr (F := fun _ => False) (Fr.ofExt _ f) fun _ _ h => h
theorem RowB.lower {w : World} {base base' : Nat} {v : Value} {r : List Int} (h : RowB w base v r) (hb : base' ≤ base) : RowB w base' v r := by
  refine ⟨h.1, ?_⟩
  rcases h.2 with ⟨rfl, h0⟩ | ⟨g, cap, cur, rfl, hg, hr⟩
  · exact .inl ⟨rfl, h0⟩
  · exact .inr ⟨g, cap, cur, rfl, Nat.le_trans hb hg, hr⟩
theorem RowB.kind {w : World} {base : Nat} {v : Value} {r : List Int} (h : RowB w base v r) (k : Nat) (hk : v.ownBlock = some k) : ∃ cs, Blk w k (.cells cs 3) := by
  rcases h.cases with ⟨rfl, _⟩ | ⟨g, cap, cur, rfl, _, hB, _⟩
  · cases hk
  · cases hk; exact ⟨cur, hB⟩
theorem RowB.slice {w : World} {base : Nat} {v : Value} {r : List Int} (h : RowB w base v r) : ∃ A c, v = .slice A r.length c ∧ r.length ≤ c := by
  rcases h.cases with ⟨rfl, rfl⟩ | ⟨g, cap, cur, rfl, _, _, hn, _⟩
  · exact ⟨none, 0, rfl, Nat.le_refl _⟩
  · exact ⟨_, _, rfl, hn⟩

/-! ### the four functions of slices -/
theorem row_index {w : World} {base : Nat} {v : Value} {r : List Int} (h : RowB w base v r) (x : Int) (hr : r.length ≤ 1000) :
    Calls Try.prog 48 #[v, .int .i64 x] w fun e w' => e = .returned (.int .i64 (Lib.idxOf r x)) ∧ w' = w := by
  rcases h.cases with ⟨rfl, rfl⟩ | ⟨g, cap, cur, rfl, hb, hB, hn, hc, hs, ht⟩
  · exact Any.slices_Index_int_empty Try.indexL none 0 x w
  · have := Any.slices_Index_int Try.indexL g 0 r.length cap r x w (Nat.le_refl _) (by omega) fun j hj => by rw [Nat.zero_add, hB.cell]; exact ht j hj
    rw [List.take_length] at this
    exact this

theorem row_delete {w : World} {base : Nat} {v : Value} {r : List Int} (h : RowB w base v r) (k : Nat) (hk : k < r.length) :
    Calls Try.prog 49 #[v, .int .i64 (k : Int), .int .i64 ((k + 1 : Nat) : Int)] w fun e w' => ∃ v', e = .returned v' ∧ RowB w' base v' (r.eraseIdx k) ∧ v'.ownBlock = v.ownBlock ∧ Fr (fun j => v.ownBlock = some j) w w' := by
  rcases h.cases with ⟨rfl, rfl⟩ | ⟨g, cap, cur, rfl, hb, hB, hn, hc, hs, ht⟩
  · exact absurd hk (Nat.not_lt_zero _)
  · have := Any.slices_Delete_int_cells Try.deleteL g 0 r.length cap k (k + 1) r w (Nat.le_refl _) hn hc (by omega) (by omega) (fun j hj => by rw [Nat.zero_add, hB.cell]; exact ht j hj) (fun j hj => hB.free _)
    refine this.mono ?_
    rintro e w' ⟨rfl, q, rfl⟩
    rw [List.take_length]
    have hB' : Blk (w.drewN q) g (.cells cur 3) := hB
    obtain ⟨cs', h1, h2, h3⟩ := Blk.setCells ((r.take k ++ r.drop (k + 1) ++ List.replicate (k + 1 - k) 0).map (Value.int .i64)) 0 _ _ hB'
    have hl : (r.eraseIdx k).length = r.length - (k + 1 - k) := by rw [List.length_eraseIdx, if_pos hk]; omega
    refine ⟨_, rfl, ?_, rfl, Fr.setCells (by rfl) _ _ ((Fr.refl _ _).drewN q)⟩
    rw [← hl]
    refine RowB.intro hb h1 (by omega) hc (by omega) fun j hj => ?_
    have e1 : r.take k ++ r.drop (k + 1) = r.eraseIdx k := (List.eraseIdx_eq_take_drop_succ r k).symm
    rw [e1] at h3
    rw [h3 j (by omega), if_pos (by simp; omega), List.getElem?_map, Nat.sub_zero, List.getElem?_append_left hj, List.getElem?_eq_getElem hj]
    simp [List.getD, hj]

theorem insT : Try.insertL_ren.t 3 = 3 := rfl
theorem row_insert {w : World} {base : Nat} {v : Value} {r : List Int} {x : Int} {vb : Nat} (h : RowB w base v r) (hv : Blk w vb (.cells #[.int .i64 x] 3)) (hne : v.ownBlock ≠ some vb) (hr : r.length ≤ 1000) (hbw : base ≤ w.heap.size) :
    Calls Try.prog 50 #[v, .int .i64 0, .slice (some ⟨vb, 0, none⟩) 1 1] w fun e w' => ∃ v', e = .returned v' ∧ RowB w' base v' (x :: r) ∧ (v'.ownBlock = v.ownBlock ∨ v'.ownBlock = some w.heap.size) ∧ Fr (fun j => v.ownBlock = some j) w w' := by
  have hvs : ∀ j u, [Value.int .i64 x][j]? = some u → w.cell? ⟨vb, 0 + j, none⟩ = some u := fun j u hj => by
    rw [Nat.zero_add, hv.cell]
    cases j with
    | zero => simpa using hj
    | succ j => simp at hj
  have h1v : ∀ u ∈ [Value.int .i64 x], u.oneCell' = true := fun u hu => by simp at hu; subst hu; rfl
  rcases h.cases with ⟨rfl, rfl⟩ | ⟨g, cap, cur, rfl, hb, hB, hn, hc, hs, ht⟩
  · have := Any2.slices_Insert_int_end_grow Try.insertL none 0 0 vb 0 1 1 [] [Value.int .i64 x] w (by omega) (by omega) (by omega) (by omega) rfl rfl (fun _ => rfl) (fun a ha => by cases ha) hvs h1v
    rw [insT] at this
    refine Calls.mono this ?_
    rintro e w' ⟨rfl, rfl⟩
    have hge := grownCap_ge w (0 + 1) 0 3
    have hle := grownCap_le_maxLen w (0 + 1) 0 3 (by unfold maxLen; omega)
    refine ⟨_, rfl, RowB.intro (r := [x]) (by simpa using hbw) (Blk.new rfl) hge (by unfold maxLen at hle; omega) ?_ ?_, .inr rfl, (Fr.refl _ _).drew.alloc _⟩
    · have hge2 : 1 ≤ grownCap w 1 0 3 := hge
      simp [Builtin.zeroCells, Value.cells]; omega
    · intro j hj
      have : j = 0 := by simp at hj; exact hj
      subst this
      simp [Array.getElem?_append]
  · have hgv : g ≠ vb := fun e => hne (by rw [e]; rfl)
    have hgl := hB.lt
    have hcs : ∀ j u, (r.map (Value.int .i64))[j]? = some u → w.cell? ⟨g, 0 + j, none⟩ = some u := fun j u hj => by
      rw [Nat.zero_add, hB.cell]
      have hjr : j < r.length := by have := (List.getElem?_eq_some_iff.1 hj).1; simpa using this
      rw [ht j hjr]
      rw [List.getElem?_map, List.getElem?_eq_getElem hjr] at hj
      simpa [List.getD, hjr] using hj
    have h1c : ∀ u ∈ r.map (Value.int .i64), u.oneCell' = true := fun u hu => by obtain ⟨y, _, rfl⟩ := List.mem_map.1 hu; rfl
    have hsp : ∀ j, j < cap → (w.cell? ⟨g, 0 + j, none⟩).isSome = true := fun j hj => by rw [Nat.zero_add, hB.cell, Array.getElem?_eq_getElem (by omega)]; rfl
    by_cases hroom : r.length + 1 ≤ cap
    · have key : ∃ w2 : World, Calls Try.prog 50 #[.slice (some ⟨g, 0, none⟩) r.length cap, .int .i64 0, .slice (some ⟨vb, 0, none⟩) 1 1] w (fun e w' => e = .returned (.slice (some ⟨g, 0, none⟩) (r.length + 1) cap) ∧ w' = w2) ∧ Fr (fun j => some g = some j) w w2 ∧
          ∃ cs', Blk w2 g (.cells cs' 3) ∧ cs'.size = cap ∧ ∀ j, j < r.length + 1 → cs'[j]? = some (.int .i64 ((x :: r).getD j 0)) := by
        by_cases h0 : r = []
        · subst h0
          have k0 := Any2.slices_Insert_int_end_room Try.insertL g 0 0 cap vb 0 1 1 [Value.int .i64 x] w (by omega) hroom hc rfl (fun j hj => by have := hsp j (by simp at hroom; omega); simpa using this) (fun j _ => hB.free _) hvs h1v
          refine ⟨_, k0, Fr.setCells (F := fun j => some g = some j) rfl _ _ (Fr.refl _ _), ?_⟩
          obtain ⟨cs', h1, h2, h3⟩ := Blk.setCells [Value.int .i64 x] (0 + 0) _ _ hB
          refine ⟨cs', h1, h2.trans hs, fun j hj => ?_⟩
          have : j = 0 := by simp at hj; exact hj
          subst this
          rw [h3 0 (by simp at hroom; omega)]
          simp
        · have hpos : 0 < r.length := List.length_pos_iff.2 h0
          have k0 := Any2.slices_Insert_int_shift Try.insertL g 0 r.length cap 0 vb 0 1 1 (r.map (Value.int .i64)) [Value.int .i64 x] w hpos (by omega) hroom hc (Ne.symm hgv) (by simp) rfl hcs (fun j hj => hsp j (by omega)) (fun j _ => hB.free _) hvs h1c h1v 3 3 1 cap
            (by have : w.heap[vb]? = _ := hv; simp [World.shape?, this]) (by have : w.heap[g]? = _ := hB; simp [World.shape?, this, hs]) (by omega) (hv.free _) (hv.free _)
          refine ⟨_, k0, Fr.setCells (F := fun j => some g = some j) rfl _ _ (Fr.setCells (F := fun j => some g = some j) rfl _ _ (Fr.refl _ _).drew), ?_⟩
          have hB' : Blk w.drew g (.cells cur 3) := hB
          obtain ⟨cs1, a1, a2, a3⟩ := Blk.setCells ((r.map (Value.int .i64)).drop 0) (0 + (0 + 1)) _ _ hB'
          obtain ⟨cs2, b1, b2, b3⟩ := Blk.setCells [Value.int .i64 x] (0 + 0) _ _ a1
          refine ⟨cs2, b1, by omega, fun j hj => ?_⟩
          rw [b3 j (by omega)]
          cases j with
          | zero => simp
          | succ j =>
            rw [if_neg (by simp), a3 _ (by omega), if_pos (by simp; omega), show j + 1 - (0 + (0 + 1)) = j by omega]
            have hj' : j < r.length := by omega
            simp [List.getD, hj']
      obtain ⟨w2, k1, k2, cs', k3, k4, k5⟩ := key
      refine k1.mono ?_
      rintro e w' ⟨rfl, rfl⟩
      exact ⟨_, rfl, RowB.intro (r := x :: r) hb k3 hroom hc k4 k5, .inl rfl, k2⟩
    · have hge := grownCap_ge w (r.length + 1) cap 3
      have hle := grownCap_le_maxLen w (r.length + 1) cap 3 (by unfold maxLen; omega)
      have key : ∃ w2 : World, Calls Try.prog 50 #[.slice (some ⟨g, 0, none⟩) r.length cap, .int .i64 0, .slice (some ⟨vb, 0, none⟩) 1 1] w (fun e w' => e = .returned (.slice (some ⟨w.heap.size, 0, none⟩) (r.length + 1) (grownCap w (r.length + 1) cap 3)) ∧ w' = w2) ∧ Fr (fun j => some g = some j) w w2 ∧
          ∃ cs', Blk w2 w.heap.size (.cells cs' 3) ∧ cs'.size = grownCap w (r.length + 1) cap 3 ∧ ∀ j, j < r.length + 1 → cs'[j]? = some (.int .i64 ((x :: r).getD j 0)) := by
        by_cases h0 : r = []
        · subst h0
          have k0 := Any2.slices_Insert_int_end_grow Try.insertL (some ⟨g, 0, none⟩) 0 cap vb 0 1 1 [] [Value.int .i64 x] w (by omega) (by omega) (by simp at hroom; omega) (by omega) rfl rfl (fun _ => rfl) (fun a _ j u hj => by simp at hj) hvs h1v
          rw [insT] at k0
          refine ⟨_, k0, (Fr.refl _ _).drew.alloc _, _, Blk.new rfl, ?_, ?_⟩
          · simp [Builtin.zeroCells, Value.cells]
            have : 1 ≤ grownCap w 1 cap 3 := hge
            omega
          · intro j hj
            have : j = 0 := by simp at hj; exact hj
            subst this
            simp [Array.getElem?_append]
        · have hpos : 0 < r.length := List.length_pos_iff.2 h0
          have k0 := Any2.slices_Insert_int_grow Try.insertL g 0 r.length cap 0 vb 0 1 1 (r.map (Value.int .i64)) [Value.int .i64 x] w hpos (by omega) hn (by omega) (by omega) (by simp) rfl hcs hvs h1c h1v
          rw [insT] at k0
          refine ⟨_, k0, Fr.newCells (Nat.le_refl _) _ _ (Fr.newCells (Nat.le_refl _) _ _ ((Fr.refl _ _).alloc _).drew).drew, ?_⟩
          obtain ⟨G, hG⟩ : ∃ G, G = grownCap w (r.length + 1) cap 3 := ⟨_, rfl⟩
          obtain ⟨CS, hCS⟩ : ∃ CS : Array Value, CS = (((r.map (Value.int .i64)).take 0).toArray ++ Builtin.zeroCells (Value.int .i64 0).cells (r.length + 1 - 0) ++ Builtin.zeroCells (Value.int .i64 0).cells (G - (r.length + 1))) := ⟨_, rfl⟩
          have hsz : CS.size = G := by
            rw [hCS]
            simp [Builtin.zeroCells, Value.cells]
            omega
          have hB' : Blk (w.alloc (.cells CS 3)).drew w.heap.size (.cells CS 3) := Blk.new (w := w) rfl
          obtain ⟨cs1, a1, a2, a3⟩ := Blk.setCells [Value.int .i64 x] 0 _ _ hB'
          have a1' : Blk ((w.alloc (.cells CS 3)).drew.setCells w.heap.size 0 [Value.int .i64 x]).drew w.heap.size (.cells cs1 3) := a1
          obtain ⟨cs2, b1, b2, b3⟩ := Blk.setCells ((r.map (Value.int .i64)).drop 0) (0 + 1) _ _ a1'
          rw [← hG]
          refine ⟨cs2, by rw [hCS] at b1; exact b1, by omega, fun j hj => ?_⟩
          rw [b3 j (by omega)]
          cases j with
          | zero =>
            rw [if_neg (by omega), a3 0 (by omega)]
            simp
          | succ j =>
            have hj' : j < r.length := by omega
            rw [if_pos (by simp; omega), show j + 1 - (0 + 1) = j by omega]
            simp [List.getD, hj']
      obtain ⟨w2, k1, k2, cs', k3, k4, k5⟩ := key
      refine k1.mono ?_
      rintro e w' ⟨rfl, rfl⟩
      exact ⟨_, rfl, RowB.intro (r := x :: r) hbw k3 (by simpa using hge) (by unfold maxLen at hle; omega) k4 k5, .inr rfl, k2⟩

theorem row_clone {w : World} {base : Nat} {v : Value} {r : List Int} (h : RowB w base v r) (hr : r.length ≤ 1000) :
    Calls Try.prog 41 #[v] w fun e w' => ∃ v', e = .returned v' ∧ RowB w' w.heap.size v' r ∧ Ext w w' := by
  rcases h.cases with ⟨rfl, rfl⟩ | ⟨g, cap, cur, rfl, hb, hB, hn, hc, hs, ht⟩
  · refine (Any.slices_Clone_int_nil Try.scloneL 0 0 w).mono ?_
    rintro e w' ⟨rfl, rfl⟩
    exact ⟨_, rfl, RowB.nil _ _, Ext.refl _⟩
  · by_cases h0 : r = []
    · subst h0
      refine (Any.slices_Clone_int_zero Try.scloneL ⟨g, 0, none⟩ cap w).mono ?_
      rintro e w' ⟨v', rfl, h1, _, h2⟩
      exact ⟨v', rfl, h1, h2⟩
    · refine (Any.slices_Clone_int Try.scloneL g 0 r.length cap r w (Nat.le_refl _) (by omega) fun j hj => by rw [Nat.zero_add, hB.cell]; exact ht j hj).mono ?_
      rintro e w' ⟨v', rfl, h1, _, h2⟩
      rw [List.take_length] at h1
      exact ⟨v', rfl, h1, h2⟩
end Go.Proofs.Ytjckghdgogkeaaa

namespace Go.Proofs.Ytjckghdgogkeaaa
open Go.RowKit
set_option linter.unusedVariables false

abbrev cachO (S W L : Int) (g : Nat) : Obj := .cells #[.int .i64 S, .int .i64 W, .int .i64 L, .slice (some ⟨g, 0, none⟩) S.toNat S.toNat] 77
/-- Block q is a cache; g: the slices of its rows; vs: what g holds; F: the blocks that an access may turn. -/
structure CaP (w : World) (base q : Nat) (S W L : Int) (F : Nat → Prop) (g : Nat) (vs : List Value) (rows : List (List Int)) : Prop where
  hq : base ≤ q
  kq : Blk w q (cachO S W L g)
  kg : Blk w g (.cells vs.toArray 28)
  fg : F g
  lenv : vs.length = S.toNat
  lenr : rows.length = S.toNat
  row : ∀ (i : Nat) (v : Value) (r : List Int), vs[i]? = some v → rows[i]? = some r → RowB w base v r ∧ ∀ k, v.ownBlock = some k → F k
  apart : ∀ (i j k : Nat) (v v' : Value), vs[i]? = some v → vs[j]? = some v' → v.ownBlock = some k → v'.ownBlock = some k → i = j
  foot : ∀ k, F k → base ≤ k ∧ k < w.heap.size ∧ ∃ (cs : Array Value) (t : TypeId), Blk w k (.cells cs t) ∧ (t = 3 ∨ t = 28)
def CaB (w : World) (base q : Nat) (S W L : Int) (F : Nat → Prop) (rows : List (List Int)) : Prop := ∃ g vs, CaP w base q S W L F g vs rows

section
variable {w w' : World} {base q g : Nat} {S W L : Int} {F : Nat → Prop} {vs : List Value} {rows : List (List Int)}
/-- A block of another kind is not among those that an access turns. -/
theorem CaP.out (h : CaP w base q S W L F g vs rows) {k : Nat} {o : Obj} (hk : Blk w k o) (ho : ∀ cs, o ≠ .cells cs 3 ∧ o ≠ .cells cs 28) : ¬ F k := fun hF => by
  obtain ⟨_, _, cs, t, hb, ht⟩ := h.foot k hF
  unfold Blk at hk hb
  rw [hk] at hb
  cases hb
  rcases ht with rfl | rfl
  · exact (ho cs).1 rfl
  · exact (ho cs).2 rfl
theorem cells_ne {cs : Array Value} {t : TypeId} (h1 : t ≠ 3) (h2 : t ≠ 28) : ∀ ds, Obj.cells cs t ≠ .cells ds 3 ∧ Obj.cells cs t ≠ .cells ds 28 := fun ds => ⟨fun e => by cases e; exact h1 rfl, fun e => by cases e; exact h2 rfl⟩
theorem CaP.fq (h : CaP w base q S W L F g vs rows) : ¬ F q := h.out h.kq (cells_ne (by decide) (by decide))
theorem Blk.agree {B : Nat} {o o' : Obj} (h : Blk w B o) (k : Blk w B o') : o = o' := by unfold Blk at h k; rw [h] at k; exact Option.some.inj k
theorem CaP.fr {G : Nat → Prop} (h : CaP w base q S W L F g vs rows) (f : Fr G w w') (hG : ∀ k, F k → ¬ G k) (hq : ¬ G q) : CaP w' base q S W L F g vs rows :=
  ⟨h.hq, h.kq.fr f hq, h.kg.fr f (hG g h.fg), h.fg, h.lenv, h.lenr, fun i v r hv hr => ⟨(h.row i v r hv hr).1.fr f (fun k hk => hG k ((h.row i v r hv hr).2 k hk)), (h.row i v r hv hr).2⟩, h.apart, fun k hk => by
    obtain ⟨h1, h2, cs, t, hb, ht⟩ := h.foot k hk
    exact ⟨h1, Nat.lt_of_lt_of_le h2 f.size, cs, t, hb.fr f (hG k hk), ht⟩⟩
theorem CaP.ext (h : CaP w base q S W L F g vs rows) (f : Ext w w') : CaP w' base q S W L F g vs rows := h.fr (G := fun _ => False) (Fr.ofExt _ f) (fun _ _ h => h) (fun h => h)
theorem CaB.ext (h : CaB w base q S W L F rows) (f : Ext w w') : CaB w' base q S W L F rows := by obtain ⟨g, vs, h⟩ := h; exact ⟨g, vs, h.ext f⟩
theorem CaB.fr {G : Nat → Prop} (h : CaB w base q S W L F rows) (f : Fr G w w') (hG : ∀ k, F k → ¬ G k) (hq : ¬ G q) : CaB w' base q S W L F rows := by obtain ⟨g, vs, h⟩ := h; exact ⟨g, vs, h.fr f hG hq⟩
theorem CaB.lower {base' : Nat} (h : CaB w base q S W L F rows) (hb : base' ≤ base) : CaB w base' q S W L F rows := by
  obtain ⟨g, vs, h⟩ := h
  exact ⟨g, vs, Nat.le_trans hb h.hq, h.kq, h.kg, h.fg, h.lenv, h.lenr, fun i v r hv hr => ⟨(h.row i v r hv hr).1.lower hb, (h.row i v r hv hr).2⟩, h.apart, fun k hk => ⟨Nat.le_trans hb (h.foot k hk).1, (h.foot k hk).2⟩⟩
theorem CaB.fromB (h : CaB w base q S W L F rows) : ∀ k, F k → base ≤ k := by obtain ⟨g, vs, h⟩ := h; exact fun k hk => (h.foot k hk).1
theorem CaB.lt (h : CaB w base q S W L F rows) : ∀ k, F k → k < w.heap.size := by obtain ⟨g, vs, h⟩ := h; exact fun k hk => (h.foot k hk).2.1
theorem CaB.out (h : CaB w base q S W L F rows) {k : Nat} {o : Obj} (hk : Blk w k o) (ho : ∀ cs, o ≠ .cells cs 3 ∧ o ≠ .cells cs 28) : ¬ F k := by obtain ⟨g, vs, h⟩ := h; exact h.out hk ho
theorem CaB.fq (h : CaB w base q S W L F rows) : ¬ F q := by obtain ⟨g, vs, h⟩ := h; exact h.fq
theorem CaB.qlt (h : CaB w base q S W L F rows) : base ≤ q ∧ q < w.heap.size := by obtain ⟨g, vs, h⟩ := h; exact ⟨h.hq, h.kq.lt⟩
/-- .. so it stays. -/
theorem CaB.keep (h : CaB w base q S W L F rows) (f : Fr F w w') {k : Nat} {cs : Array Value} {t : TypeId} (hk : Blk w k (.cells cs t)) (h1 : t ≠ 3) (h2 : t ≠ 28) : Blk w' k (.cells cs t) := hk.fr f (h.out hk (cells_ne h1 h2))
/-- A map stays. -/
theorem CaB.keepMap (h : CaB w base q S W L F rows) (f : Fr F w w') {k : Nat} {es : Array MapEntry} {c : Nat} (hk : w.heap[k]? = some (.map es c)) : w'.heap[k]? = w.heap[k]? := by
  have : ¬ F k := h.out (o := .map es c) hk (fun cs => ⟨(by intro e; cases e), (by intro e; cases e)⟩)
  exact f.block k (Blk.lt (o := .map es c) hk) this

theorem CaP.at_ (h : CaP w base q S W L F g vs rows) {i : Nat} (hi : i < S.toNat) : ∃ v, vs[i]? = some v ∧ RowB w base v (rows.getD i []) ∧ (∀ k, v.ownBlock = some k → F k) ∧ (∀ k, v.ownBlock = some k → k ≠ g) := by
  have hiv : i < vs.length := by have := h.lenv; omega
  have hir : i < rows.length := by have := h.lenr; omega
  have hr : rows[i]? = some (rows.getD i []) := by rw [List.getD, List.getElem?_eq_getElem hir]; rfl
  obtain ⟨h1, h2⟩ := h.row i _ _ (List.getElem?_eq_getElem hiv) hr
  refine ⟨_, List.getElem?_eq_getElem hiv, h1, h2, fun k hk e => ?_⟩
  subst e
  obtain ⟨cs, hb⟩ := h1.kind k hk
  have := Blk.agree h.kg hb
  injection this with _ e _
  exact absurd e (by decide)

theorem CaP.put (h : CaP w base q S W L F g vs rows) {i : Nat} {v v' : Value} {r' : List Int} (hv : vs[i]? = some v) (f : Fr (fun k => k = g ∨ v.ownBlock = some k) w w') (hg : Blk w' g (.cells (vs.set i v').toArray 28)) (hr' : RowB w' base v' r')
    (hn : ∀ k, v'.ownBlock = some k → v.ownBlock = some k ∨ w.heap.size ≤ k) : ∃ F', CaB w' base q S W L F' (rows.set i r') ∧ (∀ k, F' k → F k ∨ w.heap.size ≤ k) ∧ Fr F w w' := by
  have hiv : i < vs.length := (List.getElem?_eq_some_iff.1 hv).1
  have hir : i < rows.length := by have := h.lenr; have := h.lenv; omega
  have hr : rows[i]? = some (rows.getD i []) := by rw [List.getD, List.getElem?_eq_getElem hir]; rfl
  obtain ⟨hrow, hFv⟩ := h.row i v _ hv hr
  have hF0 : ∀ k, (k = g ∨ v.ownBlock = some k) → F k := fun k hk => by
    rcases hk with rfl | hk
    · exact h.fg
    · exact hFv k hk
  have hkind : ∀ k v2 r2, RowB w base v2 r2 → v2.ownBlock = some k → k ≠ g := fun k v2 r2 h2 hk e => by
    subst e
    obtain ⟨cs, hb⟩ := h2.kind k hk
    have := Blk.agree h.kg hb
    injection this with _ e _
    exact absurd e (by decide)
  refine ⟨fun k => (F k ∧ v.ownBlock ≠ some k) ∨ v'.ownBlock = some k, ⟨g, vs.set i v', h.hq, h.kq.fr f (fun hk => h.fq (hF0 q hk)), hg, .inl ⟨h.fg, fun e => hkind g v _ hrow e rfl⟩, by rw [List.length_set]; exact h.lenv, by rw [List.length_set]; exact h.lenr, ?_, ?_, ?_⟩, ?_, f.mono fun k _ hk => hF0 k hk⟩
  · intro j v2 r2 hj hj2
    rw [List.getElem?_set] at hj hj2
    by_cases e : i = j
    · subst e
      rw [if_pos rfl, if_pos hiv] at hj
      rw [if_pos rfl, if_pos hir] at hj2
      cases hj; cases hj2
      exact ⟨hr', fun k hk => .inr hk⟩
    · rw [if_neg e] at hj hj2
      obtain ⟨a1, a2⟩ := h.row j v2 r2 hj hj2
      refine ⟨a1.fr f fun k hk hk2 => ?_, fun k hk => .inl ⟨a2 k hk, fun e2 => e (h.apart i j k v v2 hv hj e2 hk)⟩⟩
      rcases hk2 with hk2 | hk2
      · exact hkind k v2 r2 a1 hk hk2
      · exact e (h.apart i j k v v2 hv hj hk2 hk)
  · intro j1 j2 k u1 u2 h1 h2 hk1 hk2
    rw [List.getElem?_set] at h1 h2
    have key : ∀ j u, vs[j]? = some u → j ≠ i → u.ownBlock = some k → v'.ownBlock = some k → False := fun j u hj hji hk hk' => by
      have hjr : j < rows.length := by have := (List.getElem?_eq_some_iff.1 hj).1; have := h.lenr; have := h.lenv; omega
      have hrj : rows[j]? = some (rows.getD j []) := by rw [List.getD, List.getElem?_eq_getElem hjr]; rfl
      rcases hn k hk' with hk3 | hk3
      · exact hji (h.apart j i k u v hj hv hk hk3)
      · have := ((h.row j u _ hj hrj).1.lt k hk).2
        omega
    by_cases e1 : i = j1
    · by_cases e2 : i = j2
      · omega
      · rw [if_pos e1, if_pos hiv] at h1
        rw [if_neg e2] at h2
        cases h1
        exact (key j2 u2 h2 (Ne.symm e2) hk2 hk1).elim
    · by_cases e2 : i = j2
      · rw [if_neg e1] at h1
        rw [if_pos e2, if_pos hiv] at h2
        cases h2
        exact (key j1 u1 h1 (Ne.symm e1) hk1 hk2).elim
      · rw [if_neg e1] at h1
        rw [if_neg e2] at h2
        exact h.apart j1 j2 k u1 u2 h1 h2 hk1 hk2
  · intro k hk
    rcases hk with ⟨hk, hk2⟩ | hk
    · obtain ⟨h1, h2, cs, t, hb, ht⟩ := h.foot k hk
      refine ⟨h1, Nat.lt_of_lt_of_le h2 f.size, ?_⟩
      by_cases e : k = g
      · subst e; exact ⟨_, _, hg, .inr rfl⟩
      · exact ⟨cs, t, hb.fr f (by rintro (h | h) <;> contradiction), ht⟩
    · obtain ⟨a1, a2⟩ := hr'.lt k hk
      obtain ⟨ds, hds⟩ := hr'.kind k hk
      exact ⟨a1, a2, _, _, hds, .inl rfl⟩
  · intro k hk
    rcases hk with ⟨hk, _⟩ | hk
    · exact .inl hk
    · rcases hn k hk with h1 | h1
      · exact .inl (hFv k h1)
      · exact .inr h1
end
end Go.Proofs.Ytjckghdgogkeaaa

namespace Go.Proofs.Ytjckghdgogkeaaa
open Go.RowKit
set_option linter.unusedVariables false

/-- The row after an access of x. -/
def cRow (W x : Int) (r : List Int) : List Int := (x :: r.erase x).take W.toNat
/-- The rows after an access of the line x. -/
def cAcc (S W : Int) (rows : List (List Int)) (x : Int) : List (List Int) := rows.set (x % S).toNat (cRow W x (rows.getD (x % S).toNat []))
/-- Each row has distinct lines of its own set, no more than the ways. -/
structure Rows (S W : Int) (rows : List (List Int)) : Prop where
  len : (rows.length : Int) = S
  short : ∀ i, ((rows.getD i []).length : Int) ≤ W
  nodup : ∀ i, (rows.getD i []).Nodup
  mine : ∀ i x, x ∈ rows.getD i [] → 0 ≤ x ∧ x % S = i

theorem getD_set_same {rows : List (List Int)} {i : Nat} (h : i < rows.length) (r : List Int) : (rows.set i r).getD i [] = r := by simp [List.getD, h]
theorem getD_set_other {rows : List (List Int)} {i k : Nat} (h : k ≠ i) (r : List Int) : (rows.set i r).getD k [] = rows.getD k [] := by simp [List.getD, Ne.symm h]
theorem mem_erase_iff {r : List Int} (h : r.Nodup) {x y : Int} : y ∈ r.erase x ↔ y ≠ x ∧ y ∈ r := h.mem_erase_iff

theorem rows_empty {S W : Int} (hs : 1 ≤ S) (hw : 1 ≤ W) : Rows S W (List.replicate S.toNat []) := by
  have e : ∀ i, (List.replicate S.toNat ([] : List Int)).getD i [] = [] := fun i => by
    simp only [List.getD, List.getElem?_replicate]; split <;> rfl
  exact ⟨by simp; omega, fun i => by rw [e]; simp; omega, fun i => by rw [e]; exact List.nodup_nil, fun i x hx => by rw [e] at hx; cases hx⟩

theorem cRow_cons {W x : Int} {r : List Int} (hw : 1 ≤ W) : cRow W x r = x :: (r.erase x).take (W.toNat - 1) := by
  unfold cRow
  obtain ⟨k, hk⟩ : ∃ k, W.toNat = k + 1 := ⟨W.toNat - 1, by omega⟩
  rw [hk]; rfl
theorem mem_cRow {W x y : Int} {r : List Int} (hw : 1 ≤ W) (h : y ∈ cRow W x r) : y = x ∨ y ∈ r := by
  rw [cRow_cons hw, List.mem_cons] at h
  rcases h with h | h
  · exact .inl h
  · exact .inr (List.mem_of_mem_erase (List.mem_of_mem_take h))
theorem nodup_cRow {W x : Int} {r : List Int} (hw : 1 ≤ W) (h : r.Nodup) : (cRow W x r).Nodup := by
  rw [cRow_cons hw, List.nodup_cons]
  refine ⟨fun hm => ?_, (h.erase x).sublist (List.take_sublist _ _)⟩
  exact ((mem_erase_iff h).1 (List.mem_of_mem_take hm)).1 rfl
theorem length_cRow {W x : Int} {r : List Int} (hw : 1 ≤ W) : ((cRow W x r).length : Int) ≤ W := by
  unfold cRow; rw [List.length_take]; omega

theorem Rows.acc {S W : Int} {rows : List (List Int)} (h : Rows S W rows) (hs : 1 ≤ S) (hw : 1 ≤ W) {x : Int} (hx : 0 ≤ x) : Rows S W (cAcc S W rows x) := by
  have hi := Int.emod_nonneg x (show S ≠ 0 by omega)
  have hi2 := Int.emod_lt_of_pos x (show 0 < S by omega)
  have hlt : (x % S).toNat < rows.length := by have := h.len; omega
  refine ⟨by unfold cAcc; rw [List.length_set]; exact h.len, fun i => ?_, fun i => ?_, fun i y hy => ?_⟩
  · by_cases e : i = (x % S).toNat
    · subst e; unfold cAcc; rw [getD_set_same hlt]; exact length_cRow hw
    · unfold cAcc; rw [getD_set_other e]; exact h.short i
  · by_cases e : i = (x % S).toNat
    · subst e; unfold cAcc; rw [getD_set_same hlt]; exact nodup_cRow hw (h.nodup _)
    · unfold cAcc; rw [getD_set_other e]; exact h.nodup i
  · by_cases e : i = (x % S).toNat
    · subst e
      unfold cAcc at hy; rw [getD_set_same hlt] at hy
      rcases mem_cRow hw hy with rfl | hy
      · exact ⟨hx, by omega⟩
      · exact h.mine _ y hy
    · unfold cAcc at hy; rw [getD_set_other e] at hy; exact h.mine i y hy

/-- Where the line at place j + 1 of a touched row stood before: at j, if the touched line stood behind it or nowhere; else at j + 1. -/
theorem cRow_at {W x : Int} {r : List Int} (hw : 1 ≤ W) (hn : r.Nodup) {j : Nat} (hj : j + 1 < (cRow W x r).length) :
    ∃ p, (p = j ∨ (p = j + 1 ∧ ∃ q, q ≤ j ∧ q < r.length ∧ r.getD q 0 = x)) ∧ p < r.length ∧ (cRow W x r).getD (j + 1) 0 = r.getD p 0 ∧ r.getD p 0 ≠ x ∧ ((j : Int) + 1 < W) := by
  rw [cRow_cons hw] at hj ⊢
  simp only [List.length_cons, List.length_take] at hj
  have hjl : j < (r.erase x).length := by omega
  have e1 : (x :: (r.erase x).take (W.toNat - 1)).getD (j + 1) 0 = (r.erase x).getD j 0 := by
    simp only [List.getD, List.getElem?_cons_succ, List.getElem?_take]
    rw [if_pos (by omega)]
  rw [e1]
  have hmem : (r.erase x).getD j 0 ∈ r.erase x := by
    rw [List.getD, List.getElem?_eq_getElem hjl]; exact List.getElem_mem hjl
  have hne := ((mem_erase_iff hn).1 hmem).1
  by_cases hx : x ∈ r
  · have hq := List.idxOf_lt_length_of_mem hx
    have e2 : r.erase x = r.eraseIdx (r.idxOf x) := List.erase_eq_eraseIdx_of_idxOf rfl
    have hqx : r.getD (r.idxOf x) 0 = x := by rw [List.getD, List.getElem?_eq_getElem hq]; exact List.getElem_idxOf hq
    rw [e2] at hne hjl ⊢
    rw [List.length_eraseIdx, if_pos hq] at hjl
    by_cases c : j < r.idxOf x
    · have e3 : (r.eraseIdx (r.idxOf x)).getD j 0 = r.getD j 0 := by simp only [List.getD, List.getElem?_eraseIdx]; rw [if_pos c]
      rw [e3] at hne ⊢
      exact ⟨j, .inl rfl, by omega, rfl, hne, by omega⟩
    · have e3 : (r.eraseIdx (r.idxOf x)).getD j 0 = r.getD (j + 1) 0 := by simp only [List.getD, List.getElem?_eraseIdx]; rw [if_neg c]
      rw [e3] at hne ⊢
      exact ⟨j + 1, .inr ⟨rfl, _, by omega, hq, hqx⟩, by omega, rfl, hne, by omega⟩
  · rw [List.erase_of_not_mem hx] at hne hjl ⊢
    exact ⟨j, .inl rfl, hjl, rfl, hne, by omega⟩

/-- All lines are at most M. -/
def Top (M : Int) (rows : List (List Int)) : Prop := ∀ i x, x ∈ rows.getD i [] → x ≤ M
theorem top_empty (M : Int) (n : Nat) : Top M (List.replicate n []) := fun i x hx => by
  have e : (List.replicate n ([] : List Int)).getD i [] = [] := by simp only [List.getD, List.getElem?_replicate]; split <;> rfl
  rw [e] at hx; cases hx
theorem Top.acc {M S W : Int} {rows : List (List Int)} (h : Top M rows) (hw : 1 ≤ W) {x : Int} (hx : x ≤ M) : Top M (cAcc S W rows x) := fun i y hy => by
  unfold cAcc at hy
  by_cases e : i = (x % S).toNat
  · by_cases c : i < rows.length
    · subst e
      rw [getD_set_same c] at hy
      rcases mem_cRow hw hy with rfl | hy
      · exact hx
      · exact h _ y hy
    · rw [List.getD, List.getElem?_eq_none (by rw [List.length_set]; omega)] at hy
      cases hy
  · rw [getD_set_other e] at hy
    exact h i y hy
theorem Top.all {M : Int} {rows : List (List Int)} (h : Top M rows) : ∀ l ∈ rows, ∀ x ∈ l, x ≤ M := fun l hl x hx => by
  obtain ⟨i, hi, rfl⟩ := List.getElem_of_mem hl
  exact h i x (by rw [List.getD, List.getElem?_eq_getElem hi]; exact hx)
theorem Rows.all {S W : Int} {rows : List (List Int)} (h : Rows S W rows) : ∀ l ∈ rows, ∀ x ∈ l, 0 ≤ x := fun l hl x hx => by
  obtain ⟨i, hi, rfl⟩ := List.getElem_of_mem hl
  exact (h.mine i x (by rw [List.getD, List.getElem?_eq_getElem hi]; exact hx)).1
end Go.Proofs.Ytjckghdgogkeaaa

namespace Go.Proofs.Ytjckghdgogkeaaa
open Go.RowKit
set_option linter.unusedVariables false

/-- A region that draws its order, whose operations read what lies in w and call what leaves that as it is: one walk, in the text's order. -/
theorem wp_region_e {id : Nat} {Q : Exit → Act → World → Prop} {a : Act} {w : World} {l : List Oper} (hB : Region.lexB .any l.toArray = true)
    (h : wpQuiet Try.prog l.toArray (Ext w) (fun a' => ∀ w', Ext w w' → Q .normal a' w') l a) : (Code.region id l.toArray true).wp Try.prog Q a w :=
  wp_region_quiet (C := Ext w) (by kernel_rfl) hB (Ext.drew (Ext.refl w)) (by simpa using h)

theorem idx_cases (r : List Int) (y : Int) : (∃ k, k < r.length ∧ Lib.idxOf r y = (k : Int) ∧ y ∈ r ∧ r.erase y = r.eraseIdx k) ∨ (Lib.idxOf r y = -1 ∧ ¬ y ∈ r ∧ r.erase y = r) := by
  by_cases h : y ∈ r
  · have hq := List.idxOf_lt_length_of_mem h
    refine .inl ⟨r.idxOf y, hq, ?_, h, List.erase_eq_eraseIdx_of_idxOf rfl⟩
    have := Lib.idxOf_hit r r.length (r.idxOf y) y hq (Nat.le_refl _) (by rw [List.getD, List.getElem?_eq_getElem hq]; exact List.getElem_idxOf hq) (fun j hj e => by
      have hjl : j < r.length := by omega
      rw [List.getD, List.getElem?_eq_getElem hjl] at e
      have h5 := List.not_of_lt_findIdx (p := (· == y)) hj
      simp at h5
      exact h5 (by simpa using e))
    rwa [List.take_length] at this
  · refine .inr ⟨?_, h, List.erase_of_not_mem h⟩
    have := Lib.idxOf_miss r r.length y (fun j hj e => h (by rw [← e, List.getD, List.getElem?_eq_getElem hj]; exact List.getElem_mem hj))
    rwa [List.take_length] at this

theorem vs_cell {w : World} {g : Nat} {vs : List Value} {t : TypeId} {i : Nat} {v : Value} (h : Blk w g (.cells vs.toArray t)) (hv : vs[i]? = some v) : w.cell? ⟨g, i, none⟩ = some v ∧ w.frozen? ⟨g, i, none⟩ = false := ⟨by rw [h.cell]; simpa using hv, h.free i⟩
theorem Blk.putL {w : World} {g i : Nat} {vs : List Value} {t : TypeId} {u : Value} (h : Blk w g (.cells vs.toArray t)) : Blk (w.setCell ⟨g, i, none⟩ u) g (.cells (vs.set i u).toArray t) := by
  have := h.put (k := i) (u := u)
  rwa [List.setIfInBounds_toArray] at this

theorem row_delete1 {w : World} {base : Nat} {v : Value} {r : List Int} (h : RowB w base v r) (k : Nat) (hk : k < r.length) :
    Calls Try.prog 49 #[v, .int .i64 (k : Int), .int .i64 ((k : Int) + 1)] w fun e w' => ∃ A c, e = .returned (.slice A (r.eraseIdx k).length c) ∧ RowB w' base (.slice A (r.eraseIdx k).length c) (r.eraseIdx k) ∧ (Value.slice A (r.eraseIdx k).length c).ownBlock = v.ownBlock ∧ Fr (fun j => v.ownBlock = some j) w w' := by
  have := row_delete h k hk
  rw [Int.natCast_succ] at this
  refine this.mono ?_
  rintro e w' ⟨v', rfl, h1, h2, h3⟩
  obtain ⟨A, c, rfl, _⟩ := h1.slice
  exact ⟨A, c, rfl, h1, h2, h3⟩
theorem row_insert1 {w : World} {base : Nat} {v : Value} {r : List Int} {x : Int} {vb : Nat} (h : RowB w base v r) (hv : Blk w vb (.cells #[.int .i64 x] 3)) (hne : v.ownBlock ≠ some vb) (hr : r.length ≤ 1000) (hbw : base ≤ w.heap.size) :
    Calls Try.prog 50 #[v, .int .i64 0, .slice (some ⟨vb, 0, none⟩) 1 1] w fun e w' => ∃ A c, e = .returned (.slice A (r.length + 1) c) ∧ RowB w' base (.slice A (r.length + 1) c) (x :: r) ∧ ((Value.slice A (r.length + 1) c).ownBlock = v.ownBlock ∨ (Value.slice A (r.length + 1) c).ownBlock = some w.heap.size) ∧ Fr (fun j => v.ownBlock = some j) w w' := by
  refine (row_insert h hv hne hr hbw).mono ?_
  rintro e w' ⟨v', rfl, h1, h2, h3⟩
  obtain ⟨A, c, rfl, _⟩ := h1.slice
  exact ⟨A, c, rfl, h1, h2, h3⟩
/-- what is stored into the row's block of slices, and new blocks, leave the row as it is -/
theorem RowB.store {w : World} {base g o : Nat} {v u : Value} {r : List Int} (h : RowB w base v r) (hg : ∀ k, v.ownBlock = some k → k ≠ g) : RowB (w.setCell ⟨g, o, none⟩ u) base v r :=
  h.fr (F := fun k => k = g) ((Fr.refl _ _).setCell rfl) fun k hk e => hg k hk e
theorem RowB.alloc {w : World} {base : Nat} {v : Value} {r : List Int} (h : RowB w base v r) (o : Obj) : RowB (w.alloc o) base v r := h.ext ((Ext.refl _).alloc o)

theorem set_at {W L : Int} {m i : Nat} (h : Geo (m : Int) W L) (x : Int) (hx : 0 ≤ x) (hi : x % (m : Int) = (i : Int)) (w : World) :
    Calls Try.prog 46 #[.agg #[.int .i64 (m : Int), .int .i64 W, .int .i64 L], .int .i64 x] w fun e w' => e = .returned (.int .i64 (i : Int)) ∧ Ext w w' := by
  have := set_yes h x hx w
  rw [hi] at this
  exact this
theorem CaP.cells (m : Nat) {w : World} {base q g : Nat} {W L : Int} {F : Nat → Prop} {vs : List Value} {rows : List (List Int)} (h : CaP w base q (m : Int) W L F g vs rows) :
    Blk w q (.cells #[.int .i64 (m : Int), .int .i64 W, .int .i64 L, .slice (some ⟨g, 0, none⟩) m m] 77) := h.kq

set_option maxHeartbeats 1000000 in
theorem access_hit {w : World} {base q gb m i : Nat} {W L : Int} {F : Nat → Prop} {vs : List Value} {rows : List (List Int)} (g : Geo (m : Int) W L) (h : CaP w base q (m : Int) W L F gb vs rows) (x y : Int) (hx : 0 ≤ x) (hx2 : x ≤ 2000000) (hy : x / L = y) (hbw : base ≤ w.heap.size)
    (hi : y % (m : Int) = (i : Int)) (r r2 : List Int) (hr : rows.getD i [] = r) (k : Nat) (hk : k < r.length) (hr2 : r2 = r.eraseIdx k) (he : Lib.idxOf r y = (k : Int)) (hle : (r.length : Int) ≤ W) :
    Calls Try.prog 40 #[.pointer (some ⟨q, 0, none⟩), .int .i64 x] w fun e w' => e = .returned (.bool true) ∧ ∃ F', CaB w' base q (m : Int) W L F' (rows.set i (y :: r2)) ∧ (∀ k, F' k → F k ∨ w.heap.size ≤ k) ∧ Fr F w w' := by
  have hs1 := g.s1
  have hs64 := g.s64
  have hw8 := g.w8
  have hl1 := g.l1
  have hy0 : 0 ≤ y := by rw [← hy]; exact Int.ediv_nonneg hx (by omega)
  have him : i < m := by have := Int.emod_lt_of_pos y (show 0 < (m : Int) by omega); omega
  obtain ⟨v, hv, hrow, hvF, hvg⟩ := h.at_ (i := i) (by omega)
  rw [hr] at hrow
  obtain ⟨A, c, rfl, hrc⟩ := hrow.slice
  have kq := h.cells m
  have kg := h.kg
  obtain ⟨a0, a1, a2, a3⟩ := kq.c4
  obtain ⟨b0, b1⟩ := vs_cell kg hv
  go_enter Try.func40, Try.ntmps40
  go_wp2_with (first
    | (go_at_call 39; refine Calls.mono (line_yes g x hx hx2 _) ?_; rintro e w1 ⟨rfl, hb1⟩; rw [hy]))
  have kq1 := kq.ext hb1
  have kg1 := kg.ext hb1
  refine wp_region_e (by kernel_rfl) ?_
  repeat (
    refine wpQuiet_step (fun K hK => ?_)
    go_simp
    first
      | (refine hK _ ?_; clear hK K)
      | (refine ⟨_, fun w' hw' => rfl, hK _ ?_⟩; clear hK K)
      | (apply Exists.intro
         refine ⟨fun w' hw' => ?_, hK _ ?_⟩
         (first
           | (go_at_call 46; refine Calls.mono (set_at g y hy0 hi w') ?_; rintro e w'' ⟨rfl, hx⟩; exact ⟨rfl, hw'.trans hx⟩)
           | (obtain ⟨q0, q1, q2, q3⟩ := (kq1.ext hw').c4; go_simp; rfl))
         clear hK K))
  refine wpQuiet_nil ?_
  intro w2 hw2
  have hx2 : Ext w w2 := hb1.trans hw2
  have kq2 := kq.ext hx2
  have kg2 := kg.ext hx2
  have row2 := hrow.ext hx2
  have hz2 := hx2.size
  obtain ⟨c0, c1⟩ := vs_cell kg2 hv
  clear a0 a1 a2 a3 b0 b1 kq1 kg1 hb1 hw2
  have hgo : ∀ k, (Value.slice A r.length c).ownBlock = some k → ¬ k = gb ∧ ¬ k = q := fun k hk => ⟨hvg k hk, fun e => h.fq (e ▸ hvF k hk)⟩
  have hl2 : (r2.length : Int) + 1 ≤ W := by rw [hr2, List.length_eraseIdx, if_pos hk]; omega
  have hqg : q ≠ gb := fun e => h.fq (by rw [e]; exact h.fg)
  have hiv : i < vs.length := (List.getElem?_eq_some_iff.1 hv).1
  have HR2 := Lib.hid hr2
  clear hr2
  go_wp2_with (first
    | (go_at_call 50; (refine Calls.mono (row_insert1 (base := base) ((row3.store fun k hk => (hgo k (hbk3 ▸ hk)).1).alloc _) (Blk.new (by simp)) (fun e => by have := (row3.lt _ e).2; omega) (by omega) (by have := hf3.size; simp; omega)) ?_; rintro e w4 ⟨A4, c4, rfl, row4, hbk4, hf4⟩; have kg4 := Blk.fr kg3.putL.alloc hf4 (fun e => (hgo gb (hbk3 ▸ e)).1 rfl); have kq4 := Blk.fr (kq3.set1 hqg).alloc hf4 (fun e => (hgo q (hbk3 ▸ e)).2 rfl); obtain ⟨f0, f1⟩ := vs_cell (i := i) kg4 (by rw [List.getElem?_set, if_pos rfl, if_pos hiv]); obtain ⟨p0, p1, p2, p3⟩ := kq4.c4))
    | (go_at_call 49; refine Calls.mono (row_delete1 row2 k hk) ?_; rw [← HR2.out]; rintro e w3 ⟨A3, c3, rfl, row3, hbk3, hf3⟩; have kg3 := kg2.fr hf3 (fun e => (hgo gb e).1 rfl); have kq3 := kq2.fr hf3 (fun e => (hgo q e).2 rfl); obtain ⟨d0, d1⟩ := vs_cell kg3 hv)
    | (go_at_call 48; refine Calls.mono (row_index row2 y (by omega)) ?_; rintro e w3 ⟨rfl, hw3⟩; rw [he]; obtain rfl := hw3.symm))
  have hz3 := hf3.size
  have hz4 := hf4.size
  simp at hz4
  have row5 : RowB (w4.setCell ⟨gb, i, none⟩ (.slice A4 (r2.length + 1) c4)) base (.slice A4 (r2.length + 1) c4) (y :: r2) := row4.store fun k hk => by
    rcases hbk4 with e | e
    · rw [e, hbk3] at hk; exact (hgo k hk).1
    · rw [e] at hk; have := kg2.lt; simp at hk; omega
  have kq5 : Blk (w4.setCell ⟨gb, i, none⟩ (.slice A4 (r2.length + 1) c4)) q _ := kq4.set1 hqg
  have kg5 : Blk (w4.setCell ⟨gb, i, none⟩ (.slice A4 (r2.length + 1) c4)) gb (.cells ((vs.set i (.slice A3 r2.length c3)).set i (.slice A4 (r2.length + 1) c4)).toArray 28) := kg4.putL
  rw [List.set_set] at kg5
  have hfr : Fr (fun k => k = gb ∨ (Value.slice A r.length c).ownBlock = some k) w (w4.setCell ⟨gb, i, none⟩ (.slice A4 (r2.length + 1) c4)) :=
    ((Fr.ofExt _ hx2).trans ((hf3.mono fun k _ hk => .inr hk).trans ((((Fr.refl _ w3).setCell (.inl rfl)).alloc _).trans ((hf4.mono fun k _ hk => .inr (hbk3 ▸ hk)).setCell (.inl rfl)))))
  have hn5 : ∀ k, (Value.slice A4 (r2.length + 1) c4).ownBlock = some k → (Value.slice A r.length c).ownBlock = some k ∨ w.heap.size ≤ k := fun k hk => by
    rcases hbk4 with e | e
    · rw [e, hbk3] at hk; exact .inl hk
    · rw [e] at hk; simp at hk; right; omega
  obtain ⟨w5, hw5⟩ : ∃ w5, w5 = w4.setCell ⟨gb, i, none⟩ (.slice A4 (r2.length + 1) c4) := ⟨_, rfl⟩
  rw [← hw5] at row5 kq5 kg5 hfr ⊢
  clear hw5 d0 d1 f0 f1 p0 p1 p2 p3 c0 c1
  refine wp_region_e (by kernel_rfl) ?_
  repeat (
    refine wpQuiet_step (fun K hK => ?_)
    go_simp
    first
      | (refine hK _ ?_; clear hK K)
      | (refine ⟨_, fun w' hw' => rfl, hK _ ?_⟩; clear hK K)
      | (apply Exists.intro
         refine ⟨fun w' hw' => ?_, hK _ ?_⟩
         (obtain ⟨q0, q1, q2, q3⟩ := (kq5.ext hw').c4; obtain ⟨r0, r1⟩ := vs_cell (i := i) (kg5.ext hw') (by rw [List.getElem?_set, if_pos rfl, if_pos hiv]); go_simp; rfl)
         clear hK K))
  refine wpQuiet_nil ?_
  intro w6 hw6
  go_wp2
  go_ret
  exact ⟨rfl, CaP.put h hv (hfr.ext hw6) (kg5.ext hw6) (row5.ext hw6) hn5⟩
set_option maxHeartbeats 1000000 in
theorem access_miss {w : World} {base q gb m i : Nat} {W L : Int} {F : Nat → Prop} {vs : List Value} {rows : List (List Int)} (g : Geo (m : Int) W L) (h : CaP w base q (m : Int) W L F gb vs rows) (x y : Int) (hx : 0 ≤ x) (hx2 : x ≤ 2000000) (hy : x / L = y) (hbw : base ≤ w.heap.size)
    (hi : y % (m : Int) = (i : Int)) (r : List Int) (hr : rows.getD i [] = r) (he : Lib.idxOf r y = -1) (hle : (r.length : Int) < W) :
    Calls Try.prog 40 #[.pointer (some ⟨q, 0, none⟩), .int .i64 x] w fun e w' => e = .returned (.bool false) ∧ ∃ F', CaB w' base q (m : Int) W L F' (rows.set i (y :: r)) ∧ (∀ k, F' k → F k ∨ w.heap.size ≤ k) ∧ Fr F w w' := by
  have hs1 := g.s1
  have hs64 := g.s64
  have hw8 := g.w8
  have hl1 := g.l1
  have hy0 : 0 ≤ y := by rw [← hy]; exact Int.ediv_nonneg hx (by omega)
  have him : i < m := by have := Int.emod_lt_of_pos y (show 0 < (m : Int) by omega); omega
  obtain ⟨v, hv, hrow, hvF, hvg⟩ := h.at_ (i := i) (by omega)
  rw [hr] at hrow
  obtain ⟨A, c, rfl, hrc⟩ := hrow.slice
  have kq := h.cells m
  have kg := h.kg
  obtain ⟨a0, a1, a2, a3⟩ := kq.c4
  obtain ⟨b0, b1⟩ := vs_cell kg hv
  go_enter Try.func40, Try.ntmps40
  go_wp2_with (first
    | (go_at_call 39; refine Calls.mono (line_yes g x hx hx2 _) ?_; rintro e w1 ⟨rfl, hb1⟩; rw [hy]))
  have kq1 := kq.ext hb1
  have kg1 := kg.ext hb1
  refine wp_region_e (by kernel_rfl) ?_
  repeat (
    refine wpQuiet_step (fun K hK => ?_)
    go_simp
    first
      | (refine hK _ ?_; clear hK K)
      | (refine ⟨_, fun w' hw' => rfl, hK _ ?_⟩; clear hK K)
      | (apply Exists.intro
         refine ⟨fun w' hw' => ?_, hK _ ?_⟩
         (first
           | (go_at_call 46; refine Calls.mono (set_at g y hy0 hi w') ?_; rintro e w'' ⟨rfl, hx⟩; exact ⟨rfl, hw'.trans hx⟩)
           | (obtain ⟨q0, q1, q2, q3⟩ := (kq1.ext hw').c4; go_simp; rfl))
         clear hK K))
  refine wpQuiet_nil ?_
  intro w2 hw2
  have hx2 : Ext w w2 := hb1.trans hw2
  have kq2 := kq.ext hx2
  have kg2 := kg.ext hx2
  have row2 := hrow.ext hx2
  have hz2 := hx2.size
  obtain ⟨c0, c1⟩ := vs_cell kg2 hv
  clear a0 a1 a2 a3 b0 b1 kq1 kg1 hb1 hw2
  have hgo : ∀ k, (Value.slice A r.length c).ownBlock = some k → ¬ k = gb ∧ ¬ k = q := fun k hk => ⟨hvg k hk, fun e => h.fq (e ▸ hvF k hk)⟩
  have hqg : q ≠ gb := fun e => h.fq (by rw [e]; exact h.fg)
  have hiv : i < vs.length := (List.getElem?_eq_some_iff.1 hv).1
  go_wp2_with (first
    | (go_at_call 50; (refine Calls.mono (row_insert1 (base := base) (row2.alloc _) (Blk.new (by simp)) (fun e => by have := (row2.lt _ e).2; omega) (by omega) (by simp; omega)) ?_; rintro e w4 ⟨A4, c4, rfl, row4, hbk4, hf4⟩; have kg4 := Blk.fr kg2.alloc hf4 (fun e => (hgo gb e).1 rfl); have kq4 := Blk.fr kq2.alloc hf4 (fun e => (hgo q e).2 rfl); obtain ⟨f0, f1⟩ := vs_cell (i := i) kg4 hv; obtain ⟨p0, p1, p2, p3⟩ := kq4.c4))
    | (go_at_call 48; refine Calls.mono (row_index row2 y (by omega)) ?_; rintro e w3 ⟨rfl, hw3⟩; rw [he]; obtain rfl := hw3.symm))
  have hz4 := hf4.size
  simp at hz4
  have row5 : RowB (w4.setCell ⟨gb, i, none⟩ (.slice A4 (r.length + 1) c4)) base (.slice A4 (r.length + 1) c4) (y :: r) := row4.store fun k hk => by
    rcases hbk4 with e | e
    · rw [e] at hk; exact (hgo k hk).1
    · rw [e] at hk; have := kg2.lt; simp at hk; omega
  have kq5 : Blk (w4.setCell ⟨gb, i, none⟩ (.slice A4 (r.length + 1) c4)) q _ := kq4.set1 hqg
  have kg5 : Blk (w4.setCell ⟨gb, i, none⟩ (.slice A4 (r.length + 1) c4)) gb (.cells (vs.set i (.slice A4 (r.length + 1) c4)).toArray 28) := kg4.putL
  have hfr : Fr (fun k => k = gb ∨ (Value.slice A r.length c).ownBlock = some k) w (w4.setCell ⟨gb, i, none⟩ (.slice A4 (r.length + 1) c4)) :=
    ((Fr.ofExt _ hx2).trans (((Fr.refl _ w2).alloc _).trans ((hf4.mono fun k _ hk => .inr hk).setCell (.inl rfl))))
  have hn5 : ∀ k, (Value.slice A4 (r.length + 1) c4).ownBlock = some k → (Value.slice A r.length c).ownBlock = some k ∨ w.heap.size ≤ k := fun k hk => by
    rcases hbk4 with e | e
    · rw [e] at hk; exact .inl hk
    · rw [e] at hk; simp at hk; right; omega
  obtain ⟨w5, hw5⟩ : ∃ w5, w5 = w4.setCell ⟨gb, i, none⟩ (.slice A4 (r.length + 1) c4) := ⟨_, rfl⟩
  rw [← hw5] at row5 kq5 kg5 hfr ⊢
  clear hw5 f0 f1 p0 p1 p2 p3 c0 c1
  refine wp_region_e (by kernel_rfl) ?_
  repeat (
    refine wpQuiet_step (fun K hK => ?_)
    go_simp
    first
      | (refine hK _ ?_; clear hK K)
      | (refine ⟨_, fun w' hw' => rfl, hK _ ?_⟩; clear hK K)
      | (apply Exists.intro
         refine ⟨fun w' hw' => ?_, hK _ ?_⟩
         (obtain ⟨q0, q1, q2, q3⟩ := (kq5.ext hw').c4; obtain ⟨r0, r1⟩ := vs_cell (i := i) (kg5.ext hw') (by rw [List.getElem?_set, if_pos rfl, if_pos hiv]); go_simp; rfl)
         clear hK K))
  refine wpQuiet_nil ?_
  intro w6 hw6
  go_wp2
  go_ret
  exact ⟨rfl, CaP.put h hv (hfr.ext hw6) (kg5.ext hw6) (row5.ext hw6) hn5⟩
theorem row_insert2 {w : World} {base : Nat} {v : Value} {r : List Int} {x : Int} {vb : Nat} (h : RowB w base v r) (hv : Blk w vb (.cells #[.int .i64 x] 3)) (hne : v.ownBlock ≠ some vb) (hr : r.length ≤ 1000) (hbw : base ≤ w.heap.size) :
    Calls Try.prog 50 #[v, .int .i64 0, .slice (some ⟨vb, 0, none⟩) 1 1] w fun e w' => ∃ g4 c, e = .returned (.slice (some ⟨g4, 0, none⟩) (r.length + 1) c) ∧ r.length + 1 ≤ c ∧ c ≤ 9223372036854775807 ∧ RowB w' base (.slice (some ⟨g4, 0, none⟩) (r.length + 1) c) (x :: r) ∧ ((Value.slice (some ⟨g4, 0, none⟩) (r.length + 1) c).ownBlock = v.ownBlock ∨ (Value.slice (some ⟨g4, 0, none⟩) (r.length + 1) c).ownBlock = some w.heap.size) ∧ Fr (fun j => v.ownBlock = some j) w w' := by
  refine (row_insert h hv hne hr hbw).mono ?_
  rintro e w' ⟨v', rfl, h1, h2, h3⟩
  rcases h1.cases with ⟨_, h0⟩ | ⟨g, cap, cur, rfl, hb, hB, hn, hc, hs, ht⟩
  · cases h0
  · exact ⟨g, cap, rfl, by simpa using hn, hc, h1, h2, h3⟩
theorem RowB.cut {w : World} {base g n c : Nat} {r : List Int} (h : RowB w base (.slice (some ⟨g, 0, none⟩) n c) r) (k : Nat) (hk : k ≤ r.length) : RowB w base (.slice (some ⟨g, 0, none⟩) k c) (r.take k) := by
  rcases h.cases with ⟨e, _⟩ | ⟨g', cap, cur, e, hb, hB, hn, hc, hs, ht⟩
  · cases e
  · cases e
    have hl : (r.take k).length = k := by rw [List.length_take]; omega
    have := RowB.intro (r := r.take k) hb hB (by omega) hc hs (fun j hj => by
      rw [ht j (by omega)]
      rw [List.getD_eq_getElem?_getD, List.getD_eq_getElem?_getD, List.getElem?_take, if_pos (by omega)])
    rw [hl] at this
    exact this

set_option maxHeartbeats 1000000 in
theorem access_full {w : World} {base q gb m i : Nat} {W L : Int} {F : Nat → Prop} {vs : List Value} {rows : List (List Int)} (g : Geo (m : Int) W L) (h : CaP w base q (m : Int) W L F gb vs rows) (x y : Int) (hx : 0 ≤ x) (hx2 : x ≤ 2000000) (hy : x / L = y) (hbw : base ≤ w.heap.size)
    (hi : y % (m : Int) = (i : Int)) (r : List Int) (hr : rows.getD i [] = r) (he : Lib.idxOf r y = -1) (hle : (r.length : Int) = W) :
    Calls Try.prog 40 #[.pointer (some ⟨q, 0, none⟩), .int .i64 x] w fun e w' => e = .returned (.bool false) ∧ ∃ F', CaB w' base q (m : Int) W L F' (rows.set i ((y :: r).take r.length)) ∧ (∀ k, F' k → F k ∨ w.heap.size ≤ k) ∧ Fr F w w' := by
  subst hle
  have hs1 := g.s1
  have hw1 := g.w1
  have hs64 := g.s64
  have hw8 := g.w8
  have hl1 := g.l1
  have hy0 : 0 ≤ y := by rw [← hy]; exact Int.ediv_nonneg hx (by omega)
  have him : i < m := by have := Int.emod_lt_of_pos y (show 0 < (m : Int) by omega); omega
  obtain ⟨v, hv, hrow, hvF, hvg⟩ := h.at_ (i := i) (by omega)
  rw [hr] at hrow
  obtain ⟨A, c, rfl, hrc⟩ := hrow.slice
  have kq := h.cells m
  have kg := h.kg
  have hkgl := kg.lt
  obtain ⟨a0, a1, a2, a3⟩ := kq.c4
  obtain ⟨b0, b1⟩ := vs_cell kg hv
  go_enter Try.func40, Try.ntmps40
  go_wp2_with (first
    | (go_at_call 39; refine Calls.mono (line_yes g x hx hx2 _) ?_; rintro e w1 ⟨rfl, hb1⟩; rw [hy]))
  have kq1 := kq.ext hb1
  have kg1 := kg.ext hb1
  refine wp_region_e (by kernel_rfl) ?_
  repeat (
    refine wpQuiet_step (fun K hK => ?_)
    go_simp
    first
      | (refine hK _ ?_; clear hK K)
      | (refine ⟨_, fun w' hw' => rfl, hK _ ?_⟩; clear hK K)
      | (apply Exists.intro
         refine ⟨fun w' hw' => ?_, hK _ ?_⟩
         (first
           | (go_at_call 46; refine Calls.mono (set_at g y hy0 hi w') ?_; rintro e w'' ⟨rfl, hx⟩; exact ⟨rfl, hw'.trans hx⟩)
           | (obtain ⟨q0, q1, q2, q3⟩ := (kq1.ext hw').c4; go_simp; rfl))
         clear hK K))
  refine wpQuiet_nil ?_
  intro w2 hw2
  have hx2 : Ext w w2 := hb1.trans hw2
  have kq2 := kq.ext hx2
  have kg2 := kg.ext hx2
  have row2 := hrow.ext hx2
  have hz2 := hx2.size
  obtain ⟨c0, c1⟩ := vs_cell kg2 hv
  clear a0 a1 a2 a3 b0 b1 kq1 kg1 hb1 hw2
  have hgo : ∀ k, (Value.slice A r.length c).ownBlock = some k → ¬ k = gb ∧ ¬ k = q := fun k hk => ⟨hvg k hk, fun e => h.fq (e ▸ hvF k hk)⟩
  have hqg : q ≠ gb := fun e => h.fq (by rw [e]; exact h.fg)
  have hiv : i < vs.length := (List.getElem?_eq_some_iff.1 hv).1
  go_wp2_with (first
    | (go_at_call 50; (refine Calls.mono (row_insert2 (base := base) (row2.alloc _) (Blk.new (by simp)) (fun e => by have := (row2.lt _ e).2; omega) (by omega) (by simp; omega)) ?_; rintro e w4 ⟨g4, c4, rfl, hc4, hm4, row4, hbk4, hf4⟩; have kg4 := Blk.fr kg2.alloc hf4 (fun e => (hgo gb e).1 rfl); have kq4 := Blk.fr kq2.alloc hf4 (fun e => (hgo q e).2 rfl); obtain ⟨f0, f1⟩ := vs_cell (i := i) kg4 hv; obtain ⟨p0, p1, p2, p3⟩ := kq4.c4))
    | (go_at_call 48; refine Calls.mono (row_index row2 y (by omega)) ?_; rintro e w3 ⟨rfl, hw3⟩; rw [he]; obtain rfl := hw3.symm))
  have hz4 := hf4.size
  simp at hz4
  have row5 : RowB (w4.setCell ⟨gb, i, none⟩ (.slice (some ⟨g4, 0, none⟩) (r.length + 1) c4)) base (.slice (some ⟨g4, 0, none⟩) (r.length + 1) c4) (y :: r) := row4.store fun k hk => by
    rcases hbk4 with e | e
    · rw [e] at hk; exact (hgo k hk).1
    · rw [e] at hk; have := kg2.lt; simp at hk; omega
  have kq5 : Blk (w4.setCell ⟨gb, i, none⟩ (.slice (some ⟨g4, 0, none⟩) (r.length + 1) c4)) q _ := kq4.set1 hqg
  have kg5 : Blk (w4.setCell ⟨gb, i, none⟩ (.slice (some ⟨g4, 0, none⟩) (r.length + 1) c4)) gb (.cells (vs.set i (.slice (some ⟨g4, 0, none⟩) (r.length + 1) c4)).toArray 28) := kg4.putL
  have hfr : Fr (fun k => k = gb ∨ (Value.slice A r.length c).ownBlock = some k) w (w4.setCell ⟨gb, i, none⟩ (.slice (some ⟨g4, 0, none⟩) (r.length + 1) c4)) :=
    ((Fr.ofExt _ hx2).trans (((Fr.refl _ w2).alloc _).trans ((hf4.mono fun k _ hk => .inr hk).setCell (.inl rfl))))
  have hn5 : ∀ k, (Value.slice (some ⟨g4, 0, none⟩) (r.length + 1) c4).ownBlock = some k → (Value.slice A r.length c).ownBlock = some k ∨ w.heap.size ≤ k := fun k hk => by
    rcases hbk4 with e | e
    · rw [e] at hk; exact .inl hk
    · rw [e] at hk; simp at hk; right; omega
  obtain ⟨w5, hw5⟩ : ∃ w5, w5 = w4.setCell ⟨gb, i, none⟩ (.slice (some ⟨g4, 0, none⟩) (r.length + 1) c4) := ⟨_, rfl⟩
  rw [← hw5] at row5 kq5 kg5 hfr ⊢
  clear hw5 f0 f1 p0 p1 p2 p3 c0 c1
  refine wp_region_e (by kernel_rfl) ?_
  repeat (
    refine wpQuiet_step (fun K hK => ?_)
    go_simp
    first
      | (refine hK _ ?_; clear hK K)
      | (refine ⟨_, fun w' hw' => rfl, hK _ ?_⟩; clear hK K)
      | (apply Exists.intro
         refine ⟨fun w' hw' => ?_, hK _ ?_⟩
         (obtain ⟨q0, q1, q2, q3⟩ := (kq5.ext hw').c4; obtain ⟨r0, r1⟩ := vs_cell (i := i) (kg5.ext hw') (by rw [List.getElem?_set, if_pos rfl, if_pos hiv]); go_simp; rfl)
         clear hK K))
  refine wpQuiet_nil ?_
  intro w6 hw6
  have kq6 := kq5.ext hw6
  have kg6 := kg5.ext hw6
  have row6 := row5.ext hw6
  have hfr6 := hfr.ext hw6
  have hww : (r.length : Int) < (r.length : Int) + 1 := by omega
  go_wp2
  obtain ⟨q0, q1, q2, q3⟩ := kq6.c4
  obtain ⟨r0, r1⟩ := vs_cell (i := i) kg6 (by rw [List.getElem?_set, if_pos rfl, if_pos hiv])
  go_region
  go_wp2
  go_ret
  have kg7 := kg6.putL (i := i) (u := .slice (some ⟨g4, 0, none⟩) r.length c4)
  rw [List.set_set] at kg7
  have row7 : RowB (w6.setCell ⟨gb, i, none⟩ (.slice (some ⟨g4, 0, none⟩) r.length c4)) base (.slice (some ⟨g4, 0, none⟩) r.length c4) ((y :: r).take r.length) := (row6.cut r.length (by simp)).store fun k hk => by
    rcases hn5 k hk with e | e
    · exact (hgo k e).1
    · have h1 := hkgl
      omega
  exact ⟨rfl, CaP.put h hv (hfr6.setCell (.inl rfl)).drew kg7 (row7.ext ((Ext.refl _).drew)) hn5⟩

/-- An access. -/
theorem cache_access {w : World} {base q : Nat} {S W L : Int} {F : Nat → Prop} {rows : List (List Int)} (g : Geo S W L) (h : CaB w base q S W L F rows) (hr : Rows S W rows) (x : Int) (hx : 0 ≤ x) (hx2 : x ≤ 2000000) (hbw : base ≤ w.heap.size) :
    Calls Try.prog 40 #[.pointer (some ⟨q, 0, none⟩), .int .i64 x] w fun e w' => e = .returned (.bool (decide (x / L ∈ rows.getD (x / L % S).toNat []))) ∧ ∃ F', CaB w' base q S W L F' (cAcc S W rows (x / L)) ∧ (∀ k, F' k → F k ∨ w.heap.size ≤ k) ∧ Fr F w w' := by
  obtain ⟨gb, vs, h⟩ := h
  have hs1 := g.s1
  have hw1 := g.w1
  obtain ⟨m, rfl⟩ : ∃ m : Nat, S = m := ⟨S.toNat, by omega⟩
  obtain ⟨y, hy⟩ : ∃ y, x / L = y := ⟨_, rfl⟩
  have hm1 := Int.emod_nonneg y (show (m : Int) ≠ 0 by omega)
  obtain ⟨i, hi⟩ : ∃ i : Nat, y % (m : Int) = i := ⟨(y % (m : Int)).toNat, by omega⟩
  rw [hy]
  unfold cAcc
  rw [hi, Int.toNat_natCast]
  obtain ⟨r, hrr⟩ : ∃ r, rows.getD i [] = r := ⟨_, rfl⟩
  have hsh := hr.short i
  rw [hrr] at hsh ⊢
  rcases idx_cases r y with ⟨k, hk, he, hmem, her⟩ | ⟨he, hmem, her⟩
  · have := access_hit g h x y hx hx2 hy hbw hi r _ hrr k hk rfl he hsh
    have e1 : cRow W y r = y :: r.eraseIdx k := by
      unfold cRow
      rw [her, List.take_of_length_le]
      rw [List.length_cons, List.length_eraseIdx, if_pos hk]
      omega
    rw [e1, decide_eq_true hmem]
    exact this
  · rw [decide_eq_false hmem]
    by_cases c : (r.length : Int) < W
    · have := access_miss g h x y hx hx2 hy hbw hi r hrr he c
      have e1 : cRow W y r = y :: r := by
        unfold cRow
        rw [her, List.take_of_length_le]
        rw [List.length_cons]
        omega
      rw [e1]
      exact this
    · have c' : (r.length : Int) = W := by omega
      have := access_full g h x y hx hx2 hy hbw hi r hrr he c'
      have e1 : cRow W y r = (y :: r).take r.length := by
        unfold cRow
        rw [her, ← c', Int.toNat_natCast]
      rw [e1]
      exact this

theorem cache_access_neg {w : World} {q : Nat} (x : Int) (hx : x < 0) :
    Calls Try.prog 40 #[.pointer (some ⟨q, 0, none⟩), .int .i64 x] w fun e w' => e = .returned (.bool false) ∧ Ext w w' := by
  go_enter Try.func40, Try.ntmps40
  go_wp2
  go_ret
  exact ⟨rfl, Ext.refl _⟩
end Go.Proofs.Ytjckghdgogkeaaa

namespace Go.Proofs.Ytjckghdgogkeaaa
open Go.RowKit Go.Proofs.YtjckghdgogkeaaaW.PrintWords
set_option linter.unusedVariables false

abbrev KI : Kd Int := Kd.int .i64
abbrev KL : Kd (List Int) := Kd.slice 3 (Kd.int .i64)
theorem at_row {w : World} {A : Option Addr} {n : Nat} {xs : List (List Int)} (h : KL.C w A n xs) (k : Nat) (hk : k < n) : ∃ ad A0 c0, A = some ad ∧ w.cell? (ad.add k) = some (.slice A0 (xs.getD k []).length c0) ∧ (xs.getD k []).length ≤ c0 ∧ KI.C w A0 (xs.getD k []).length (xs.getD k []) := by
  obtain ⟨ad, c, e, _, hK, hc0⟩ := Kd.C_get h ([] : List Int) (k : Int) (by omega) (by omega)
  have hc : ∀ j u, c[j]? = some u → w.cell? (ad.add (k * 1 + j)) = some u := hc0
  obtain ⟨A0, c0, rfl, l0, g0⟩ := hK
  exact ⟨ad, A0, c0, e, by have hq := hc 0 _ rfl; rwa [Nat.mul_one, Nat.add_zero] at hq, l0, g0⟩
theorem at_num {w : World} {A : Option Addr} {n : Nat} {xs : List Int} (h : KI.C w A n xs) (k : Nat) (hk : k < n) : ∃ ad, A = some ad ∧ w.cell? (ad.add k) = some (.int .i64 (xs.getD k 0)) := by
  obtain ⟨ad, e, hc⟩ := Kd.at_int h (k : Int) (by omega) (by omega)
  exact ⟨ad, e, by simpa [rd] using hc⟩
theorem C_len {α : Type} {d : Kd α} {w : World} {A : Option Addr} {n : Nat} {xs : List α} (h : d.C w A n xs) : xs.length = n := h.1
theorem C_max {α : Type} {d : Kd α} {w : World} {A : Option Addr} {n : Nat} {xs : List α} (h : d.C w A n xs) : n ≤ 9223372036854775807 := h.2.1
theorem C_ext {α : Type} {d : Kd α} {w w' : World} {A : Option Addr} {n : Nat} {xs : List α} (h : d.C w A n xs) (e : Ext w w') : d.C w' A n xs := Kd.C_below h e
end Go.Proofs.Ytjckghdgogkeaaa

namespace Go.Proofs.Ytjckghdgogkeaaa
open Go.RowKit
set_option linter.unusedVariables false

theorem Blk.drew' {w : World} {B : Nat} {o : Obj} (h : Blk w B o) : Blk w.drew B o := h
theorem madeCells_one (z : Value) (n : Nat) : madeCells #[z] n = (List.replicate n z).toArray := by
  refine Array.ext_getElem? fun i => ?_
  by_cases h : i < n
  · simp [madeCells, h, Nat.mod_one]
  · simp [madeCells, h]

theorem CaP.fresh {w : World} {base q g : Nat} {S W L : Int} (hs : 0 ≤ S) (hq : base ≤ q) (hg : base ≤ g) (kq : Blk w q (cachO S W L g)) (kg : Blk w g (.cells (List.replicate S.toNat (Value.slice none 0 0)).toArray 28)) :
    CaB w base q S W L (fun k => k = g) (List.replicate S.toNat []) := by
  refine ⟨g, _, hq, kq, kg, rfl, by simp, by simp, ?_, ?_, ?_⟩
  · intro i v r hv hr
    rw [List.getElem?_replicate] at hv hr
    split at hv
    · rename_i hi
      rw [if_pos hi] at hr
      cases hv; cases hr
      exact ⟨RowB.nil _ _, fun k hk => by cases hk⟩
    · cases hv
  · intro i j k v v' hv hv' hk hk'
    rw [List.getElem?_replicate] at hv
    split at hv
    · cases hv; cases hk
    · cases hv
  · rintro k rfl
    exact ⟨hg, kg.lt, _, _, kg, .inr rfl⟩

set_option maxHeartbeats 1000000 in
theorem cache_new {S W L : Int} (g : Geo S W L) (w : World) :
    Calls Try.prog 20 #[.agg #[.int .i64 S, .int .i64 W, .int .i64 L]] w fun e w' => ∃ q F, e = .returned (.tuple #[.pointer (some ⟨q, 0, none⟩), .int .i64 0]) ∧ CaB w' w.heap.size q S W L F (List.replicate S.toNat []) ∧ Ext w w' := by
  have hs1 := g.s1
  have hs64 := g.s64
  obtain ⟨n, rfl⟩ : ∃ n : Nat, S = n := ⟨S.toNat, by omega⟩
  have hmk := run_make_row' (P := Try.prog) 25 28 (.slice none 0 0) 24 Try.underlying25 (by kernel_rfl) rfl .i64 .i64 n (by omega) (by omega)
  go_enter Try.func20, Try.ntmps20
  go_wp2_with (first
    | (go_at_call 30; refine Calls.mono (valid_yes g _) ?_; rintro e w1 ⟨rfl, hb1⟩; obtain ⟨a0, a1, a2⟩ := Blk.c3 (w := w1) (B := w.heap.size) (by repeat (first | (with_reducible assumption) | ((with_reducible refine Blk.new ?_); (first | (focus rfl) | (focus (simp; done)) | (focus omega))) | ((with_reducible refine Blk.set1 ?_ ?_); (focus omega)) | (with_reducible refine Blk.alloc ?_) | (refine Blk.ext ?_ (by with_reducible assumption)))); have hq : w.heap.size < w1.heap.size := (by have := hb1.size; simp at this; omega)))
  go_region
  all_goals
    go_wp2
    refine bodyPost_ret (v := .tuple #[.pointer (some ⟨w1.heap.size + 1, 0, none⟩), .int .i64 0]) ?_ rfl ⟨_, _, rfl, CaP.fresh (g := w1.heap.size) (by omega) ?_ ?_ ?_ ?_, ?_⟩
  · simp [results, Try.results20, go_sem]
  · omega
  · omega
  · exact Blk.drew' (Blk.new (by simp))
  · rw [Int.toNat_natCast, ← madeCells_one]
    exact Blk.drew' (Blk.alloc (Blk.new rfl))
  · exact Ext.drew (by repeat (first | ((with_reducible refine Ext.set1 ?_ ?_); (first | (focus (simp; done)) | (focus (simp; omega)) | (focus omega))) | (with_reducible refine Ext.alloc ?_ _) | (with_reducible exact Ext.refl _) | (refine Ext.trans ?_ (by with_reducible assumption))))

/-- Where the line x stands in its row. -/
def cAge (S : Int) (rows : List (List Int)) (x : Int) : Int := Lib.idxOf (rows.getD (x % S).toNat []) x
set_option maxHeartbeats 1000000 in
theorem cache_age {w : World} {base q : Nat} {S W L : Int} {F : Nat → Prop} {rows : List (List Int)} (g : Geo S W L) (h : CaB w base q S W L F rows) (hr : Rows S W rows) (y : Int) (hy0 : 0 ≤ y) :
    Calls Try.prog 38 #[.pointer (some ⟨q, 0, none⟩), .int .i64 y] w fun e w' => e = .returned (.int .i64 (cAge S rows y)) ∧ Ext w w' := by
  obtain ⟨gb, vs, h⟩ := h
  have hs1 := g.s1
  have hw8 := g.w8
  obtain ⟨m, rfl⟩ : ∃ m : Nat, S = m := ⟨S.toNat, by omega⟩
  have hm1 := Int.emod_nonneg y (show (m : Int) ≠ 0 by omega)
  obtain ⟨i, hi⟩ : ∃ i : Nat, y % (m : Int) = i := ⟨(y % (m : Int)).toNat, by omega⟩
  unfold cAge
  rw [hi, Int.toNat_natCast]
  have him : i < m := by have := Int.emod_lt_of_pos y (show 0 < (m : Int) by omega); omega
  obtain ⟨v, hv, hrow, hvF, hvg⟩ := h.at_ (i := i) (by omega)
  have hle := hr.short i
  obtain ⟨r, hrr⟩ : ∃ r, rows.getD i [] = r := ⟨_, rfl⟩
  rw [hrr] at hrow hle ⊢
  obtain ⟨A, c, rfl, hrc⟩ := hrow.slice
  have kq := h.cells m
  have kg := h.kg
  go_enter Try.func38, Try.ntmps38
  go_wp2
  refine wp_region_e (by kernel_rfl) ?_
  repeat (
    refine wpQuiet_step (fun K hK => ?_)
    go_simp
    first
      | (refine hK _ ?_; clear hK K)
      | (refine ⟨_, fun w' hw' => rfl, hK _ ?_⟩; clear hK K)
      | (apply Exists.intro
         refine ⟨fun w' hw' => ?_, hK _ ?_⟩
         (first
           | (go_at_call 46; refine Calls.mono (set_at g y hy0 hi w') ?_; rintro e w'' ⟨rfl, hx⟩; exact ⟨rfl, hw'.trans hx⟩)
           | (go_at_call 48; refine Calls.mono (row_index (hrow.ext hw') y (by omega)) ?_; rintro e w'' ⟨rfl, rfl⟩; exact ⟨rfl, hw'⟩)
           | (obtain ⟨q0, q1, q2, q3⟩ := (kq.ext hw').c4; obtain ⟨r0, r1⟩ := vs_cell (kg.ext hw') hv; go_simp; rfl))
         clear hK K))
  refine wpQuiet_nil ?_
  intro w7 hb7
  go_wp2
  go_ret
  exact ⟨rfl, hb7⟩

set_option maxHeartbeats 1000000 in
theorem cache_probe {w : World} {base q : Nat} {S W L : Int} {F : Nat → Prop} {rows : List (List Int)} (g : Geo S W L) (h : CaB w base q S W L F rows) (hr : Rows S W rows) (x : Int) (hx : 0 ≤ x) (hx2 : x ≤ 2000000) :
    Calls Try.prog 24 #[.pointer (some ⟨q, 0, none⟩), .int .i64 x] w fun e w' => e = .returned (.bool (decide (0 ≤ cAge S rows (x / L)))) ∧ Ext w w' := by
  have hl1 := g.l1
  have hy0 : 0 ≤ x / L := Int.ediv_nonneg hx (by omega)
  obtain ⟨y, hy⟩ : ∃ y, x / L = y := ⟨_, rfl⟩
  rw [hy] at hy0 ⊢
  have h0 := h
  obtain ⟨gb, vs, h1⟩ := h0
  obtain ⟨a0, a1, a2, a3⟩ := h1.kq.c4
  clear h1
  have hage : ∀ w' : World, Ext w w' → Calls Try.prog 38 #[.pointer (some ⟨q, 0, none⟩), .int .i64 y] w' fun e w'' => e = .returned (.int .i64 (cAge S rows y)) ∧ Ext w' w'' := fun w' hw' => cache_age g (h.ext hw') hr y hy0
  generalize cAge S rows y = a at hage ⊢
  clear h hr
  go_enter Try.func24, Try.ntmps24
  go_wp2_with (first
    | (go_at_call 38; refine Calls.mono (hage _ hb1) ?_; rintro e w2 ⟨rfl, hb2⟩)
    | (go_at_call 39; refine Calls.mono (line_yes g x hx hx2 _) ?_; rintro e w1 ⟨rfl, hb1⟩; rw [hy]))
  go_ret
  exact ⟨rfl, (by repeat (first | ((with_reducible refine Ext.set1 ?_ ?_); (first | (focus (simp; done)) | (focus (simp; omega)) | (focus omega))) | (with_reducible refine Ext.alloc ?_ _) | (with_reducible exact Ext.refl _) | (refine Ext.trans ?_ (by with_reducible assumption))))⟩
end Go.Proofs.Ytjckghdgogkeaaa
