/- Maps of ints to ints, read as partial functions: the laws of the walk at a look-up, a store, a delete, a range. -/
import Derived.Test.YtdbgnniedcibeaaBase
import Derived.Maps.RangeWalk
import Derived.Maps.Ext
import Derived.Lib.SlMapMerge
namespace Go.Proofs.Ytdbgnniedcibeaa
open Go.RowKit Go.Maps
set_option linter.unusedVariables false

abbrev FM := Int → Option Int
def I64 (x : Int) : Prop := (Lit.int .i64 x).wf = true
theorem I64.of {x : Int} (h1 : -9223372036854775808 ≤ x) (h2 : x ≤ 9223372036854775807) : I64 x := WalkArith.wf_i64 ⟨h1, h2⟩
theorem I64.lo {x : Int} (h : I64 x) : -9223372036854775808 ≤ x ∧ x ≤ 9223372036854775807 := by
  unfold I64 at h
  simp [Lit.wf, IntKind.min, IntKind.max, IntKind.bits, IntKind.signed] at h
  exact h
theorem isKey (x : Int) : WideAt.IsKeyLit (Lit.int .i64 x) := trivial
theorem lit_ne {x y : Int} (h : x ≠ y) : Lit.int .i64 x ≠ Lit.int .i64 y := fun e => h (by injection e)
theorem same_lit (x y : Int) : (Lit.int .i64 x).sameKey (Lit.int .i64 y) = decide (x = y) := by
  by_cases h : x = y
  · subst h; rw [WideAt.sameKey_self (isKey x)]; simp
  · rw [sameKey_ne (lit_ne h)]; simp [h]

theorem keyedI : Keyed Try.prog 3 := int_keyed Try.underlying3
noncomputable abbrev RI : Value → Option (DataW Unit × List MemPlace) := plainElem Try.prog 3

/-- The datum D reads as the partial function f. -/
structure Is (D : DataW Unit) (f : FM) : Prop where
  map : IsMap D
  has : ∀ x, I64 x → Maps.has D (.int .i64 x) = (f x).isSome
  at_ : ∀ x b, I64 x → f x = some b → ∀ z, D.atKey (.int .i64 x) z = .lit (.int .i64 b)
  dom : ∀ x b, f x = some b → I64 x ∧ I64 b

/-- Block b of w is a map of at most n entries that reads as f. -/
def IMap (w : World) (b n : Nat) (f : FM) : Prop := ∃ D : DataW Unit, w.ownsMap Try.prog 3 RI b n D ∧ Is D f
/-- .. nil let in. -/
def IMapO (w : World) (p : Option Nat) (n : Nat) (f : FM) : Prop := (p = none ∧ ∀ x, f x = none) ∨ ∃ b, p = some b ∧ IMap w b n f

theorem IMap.lt {w : World} {b n : Nat} {f : FM} (h : IMap w b n f) : b < w.heap.size := by obtain ⟨D, h, _⟩ := h; exact h.lt
theorem IMap.same {w w' : World} {b n : Nat} {f : FM} (h : IMap w b n f) (e : w'.heap[b]? = w.heap[b]?) : IMap w' b n f := by
  obtain ⟨D, ⟨es, clock, hb, r⟩, i⟩ := h
  exact ⟨D, ⟨es, clock, e.trans hb, r⟩, i⟩
theorem IMap.ext {w w' : World} {b n : Nat} {f : FM} (h : IMap w b n f) (e : Ext w w') : IMap w' b n f := h.same (e.block h.lt)
theorem IMap.grown {w w' : World} {b n : Nat} {f : FM} {row : Option Nat} (h : IMap w b n f) (hg : w.grownBy w' row) (hne : some b ≠ row) : IMap w' b n f := h.same (hg.block b h.lt hne)
theorem IMap.mono {w : World} {b n n' : Nat} {f : FM} (h : IMap w b n f) (hn : n ≤ n') : IMap w b n' f := by obtain ⟨D, h, i⟩ := h; exact ⟨D, h.mono hn, i⟩
theorem IMap.congr {w : World} {b n : Nat} {f g : FM} (h : IMap w b n f) (e : ∀ x, f x = g x) : IMap w b n g := by
  obtain rfl : f = g := funext e
  exact h
theorem IMap.dom {w : World} {b n : Nat} {f : FM} (h : IMap w b n f) {x v : Int} (e : f x = some v) : I64 x ∧ I64 v := by obtain ⟨D, h, i⟩ := h; exact i.dom x v e
theorem IMap.set1 {w : World} {b n : Nat} {f : FM} {g o : Nat} {u : Value} (hp : b ≠ g) (h : IMap w b n f) : IMap (w.setCell ⟨g, o, none⟩ u) b n f := h.same (Below.heap_setCell _ _ _ _ hp)
theorem set_map {w : World} {b : Nat} {es : Array MapEntry} {k : Nat} (h : w.heap[b]? = some (.map es k)) (p : Addr) (u : Value) : (w.setCell p u).heap[b]? = some (.map es k) := by
  simp only [World.setCell, Array.getElem?_modify, h]
  split <;> rfl
/-- A store into a cell never turns a map. -/
theorem IMap.set {w : World} {b n : Nat} {f : FM} {p : Addr} {u : Value} (h : IMap w b n f) : IMap (w.setCell p u) b n f := by
  obtain ⟨D, ⟨es, clock, hb, r⟩, i⟩ := h
  exact ⟨D, ⟨es, clock, set_map hb p u, r⟩, i⟩
theorem IMapO.set {w : World} {q : Option Nat} {n : Nat} {f : FM} {p : Addr} {u : Value} (h : IMapO w q n f) : IMapO (w.setCell p u) q n f := by
  rcases h with h | ⟨b, rfl, h⟩
  · exact .inl h
  · exact .inr ⟨b, rfl, h.set⟩
theorem IMap.alloc {w : World} {b n : Nat} {f : FM} (h : IMap w b n f) (o : Obj) : IMap (w.alloc o) b n f := h.same (Below.heap_alloc _ _ _ h.lt)
theorem IMap.drew {w : World} {b n : Nat} {f : FM} (h : IMap w b n f) : IMap w.drew b n f := h.same rfl
theorem IMap.drewN {w : World} {b n : Nat} {f : FM} (h : IMap w b n f) (k : Nat) : IMap (w.drewN k) b n f := h.same rfl
theorem IMapO.ext {w w' : World} {p : Option Nat} {n : Nat} {f : FM} (h : IMapO w p n f) (e : Ext w w') : IMapO w' p n f := by
  rcases h with h | ⟨b, rfl, h⟩
  · exact .inl h
  · exact .inr ⟨b, rfl, h.ext e⟩
theorem IMapO.alloc {w : World} {p : Option Nat} {n : Nat} {f : FM} (h : IMapO w p n f) (o : Obj) : IMapO (w.alloc o) p n f := by
  rcases h with h | ⟨b, rfl, h⟩
  · exact .inl h
  · exact .inr ⟨b, rfl, h.alloc o⟩
theorem IMapO.lt {w : World} {p : Option Nat} {n : Nat} {f : FM} (h : IMapO w p n f) : ∀ b, p = some b → b < w.heap.size := by
  rcases h with ⟨rfl, _⟩ | ⟨b, rfl, h⟩
  · intro b hb; cases hb
  · intro b' hb; cases hb; exact h.lt
theorem IMapO.mono {w : World} {p : Option Nat} {n n' : Nat} {f : FM} (h : IMapO w p n f) (hn : n ≤ n') : IMapO w p n' f := by
  rcases h with h | ⟨b, rfl, h⟩
  · exact .inl h
  · exact .inr ⟨b, rfl, h.mono hn⟩
theorem IMapO.dom {w : World} {p : Option Nat} {n : Nat} {f : FM} (h : IMapO w p n f) {x v : Int} (e : f x = some v) : I64 x ∧ I64 v := by
  rcases h with ⟨_, h⟩ | ⟨b, _, h⟩
  · rw [h] at e; cases e
  · exact h.dom e
theorem IMapO.same {w w' : World} {p : Option Nat} {n : Nat} {f : FM} (h : IMapO w p n f) (e : ∀ b, p = some b → w'.heap[b]? = w.heap[b]?) : IMapO w' p n f := by
  rcases h with h | ⟨b, rfl, h⟩
  · exact .inl h
  · exact .inr ⟨b, rfl, h.same (e b rfl)⟩

def noF : FM := fun _ => none
theorem IMap.made (w : World) : IMap (w.alloc (.map #[] 0)) w.heap.size 0 noF :=
  ⟨_, World.ownsMap_made _ _ _ _, ⟨⟨_, rfl⟩, fun _ _ => rfl, fun _ _ _ h => (by cases h), fun _ _ h => (by cases h)⟩⟩

theorem IMap.made' {w : World} {b : Nat} (hb : b = w.heap.size) : IMap (w.alloc (.map #[] 0)) b 0 noF := by subst hb; exact IMap.made w
/-- m[x] = v, on functions. -/
def put (f : FM) (x v : Int) : FM := fun y => if y = x then some v else f y
/-- delete(m, x), on functions. -/
def cut (f : FM) (x : Int) : FM := fun y => if y = x then none else f y

theorem Is.put {D : DataW Unit} {f : FM} (h : Is D f) {x v : Int} (hx : I64 x) (hv : I64 v) : Is (D.put (.int .i64 x) (.lit (.int .i64 v))) (put f x v) := by
  refine ⟨h.map.put _ _, fun y hy => ?_, fun y b hy e z => ?_, fun y b e => ?_⟩
  · by_cases c : y = x
    · subst c; rw [has_put_same h.map (isKey _)]; simp [Ytdbgnniedcibeaa.put]
    · rw [has_put_other (lit_ne c), h.has y hy]; simp [Ytdbgnniedcibeaa.put, c]
  · by_cases c : y = x
    · subst c
      simp [Ytdbgnniedcibeaa.put] at e
      subst e
      rw [atKey_put_same h.map (isKey _)]
    · simp [Ytdbgnniedcibeaa.put, c] at e
      rw [atKey_put_other (lit_ne c), h.at_ y b hy e]
  · by_cases c : y = x
    · subst c
      simp [Ytdbgnniedcibeaa.put] at e
      subst e
      exact ⟨hx, hv⟩
    · simp [Ytdbgnniedcibeaa.put, c] at e
      exact h.dom y b e
theorem Is.cut {D : DataW Unit} {f : FM} (h : Is D f) {x : Int} : Is (D.del (.int .i64 x)) (cut f x) := by
  refine ⟨h.map.del _, fun y hy => ?_, fun y b hy e z => ?_, fun y b e => ?_⟩
  · by_cases c : y = x
    · subst c; rw [has_del_same]; simp [Ytdbgnniedcibeaa.cut]
    · rw [has_del_other (lit_ne c), h.has y hy]; simp [Ytdbgnniedcibeaa.cut, c]
  · by_cases c : y = x
    · subst c
      simp [Ytdbgnniedcibeaa.cut] at e
    · simp [Ytdbgnniedcibeaa.cut, c] at e
      rw [atKey_del_other (lit_ne c), h.at_ y b hy e]
  · by_cases c : y = x
    · subst c
      simp [Ytdbgnniedcibeaa.cut] at e
    · simp [Ytdbgnniedcibeaa.cut, c] at e
      exact h.dom y b e

theorem zeroI (w : World) : (zeroValue 3).run Try.prog w = .ok (.int .i64 0) w := by kernel_rfl

theorem keyI {x : Int} (h : I64 x) : keyOf Try.prog 3 (.int .i64 x) = some (.int .i64 x) := keyOf_int_mk Try.underlying3 h

theorem IMapO.look {w : World} {p : Option Nat} {n : Nat} {f : FM} (h : IMapO w p n f) {x : Int} (hx : I64 x) :
    (Instr.lookup 51 (.map p) (.int .i64 x) true).run Try.prog w = .ok (.tuple #[.int .i64 ((f x).getD 0), .bool (f x).isSome]) w := by
  rcases h with ⟨rfl, h⟩ | ⟨b, rfl, D, hown, hi⟩
  · rw [h]
    exact Maps.look_nil true keyedI Try.underlying51 (zeroI w) (keyI hx)
  · obtain ⟨v, ps, hrun, hv⟩ := hown.look_ok keyedI Try.underlying51 (zeroI w) (plainElem_int Try.underlying3 (by decide)) (keyI hx)
    rw [hrun, hi.has x hx]
    obtain ⟨c, rfl, hc, hwc⟩ := plainElem_int_inv Try.underlying3 hv
    have hc := congrArg Prod.fst hc
    cases hf : f x with
    | none =>
      rw [atKey_of_not_has (by rw [hi.has x hx, hf]; rfl)] at hc
      cases hc
      rfl
    | some b =>
      rw [hi.at_ x b hx hf] at hc
      cases hc
      rfl

theorem own_tight {w : World} {b n : Nat} {D : DataW Unit} (h : w.ownsMap Try.prog 3 RI b n D) : w.ownsMap Try.prog 3 RI b (Maps.size D) D := by
  obtain ⟨es, clock, hb, F, hs, rfl⟩ := h
  exact ⟨es, clock, hb, F, by simp [Maps.size, length_sorted], rfl⟩

section
variable (w : World) {ops : Array Oper} {rest : List Oper} {o : Oper} {a : Act} {Q : Exit → Act → World → Prop}

/-- 'v, ok := m[x]' where x is not in the map. -/
theorem wpList_look_none (hg : o.guard = none) (m x : Operand) (hop : o.op = Op.lookup 51 m x true) (p : Option Nat) (n : Nat) (f : FM) (hm : a.eval m = .map p) (h : IMapO w p n f)
    (k : Int) (hx : a.eval x = .int .i64 k) (hk : I64 k) (hf : f k = none) (hK : wpList Try.prog ops Q rest (a.put o.dst (.tuple #[.int .i64 0, .bool false])) w) : wpList Try.prog ops Q (o :: rest) a w := by
  refine wpList_plain hg fun K' hK' => ?_
  have hrun := h.look hk
  rw [hf] at hrun
  unfold Oper.wp
  simp [execOp, hop, hm, hx, hrun, Result.andThen]
  exact hK' _ _ hK
/-- 'v, ok := m[x]' where x is in the map. -/
theorem wpList_look_some (hg : o.guard = none) (m x : Operand) (hop : o.op = Op.lookup 51 m x true) (p : Option Nat) (n : Nat) (f : FM) (hm : a.eval m = .map p) (h : IMapO w p n f)
    (k : Int) (hx : a.eval x = .int .i64 k) (hk : I64 k) (b : Int) (hf : f k = some b) (hK : wpList Try.prog ops Q rest (a.put o.dst (.tuple #[.int .i64 b, .bool true])) w) : wpList Try.prog ops Q (o :: rest) a w := by
  refine wpList_plain hg fun K' hK' => ?_
  have hrun := h.look hk
  rw [hf] at hrun
  unfold Oper.wp
  simp [execOp, hop, hm, hx, hrun, Result.andThen]
  exact hK' _ _ hK
/-- .. whichever. -/
theorem wpList_look_any (hg : o.guard = none) (m x : Operand) (hop : o.op = Op.lookup 51 m x true) (p : Option Nat) (n : Nat) (f : FM) (hm : a.eval m = .map p) (h : IMapO w p n f)
    (k : Int) (hx : a.eval x = .int .i64 k) (hk : I64 k) (c : Int) (ok : Bool) (hc : (f k).getD 0 = c) (hok : (f k).isSome = ok) (hK : wpList Try.prog ops Q rest (a.put o.dst (.tuple #[.int .i64 c, .bool ok])) w) : wpList Try.prog ops Q (o :: rest) a w := by
  refine wpList_plain hg fun K' hK' => ?_
  have hrun := h.look hk
  rw [hc, hok] at hrun
  unfold Oper.wp
  simp [execOp, hop, hm, hx, hrun, Result.andThen]
  exact hK' _ _ hK

/-- 'm[x] = v'. -/
theorem wpList_store_im (hg : o.guard = none) (m x v : Operand) (hop : o.op = Op.mapUpdate 51 m x v) (b n : Nat) (f : FM) (hm : a.eval m = .map (some b)) (h : IMap w b n f) (hn : n < maxLen)
    (k c : Int) (hx : a.eval x = .int .i64 k) (hv : a.eval v = .int .i64 c) (hk : I64 k) (hc : I64 c)
    (hK : ∀ w', IMap w' b (n + 1) (put f k c) → w.grownBy w' (some b) → wpList Try.prog ops Q rest (a.put o.dst undef) w') : wpList Try.prog ops Q (o :: rest) a w := by
  obtain ⟨D, hown, hi⟩ := h
  exact wpList_mapUpdate_own w hg m x v _ hop _ _ keyedI Try.underlying51 RI b n D hm hown hn _ _ _ hx hv (keyI hk) _ [] (plainElem_int Try.underlying3 hc)
    (fun w' h1 h2 => hK w' ⟨_, h1, hi.put hk hc⟩ h2)

/-- 'm[x] = v' at a key that is there: no entry more. -/
theorem wpList_store_old (hg : o.guard = none) (m x v : Operand) (hop : o.op = Op.mapUpdate 51 m x v) (b n : Nat) (f : FM) (hm : a.eval m = .map (some b)) (h : IMap w b n f) (hn : n < maxLen)
    (k c : Int) (hx : a.eval x = .int .i64 k) (hv : a.eval v = .int .i64 c) (hk : I64 k) (hc : I64 c) (hold : (f k).isSome = true)
    (hK : ∀ w', IMap w' b n (put f k c) → w.grownBy w' (some b) → wpList Try.prog ops Q rest (a.put o.dst undef) w') : wpList Try.prog ops Q (o :: rest) a w := by
  obtain ⟨D, hown, hi⟩ := h
  refine wpList_mapUpdate_own w hg m x v _ hop _ _ keyedI Try.underlying51 RI b n D hm hown hn _ _ _ hx hv (keyI hk) _ [] (plainElem_int Try.underlying3 hc)
    (fun w' h1 h2 => hK w' ⟨_, (own_tight h1).mono ?_, hi.put hk hc⟩ h2)
  rw [size_put (hown.tidy keyedI), hi.has k hk, hold]
  exact hown.size_le

/-- 'delete(m, x)'. -/
theorem wpList_delete_im (hg : o.guard = none) (m x : Operand) (hop : o.op = Op.call { callee := Callee.builtin Builtin.delete, args := #[m, x], argTypes := #[51, 3] }) (b n : Nat) (f : FM)
    (hm : a.eval m = .map (some b)) (h : IMap w b n f) (k : Int) (hx : a.eval x = .int .i64 k) (hk : I64 k)
    (hK : ∀ w', IMap w' b n (cut f k) → w.grownBy w' (some b) → wpList Try.prog ops Q rest (a.put o.dst (.tuple #[])) w') : wpList Try.prog ops Q (o :: rest) a w := by
  obtain ⟨D, hown, hi⟩ := h
  exact wpList_delete_own w hg m x _ _ hop _ keyedI Try.underlying51 RI b n D hm hown _ _ hx (keyI hk) (fun w' h1 h2 => hK w' ⟨_, h1, hi.cut⟩ h2.grown)
end

/-! ### a range over such a map -/
/-- Block r is an iterator over the map in block b, which reads as f; 'lf x': the entry at x is still to come. -/
def RMap (w : World) (b r n : Nat) (f : FM) (lf : Int → Bool) (cnt : Nat) : Prop :=
  ∃ (D : DataW Unit) (left : Lit → Bool), w.ranges Try.prog 3 RI b r n D left cnt ∧ Is D f ∧ (∀ x, I64 x → left (.int .i64 x) = lf x) ∧ ∀ x, lf x = true → (f x).isSome = true

theorem RMap.left_eq {w : World} {b r n : Nat} {f : FM} {lf : Int → Bool} {cnt : Nat} (h : RMap w b r n f lf cnt) : w.rangeLeft b r = cnt := by obtain ⟨_, _, h, _⟩ := h; exact h.left_eq
theorem RMap.owns {w : World} {b r n : Nat} {f : FM} {lf : Int → Bool} {cnt : Nat} (h : RMap w b r n f lf cnt) : IMap w b n f := by obtain ⟨D, _, h, i, _⟩ := h; exact ⟨D, h.owns, i⟩
theorem RMap.lt {w : World} {b r n : Nat} {f : FM} {lf : Int → Bool} {cnt : Nat} (h : RMap w b r n f lf cnt) : r < w.heap.size := by obtain ⟨D, _, h, i, _⟩ := h; exact h.lt
theorem RMap.same {w w' : World} {b r n : Nat} {f : FM} {lf : Int → Bool} {cnt : Nat} (h : RMap w b r n f lf cnt) (hb : w'.heap[b]? = w.heap[b]?) (hr : w'.heap[r]? = w.heap[r]?) : RMap w' b r n f lf cnt := by
  obtain ⟨D, left, h, i, e, d⟩ := h
  refine ⟨D, left, ?_, i, e, d⟩
  obtain ⟨es, clock, since, seen, c0, h1, F, hs, hD, h2, rest⟩ := h
  exact ⟨es, clock, since, seen, c0, hb.trans h1, F, hs, hD, hr.trans h2, rest⟩
theorem RMap.grown {w w' : World} {b r n : Nat} {f : FM} {lf : Int → Bool} {cnt : Nat} {row : Option Nat} (h : RMap w b r n f lf cnt) (hg : w.grownBy w' row) (hb : some b ≠ row) (hr : some r ≠ row) : RMap w' b r n f lf cnt :=
  h.same (hg.block b h.owns.lt hb) (hg.block r h.lt hr)
theorem RMap.dom {w : World} {b r n : Nat} {f : FM} {lf : Int → Bool} {cnt : Nat} (h : RMap w b r n f lf cnt) : ∀ x, lf x = true → (f x).isSome = true := by obtain ⟨_, _, _, _, _, d⟩ := h; exact d

section
variable (w : World) {ops : Array Oper} {rest : List Oper} {o : Oper} {a : Act} {Q : Exit → Act → World → Prop}

theorem wpList_range_im (hg : o.guard = none) (m : Operand) (hop : o.op = Op.range 51 m) (r : Nat) (hr : w.heap.size = r) (b n : Nat) (f : FM) (hm : a.eval m = .map (some b)) (h : IMap w b n f)
    (hK : ∀ w' cnt, RMap w' b r n f (fun x => (f x).isSome) cnt → Ext w w' → w'.heap.size = r + 1 → cnt ≤ n → wpList Try.prog ops Q rest (a.put o.dst (.pointer (some ⟨r, 0, none⟩))) w') :
    wpList Try.prog ops Q (o :: rest) a w := by
  subst hr
  obtain ⟨D, hown, hi⟩ := h
  exact wpList_range_own w hg m _ hop _ _ keyedI Try.underlying51 RI b n D hm hown
    (fun w' h1 h2 h3 => hK w' _ ⟨D, _, h1, hi, fun x hx => hi.has x hx, fun x hx => hx⟩ ⟨h2.os, h2.tape, h2.output, h2.size, fun k hk => h2.block k hk (by simp)⟩ h3 hown.size_le)

theorem wpList_next_im (hg : o.guard = none) (it : Operand) (hop : o.op = Op.next it false) (b r n : Nat) (f : FM) (lf : Int → Bool) (cnt : Nat)
    (hit : a.eval it = .pointer (some ⟨r, 0, none⟩)) (h : RMap w b r n f lf cnt)
    (hDone : (∀ x, lf x = false) → wpList Try.prog ops Q rest (a.put o.dst (.tuple #[.bool false])) w)
    (hMore : ∀ (x c : Int) (w' : World) (cnt' : Nat), I64 x → I64 c → lf x = true → f x = some c → RMap w' b r n f (fun z => lf z && !decide (z = x)) cnt' → cnt' < cnt → w.grownBy w' (some r) → w'.heap.size = w.heap.size →
      (Instr.entry (.pointer (some ⟨r, 0, none⟩))).run Try.prog w' = .ok (.tuple #[.int .i64 x, .int .i64 c]) w' → wpList Try.prog ops Q rest (a.put o.dst (.tuple #[.bool true, .int .i64 x, .int .i64 c])) w') :
    wpList Try.prog ops Q (o :: rest) a w := by
  obtain ⟨D, left, hr, hi, hl, hd⟩ := h
  refine wpList_next_ranges_ii w hg it hop _ _ _ _ keyedI Try.underlying3 Try.underlying3 b r n D left cnt hit hr (fun h0 h1 => hDone fun x => ?_) (fun x c w' cnt' hwx hwc hlx hat hrg hlt hgr hsz hen => ?_)
  · cases hx : lf x
    · rfl
    · have hs := hd x hx
      obtain ⟨b, hb⟩ := Option.isSome_iff_exists.1 hs
      rw [← hl x (hi.dom x b hb).1, h1] at hx
      cases hx
  · have hlf : lf x = true := by rw [← hl x hwx]; exact hlx
    have hs := hd x hlf
    obtain ⟨c', hc'⟩ := Option.isSome_iff_exists.1 hs
    have e := (hi.at_ x c' hwx hc' .nil).symm.trans (hat .nil)
    obtain rfl : c' = c := by injection e with e; injection e
    refine hMore x c' w' cnt' hwx hwc hlf hc' ⟨D, _, hrg, hi, fun y hy => ?_, fun y hy => ?_⟩ hlt hgr hsz hen
    · show (left (Lit.int .i64 y) && !(Lit.int .i64 y).sameKey (Lit.int .i64 x)) = _
      rw [hl y hy, same_lit]
    · simp only [Bool.and_eq_true] at hy
      exact hd y hy.1
end
end Go.Proofs.Ytdbgnniedcibeaa
