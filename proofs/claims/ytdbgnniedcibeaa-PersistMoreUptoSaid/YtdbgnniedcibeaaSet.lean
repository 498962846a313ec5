/- Maps of ints to true, read as sets: the laws of the walk at a store, a look-up, a range. -/
import Derived.Test.YtdbgnniedcibeaaMap
namespace Go.Proofs.Ytdbgnniedcibeaa
open Go.RowKit Go.Maps
set_option linter.unusedVariables false

abbrev SB := Int → Bool
noncomputable abbrev RB : Value → Option (DataW Unit × List MemPlace) := plainElem Try.prog 4
theorem plainElem_bool_inv {P : Program} {e : TypeId} (he : P.underlying e = some .bool) {v : Value} {z : DataW Unit × List MemPlace} (h : plainElem P e v = some z) : ∃ c, v = .bool c ∧ z = (.lit (.bool c), []) := by
  unfold plainElem at h
  rw [he] at h
  cases v <;> simp at h
  exact ⟨_, rfl, h.symm⟩
/-- The datum D reads as the set s. -/
structure IsS (D : DataW Unit) (s : SB) : Prop where
  map : IsMap D
  has : ∀ x, I64 x → Maps.has D (.int .i64 x) = s x
  at_ : ∀ x, I64 x → s x = true → ∀ z, D.atKey (.int .i64 x) z = .lit (.bool true)
  dom : ∀ x, s x = true → I64 x
/-- Block b of w is a map of at most n entries that reads as the set s. -/
def ISet (w : World) (b n : Nat) (s : SB) : Prop := ∃ D : DataW Unit, w.ownsMap Try.prog 3 RB b n D ∧ IsS D s
theorem ISet.lt {w : World} {b n : Nat} {s : SB} (h : ISet w b n s) : b < w.heap.size := by obtain ⟨D, h, _⟩ := h; exact h.lt
theorem ISet.same {w w' : World} {b n : Nat} {s : SB} (h : ISet w b n s) (e : w'.heap[b]? = w.heap[b]?) : ISet w' b n s := by
  obtain ⟨D, ⟨es, clock, hb, r⟩, i⟩ := h
  exact ⟨D, ⟨es, clock, e.trans hb, r⟩, i⟩
theorem ISet.ext {w w' : World} {b n : Nat} {s : SB} (h : ISet w b n s) (e : Ext w w') : ISet w' b n s := h.same (e.block h.lt)
theorem ISet.grown {w w' : World} {b n : Nat} {s : SB} {row : Option Nat} (h : ISet w b n s) (hg : w.grownBy w' row) (hne : some b ≠ row) : ISet w' b n s := h.same (hg.block b h.lt hne)
theorem ISet.mono {w : World} {b n n' : Nat} {s : SB} (h : ISet w b n s) (hn : n ≤ n') : ISet w b n' s := by obtain ⟨D, h, i⟩ := h; exact ⟨D, h.mono hn, i⟩
theorem ISet.alloc {w : World} {b n : Nat} {s : SB} (h : ISet w b n s) (o : Obj) : ISet (w.alloc o) b n s := h.same (Below.heap_alloc _ _ _ h.lt)
theorem ISet.dom {w : World} {b n : Nat} {s : SB} (h : ISet w b n s) {x : Int} (e : s x = true) : I64 x := by obtain ⟨D, h, i⟩ := h; exact i.dom x e
theorem ISet.congr {w : World} {b n : Nat} {s t : SB} (h : ISet w b n s) (e : ∀ x, s x = t x) : ISet w b n t := by
  obtain rfl : s = t := funext e
  exact h
theorem ISet.obj {w : World} {b n : Nat} {s : SB} (h : ISet w b n s) : ∃ es clock, w.heap[b]? = some (.map es clock) := by
  obtain ⟨D, ⟨es, clock, hb, r⟩, i⟩ := h
  exact ⟨es, clock, hb⟩
def noS : SB := fun _ => false
def putS (s : SB) (x : Int) : SB := fun y => if y = x then true else s y
theorem ISet.made' {w : World} {b : Nat} (hb : b = w.heap.size) : ISet (w.alloc (.map #[] 0)) b 0 noS := by
  subst hb
  exact ⟨_, World.ownsMap_made _ _ _ _, ⟨⟨_, rfl⟩, fun _ _ => rfl, fun _ _ h => (by cases h), fun _ h => (by cases h)⟩⟩
theorem IsS.put {D : DataW Unit} {s : SB} (h : IsS D s) {x : Int} (hx : I64 x) : IsS (D.put (.int .i64 x) (.lit (.bool true))) (putS s x) := by
  refine ⟨h.map.put _ _, fun y hy => ?_, fun y hy e z => ?_, fun y e => ?_⟩
  · by_cases c : y = x
    · subst c; rw [has_put_same h.map (isKey _)]; simp [putS]
    · rw [has_put_other (lit_ne c), h.has y hy]; simp [putS, c]
  · by_cases c : y = x
    · subst c
      rw [atKey_put_same h.map (isKey _)]
    · simp [putS, c] at e
      rw [atKey_put_other (lit_ne c), h.at_ y hy e]
  · by_cases c : y = x
    · subst c
      exact hx
    · simp [putS, c] at e
      exact h.dom y e
theorem zeroB (w : World) : (zeroValue 4).run Try.prog w = .ok (.bool false) w := by kernel_rfl
theorem own_tightB {w : World} {b n : Nat} {D : DataW Unit} (h : w.ownsMap Try.prog 3 RB b n D) : w.ownsMap Try.prog 3 RB b (Maps.size D) D := by
  obtain ⟨es, clock, hb, F, hs, rfl⟩ := h
  exact ⟨es, clock, hb, F, by simp [Maps.size, length_sorted], rfl⟩

section
variable (w : World) {ops : Array Oper} {rest : List Oper} {o : Oper} {a : Act} {Q : Exit → Act → World → Prop}
/-- 'm[x] = true'. -/
theorem wpList_store_set (hg : o.guard = none) (m x v : Operand) (hop : o.op = Op.mapUpdate 60 m x v) (b n : Nat) (s : SB) (hm : a.eval m = .map (some b)) (h : ISet w b n s) (hn : n < maxLen)
    (k : Int) (hx : a.eval x = .int .i64 k) (hv : a.eval v = .bool true) (hk : I64 k)
    (hK : ∀ w', ISet w' b (n + 1) (putS s k) → (s k = true → ISet w' b n (putS s k)) → w.grownBy w' (some b) → wpList Try.prog ops Q rest (a.put o.dst undef) w') : wpList Try.prog ops Q (o :: rest) a w := by
  obtain ⟨D, hown, hi⟩ := h
  refine wpList_mapUpdate_own w hg m x v _ hop _ _ keyedI Try.underlying60 RB b n D hm hown hn _ _ _ hx hv (keyI hk) _ [] (plainElem_bool Try.underlying4 true)
    (fun w' h1 h2 => hK w' ⟨_, h1, hi.put hk⟩ (fun hs => ⟨_, (own_tightB h1).mono ?_, hi.put hk⟩) h2)
  rw [size_put (hown.tidy keyedI), hi.has k hk, hs]
  exact hown.size_le
end

/-! ### a range over such a map -/
/-- Block r is an iterator over the map in block b, which reads as s; 'lf x': the entry at x is still to come. -/
def RSet (w : World) (b r n : Nat) (s : SB) (lf : Int → Bool) (cnt : Nat) : Prop :=
  ∃ (D : DataW Unit) (left : Lit → Bool), w.ranges Try.prog 3 RB b r n D left cnt ∧ IsS D s ∧ (∀ x, I64 x → left (.int .i64 x) = lf x) ∧ ∀ x, lf x = true → s x = true
theorem RSet.left_eq {w : World} {b r n : Nat} {s : SB} {lf : Int → Bool} {cnt : Nat} (h : RSet w b r n s lf cnt) : w.rangeLeft b r = cnt := by obtain ⟨_, _, h, _⟩ := h; exact h.left_eq
theorem RSet.owns {w : World} {b r n : Nat} {s : SB} {lf : Int → Bool} {cnt : Nat} (h : RSet w b r n s lf cnt) : ISet w b n s := by obtain ⟨D, _, h, i, _⟩ := h; exact ⟨D, h.owns, i⟩
theorem RSet.lt {w : World} {b r n : Nat} {s : SB} {lf : Int → Bool} {cnt : Nat} (h : RSet w b r n s lf cnt) : r < w.heap.size := by obtain ⟨D, _, h, i, _⟩ := h; exact h.lt
theorem RSet.same {w w' : World} {b r n : Nat} {s : SB} {lf : Int → Bool} {cnt : Nat} (h : RSet w b r n s lf cnt) (hb : w'.heap[b]? = w.heap[b]?) (hr : w'.heap[r]? = w.heap[r]?) : RSet w' b r n s lf cnt := by
  obtain ⟨D, left, h, i, e, d⟩ := h
  refine ⟨D, left, ?_, i, e, d⟩
  obtain ⟨es, clock, since, seen, c0, h1, F, hs, hD, h2, rest⟩ := h
  exact ⟨es, clock, since, seen, c0, hb.trans h1, F, hs, hD, hr.trans h2, rest⟩
theorem RSet.grown {w w' : World} {b r n : Nat} {s : SB} {lf : Int → Bool} {cnt : Nat} {row : Option Nat} (h : RSet w b r n s lf cnt) (hg : w.grownBy w' row) (hb : some b ≠ row) (hr : some r ≠ row) : RSet w' b r n s lf cnt :=
  h.same (hg.block b h.owns.lt hb) (hg.block r h.lt hr)
theorem RSet.ext {w w' : World} {b r n : Nat} {s : SB} {lf : Int → Bool} {cnt : Nat} (h : RSet w b r n s lf cnt) (e : Ext w w') : RSet w' b r n s lf cnt := h.same (e.block h.owns.lt) (e.block h.lt)
theorem RSet.iter {w : World} {b r n : Nat} {s : SB} {lf : Int → Bool} {cnt : Nat} (h : RSet w b r n s lf cnt) : ∀ cs t, w.heap[r]? ≠ some (.cells cs t (0, 0)) := by
  obtain ⟨D, left, h, i, e, d⟩ := h
  obtain ⟨es, clock, since, seen, c0, h1, F, hs, hD, h2, rest⟩ := h
  intro cs t e
  rw [h2] at e
  cases e
theorem RSet.dom {w : World} {b r n : Nat} {s : SB} {lf : Int → Bool} {cnt : Nat} (h : RSet w b r n s lf cnt) : ∀ x, lf x = true → s x = true := by obtain ⟨_, _, _, _, _, d⟩ := h; exact d

section
variable (w : World) {ops : Array Oper} {rest : List Oper} {o : Oper} {a : Act} {Q : Exit → Act → World → Prop}
theorem wpList_range_set (hg : o.guard = none) (m : Operand) (hop : o.op = Op.range 60 m) (r : Nat) (hr : w.heap.size = r) (b n : Nat) (s : SB) (hm : a.eval m = .map (some b)) (h : ISet w b n s)
    (hK : ∀ w' cnt, RSet w' b r n s s cnt → Ext w w' → w'.heap.size = r + 1 → cnt ≤ n → wpList Try.prog ops Q rest (a.put o.dst (.pointer (some ⟨r, 0, none⟩))) w') :
    wpList Try.prog ops Q (o :: rest) a w := by
  subst hr
  obtain ⟨D, hown, hi⟩ := h
  exact wpList_range_own w hg m _ hop _ _ keyedI Try.underlying60 RB b n D hm hown
    (fun w' h1 h2 h3 => hK w' _ ⟨D, _, h1, hi, fun x hx => hi.has x hx, fun x hx => hx⟩ ⟨h2.os, h2.tape, h2.output, h2.size, fun k hk => h2.block k hk (by simp)⟩ h3 hown.size_le)
theorem wpList_next_set (hg : o.guard = none) (it : Operand) (hop : o.op = Op.next it false) (b r n : Nat) (s : SB) (lf : Int → Bool) (cnt : Nat)
    (hit : a.eval it = .pointer (some ⟨r, 0, none⟩)) (h : RSet w b r n s lf cnt)
    (hDone : (∀ x, lf x = false) → wpList Try.prog ops Q rest (a.put o.dst (.tuple #[.bool false])) w)
    (hMore : ∀ (x : Int) (w' : World) (cnt' : Nat), I64 x → lf x = true → RSet w' b r n s (fun z => lf z && !decide (z = x)) cnt' → cnt' < cnt → w.grownBy w' (some r) → w'.heap.size = w.heap.size →
      (Instr.entry (.pointer (some ⟨r, 0, none⟩))).run Try.prog w' = .ok (.tuple #[.int .i64 x, .bool true]) w' → wpList Try.prog ops Q rest (a.put o.dst (.tuple #[.bool true, .int .i64 x, .bool true])) w') :
    wpList Try.prog ops Q (o :: rest) a w := by
  obtain ⟨D, left, hr, hi, hl, hd⟩ := h
  refine wpList_next_ranges w hg it hop 3 keyedI RB (Value.int .i64) Value.bool (fun key kl hkey => by obtain ⟨x, rfl, _⟩ := Maps.keyOf_int_inv Try.underlying3 hkey; exact ⟨x, rfl⟩) (fun v y hv => by obtain ⟨c, rfl, _⟩ := plainElem_bool_inv Try.underlying4 hv; exact ⟨c, rfl⟩)
    b r n D left cnt hit hr (fun h0 h1 => hDone fun x => ?_) (fun x c kl y w' cnt' hkey hlk hv hat hrg hlt hgr hsz hen => ?_)
  · cases hx : lf x
    · rfl
    · have hs := hd x hx
      rw [← hl x (hi.dom x hs), h1] at hx
      cases hx
  · obtain ⟨x', ex, rfl, hwx⟩ := Maps.keyOf_int_inv Try.underlying3 hkey
    cases ex
    have hlf : lf x = true := by rw [← hl x hwx]; exact hlk
    obtain ⟨c', ec, rfl⟩ := plainElem_bool_inv Try.underlying4 hv
    cases ec
    have e := (hi.at_ x hwx (hd x hlf) .nil).symm.trans (hat .nil)
    obtain rfl : true = c := by injection e with e; injection e
    refine hMore x w' cnt' hwx hlf ⟨D, _, hrg, hi, fun y hy => ?_, fun y hy => ?_⟩ hlt hgr hsz hen
    · show (left (Lit.int .i64 y) && !(Lit.int .i64 y).sameKey (Lit.int .i64 x)) = _
      rw [hl y hy, same_lit]
    · simp only [Bool.and_eq_true] at hy
      exact hd y hy.1
end
end Go.Proofs.Ytdbgnniedcibeaa
