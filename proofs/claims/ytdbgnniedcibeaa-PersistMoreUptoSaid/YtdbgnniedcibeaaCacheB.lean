/- A cache in memory: its block, the block of its rows' slices, its rows. -/
import Derived.Test.YtdbgnniedcibeaaCacheA
namespace Go.Proofs.Ytdbgnniedcibeaa
open Go.RowKit
set_option linter.unusedVariables false

abbrev cachO (S W L : Int) (g : Nat) : Obj := .cells #[.int .i64 S, .int .i64 W, .int .i64 L, .slice (some ⟨g, 0, none⟩) S.toNat S.toNat] 64
/-- Block q is a cache; g: the slices of its rows; vs: what g holds; F: the blocks that an access may turn. -/
structure CaP (w : World) (base q : Nat) (S W L : Int) (F : Nat → Prop) (g : Nat) (vs : List Value) (rows : List (List Int)) : Prop where
  hq : base ≤ q
  kq : Blk w q (cachO S W L g)
  kg : Blk w g (.cells vs.toArray 29)
  fg : F g
  lenv : vs.length = S.toNat
  lenr : rows.length = S.toNat
  row : ∀ (i : Nat) (v : Value) (r : List Int), vs[i]? = some v → rows[i]? = some r → RowB w base v r ∧ ∀ k, v.ownBlock = some k → F k
  apart : ∀ (i j k : Nat) (v v' : Value), vs[i]? = some v → vs[j]? = some v' → v.ownBlock = some k → v'.ownBlock = some k → i = j
  foot : ∀ k, F k → base ≤ k ∧ k < w.heap.size ∧ ∃ (cs : Array Value) (t : TypeId), Blk w k (.cells cs t) ∧ (t = 3 ∨ t = 29)
def CaB (w : World) (base q : Nat) (S W L : Int) (F : Nat → Prop) (rows : List (List Int)) : Prop := ∃ g vs, CaP w base q S W L F g vs rows

section
variable {w w' : World} {base q g : Nat} {S W L : Int} {F : Nat → Prop} {vs : List Value} {rows : List (List Int)}
/-- A block of another kind is not among those that an access turns. -/
theorem CaP.out (h : CaP w base q S W L F g vs rows) {k : Nat} {o : Obj} (hk : Blk w k o) (ho : ∀ cs, o ≠ .cells cs 3 ∧ o ≠ .cells cs 29) : ¬ F k := fun hF => by
  obtain ⟨_, _, cs, t, hb, ht⟩ := h.foot k hF
  unfold Blk at hk hb
  rw [hk] at hb
  cases hb
  rcases ht with rfl | rfl
  · exact (ho cs).1 rfl
  · exact (ho cs).2 rfl
theorem cells_ne {cs : Array Value} {t : TypeId} (h1 : t ≠ 3) (h2 : t ≠ 29) : ∀ ds, Obj.cells cs t ≠ .cells ds 3 ∧ Obj.cells cs t ≠ .cells ds 29 := fun ds => ⟨fun e => by cases e; exact h1 rfl, fun e => by cases e; exact h2 rfl⟩
theorem CaP.fq (h : CaP w base q S W L F g vs rows) : ¬ F q := h.out h.kq (cells_ne (by decide) (by decide))
theorem Blk.agree {B : Nat} {o o' : Obj} (h : Blk w B o) (k : Blk w B o') : o = o' := by unfold Blk at h k; rw [h] at k; exact Option.some.inj k
theorem CaP.fr {G : Nat → Prop} (h : CaP w base q S W L F g vs rows) (f : Fr G w w') (hG : ∀ k, F k → ¬ G k) (hq : ¬ G q) : CaP w' base q S W L F g vs rows :=
  ⟨h.hq, h.kq.fr f hq, h.kg.fr f (hG g h.fg), h.fg, h.lenv, h.lenr, fun i v r hv hr => ⟨(h.row i v r hv hr).1.fr f (fun k hk => hG k ((h.row i v r hv hr).2 k hk)), (h.row i v r hv hr).2⟩, h.apart, fun k hk => by
    obtain ⟨h1, h2, cs, t, hb, ht⟩ := h.foot k hk
    exact ⟨h1, Nat.lt_of_lt_of_le h2 f.size, cs, t, hb.fr f (hG k hk), ht⟩⟩
theorem CaP.ext (h : CaP w base q S W L F g vs rows) (f : Ext w w') : CaP w' base q S W L F g vs rows := h.fr (G := fun _ => False) (Fr.ofExt _ f) (fun _ _ h => h) (fun h => h)
theorem CaB.ext (h : CaB w base q S W L F rows) (f : Ext w w') : CaB w' base q S W L F rows := by obtain ⟨g, vs, h⟩ := h; exact ⟨g, vs, h.ext f⟩
theorem CaB.fr {G : Nat → Prop} (h : CaB w base q S W L F rows) (f : Fr G w w') (hG : ∀ k, F k → ¬ G k) (hq : ¬ G q) : CaB w' base q S W L F rows := by obtain ⟨g, vs, h⟩ := h; exact ⟨g, vs, h.fr f hG hq⟩
theorem CaB.lower {base' : Nat} (h : CaB w base q S W L F rows) (hb : base' ≤ base) : CaB w base' q S W L F rows := by
  obtain ⟨g, vs, h⟩ := h
  exact ⟨g, vs, Nat.le_trans hb h.hq, h.kq, h.kg, h.fg, h.lenv, h.lenr, fun i v r hv hr => ⟨(h.row i v r hv hr).1.lower hb, (h.row i v r hv hr).2⟩, h.apart, fun k hk => ⟨Nat.le_trans hb (h.foot k hk).1, (h.foot k hk).2⟩⟩
theorem CaB.fromB (h : CaB w base q S W L F rows) : ∀ k, F k → base ≤ k := by obtain ⟨g, vs, h⟩ := h; exact fun k hk => (h.foot k hk).1
theorem CaB.lt (h : CaB w base q S W L F rows) : ∀ k, F k → k < w.heap.size := by obtain ⟨g, vs, h⟩ := h; exact fun k hk => (h.foot k hk).2.1
theorem CaB.out (h : CaB w base q S W L F rows) {k : Nat} {o : Obj} (hk : Blk w k o) (ho : ∀ cs, o ≠ .cells cs 3 ∧ o ≠ .cells cs 29) : ¬ F k := by obtain ⟨g, vs, h⟩ := h; exact h.out hk ho
theorem CaB.fq (h : CaB w base q S W L F rows) : ¬ F q := by obtain ⟨g, vs, h⟩ := h; exact h.fq
theorem CaB.qlt (h : CaB w base q S W L F rows) : base ≤ q ∧ q < w.heap.size := by obtain ⟨g, vs, h⟩ := h; exact ⟨h.hq, h.kq.lt⟩
/-- .. so it stays. -/
theorem CaB.keep (h : CaB w base q S W L F rows) (f : Fr F w w') {k : Nat} {cs : Array Value} {t : TypeId} (hk : Blk w k (.cells cs t)) (h1 : t ≠ 3) (h2 : t ≠ 29) : Blk w' k (.cells cs t) := hk.fr f (h.out hk (cells_ne h1 h2))
/-- A map stays. -/
theorem CaB.keepMap (h : CaB w base q S W L F rows) (f : Fr F w w') {k : Nat} {es : Array MapEntry} {c : Nat} (hk : w.heap[k]? = some (.map es c)) : w'.heap[k]? = w.heap[k]? := by
  have : ¬ F k := h.out (o := .map es c) hk (fun cs => ⟨(by intro e; cases e), (by intro e; cases e)⟩)
  exact f.block k (Blk.lt (o := .map es c) hk) this

theorem CaP.at_ (h : CaP w base q S W L F g vs rows) {i : Nat} (hi : i < S.toNat) : ∃ v, vs[i]? = some v ∧ RowB w base v (rows.getD i []) ∧ (∀ k, v.ownBlock = some k → F k) ∧ (∀ k, v.ownBlock = some k → k ≠ g) := by
  have hiv : i < vs.length := by have := h.lenv; omega
  have hir : i < rows.length := by have := h.lenr; omega
  have hr : rows[i]? = some (rows.getD i []) := by rw [List.getD, List.getElem?_eq_getElem hir]; rfl
  obtain ⟨h1, h2⟩ := h.row i _ _ (List.getElem?_eq_getElem hiv) hr
  refine ⟨_, List.getElem?_eq_getElem hiv, h1, h2, fun k hk e => ?_⟩
  subst e
  obtain ⟨cs, hb⟩ := h1.kind k hk
  have := Blk.agree h.kg hb
  injection this with _ e _
  exact absurd e (by decide)

theorem CaP.put (h : CaP w base q S W L F g vs rows) {i : Nat} {v v' : Value} {r' : List Int} (hv : vs[i]? = some v) (f : Fr (fun k => k = g ∨ v.ownBlock = some k) w w') (hg : Blk w' g (.cells (vs.set i v').toArray 29)) (hr' : RowB w' base v' r')
    (hn : ∀ k, v'.ownBlock = some k → v.ownBlock = some k ∨ w.heap.size ≤ k) : ∃ F', CaB w' base q S W L F' (rows.set i r') ∧ (∀ k, F' k → F k ∨ w.heap.size ≤ k) ∧ Fr F w w' := by
  have hiv : i < vs.length := (List.getElem?_eq_some_iff.1 hv).1
  have hir : i < rows.length := by have := h.lenr; have := h.lenv; omega
  have hr : rows[i]? = some (rows.getD i []) := by rw [List.getD, List.getElem?_eq_getElem hir]; rfl
  obtain ⟨hrow, hFv⟩ := h.row i v _ hv hr
  have hF0 : ∀ k, (k = g ∨ v.ownBlock = some k) → F k := fun k hk => by
    rcases hk with rfl | hk
    · exact h.fg
    · exact hFv k hk
  have hkind : ∀ k v2 r2, RowB w base v2 r2 → v2.ownBlock = some k → k ≠ g := fun k v2 r2 h2 hk e => by
    subst e
    obtain ⟨cs, hb⟩ := h2.kind k hk
    have := Blk.agree h.kg hb
    injection this with _ e _
    exact absurd e (by decide)
  refine ⟨fun k => (F k ∧ v.ownBlock ≠ some k) ∨ v'.ownBlock = some k, ⟨g, vs.set i v', h.hq, h.kq.fr f (fun hk => h.fq (hF0 q hk)), hg, .inl ⟨h.fg, fun e => hkind g v _ hrow e rfl⟩, by rw [List.length_set]; exact h.lenv, by rw [List.length_set]; exact h.lenr, ?_, ?_, ?_⟩, ?_, f.mono fun k _ hk => hF0 k hk⟩
  · intro j v2 r2 hj hj2
    rw [List.getElem?_set] at hj hj2
    by_cases e : i = j
    · subst e
      rw [if_pos rfl, if_pos hiv] at hj
      rw [if_pos rfl, if_pos hir] at hj2
      cases hj; cases hj2
      exact ⟨hr', fun k hk => .inr hk⟩
    · rw [if_neg e] at hj hj2
      obtain ⟨a1, a2⟩ := h.row j v2 r2 hj hj2
      refine ⟨a1.fr f fun k hk hk2 => ?_, fun k hk => .inl ⟨a2 k hk, fun e2 => e (h.apart i j k v v2 hv hj e2 hk)⟩⟩
      rcases hk2 with hk2 | hk2
      · exact hkind k v2 r2 a1 hk hk2
      · exact e (h.apart i j k v v2 hv hj hk2 hk)
  · intro j1 j2 k u1 u2 h1 h2 hk1 hk2
    rw [List.getElem?_set] at h1 h2
    have key : ∀ j u, vs[j]? = some u → j ≠ i → u.ownBlock = some k → v'.ownBlock = some k → False := fun j u hj hji hk hk' => by
      have hjr : j < rows.length := by have := (List.getElem?_eq_some_iff.1 hj).1; have := h.lenr; have := h.lenv; omega
      have hrj : rows[j]? = some (rows.getD j []) := by rw [List.getD, List.getElem?_eq_getElem hjr]; rfl
      rcases hn k hk' with hk3 | hk3
      · exact hji (h.apart j i k u v hj hv hk hk3)
      · have := ((h.row j u _ hj hrj).1.lt k hk).2
        omega
    by_cases e1 : i = j1
    · by_cases e2 : i = j2
      · omega
      · rw [if_pos e1, if_pos hiv] at h1
        rw [if_neg e2] at h2
        cases h1
        exact (key j2 u2 h2 (Ne.symm e2) hk2 hk1).elim
    · by_cases e2 : i = j2
      · rw [if_neg e1] at h1
        rw [if_pos e2, if_pos hiv] at h2
        cases h2
        exact (key j1 u1 h1 (Ne.symm e1) hk1 hk2).elim
      · rw [if_neg e1] at h1
        rw [if_neg e2] at h2
        exact h.apart j1 j2 k u1 u2 h1 h2 hk1 hk2
  · intro k hk
    rcases hk with ⟨hk, hk2⟩ | hk
    · obtain ⟨h1, h2, cs, t, hb, ht⟩ := h.foot k hk
      refine ⟨h1, Nat.lt_of_lt_of_le h2 f.size, ?_⟩
      by_cases e : k = g
      · subst e; exact ⟨_, _, hg, .inr rfl⟩
      · exact ⟨cs, t, hb.fr f (by rintro (h | h) <;> contradiction), ht⟩
    · obtain ⟨a1, a2⟩ := hr'.lt k hk
      obtain ⟨ds, hds⟩ := hr'.kind k hk
      exact ⟨a1, a2, _, _, hds, .inl rfl⟩
  · intro k hk
    rcases hk with ⟨hk, _⟩ | hk
    · exact .inl hk
    · rcases hn k hk with h1 | h1
      · exact .inl (hFv k h1)
      · exact .inr h1
end
end Go.Proofs.Ytdbgnniedcibeaa
