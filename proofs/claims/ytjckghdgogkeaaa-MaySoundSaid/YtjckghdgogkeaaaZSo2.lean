/- The contract of cache.Lines. -/
import Derived.Test.YtjckghdgogkeaaaZSo1
import Derived.Maps.RangeWalk
import Derived.Maps.Ext
import Derived.Lib.SlMapMerge
import Derived.Test.YtjckghdgogkeaaaLay1
import Derived.Lib.SlKeysI
namespace Go.Proofs.Ytjckghdgogkeaaa
open Go.RowKit Go.Proofs.YtjckghdgogkeaaaW.PrintWords
set_option linter.unusedVariables false

theorem RowB.C {w : World} {base : Nat} {v : Value} {r : List Int} (h : RowB w base v r) : ∃ A c, v = .slice A r.length c ∧ r.length ≤ c ∧ KI.C w A r.length r := by
  rcases h.cases with ⟨rfl, rfl⟩ | ⟨g, cap, cur, rfl, _, hB, hn, hm, _, ht⟩
  · exact ⟨none, 0, rfl, Nat.le_refl _, Kd.C_nil _ _⟩
  · refine ⟨some ⟨g, 0, none⟩, cap, rfl, hn, rfl, by omega, fun _ => ⟨_, rfl, fun j q hj => ⟨[.int .i64 q], rfl, rfl, fun i u hu => ?_⟩⟩⟩
    cases i with
    | succ _ => cases hu
    | zero =>
      cases hu
      have hjl : j < r.length := (List.getElem?_eq_some_iff.1 hj).1
      show w.cell? (Addr.add ⟨g, 0, none⟩ (j * 1 + 0)) = _
      have e : Addr.add ⟨g, 0, none⟩ (j * 1 + 0) = ⟨g, j, none⟩ := by rw [Addr.add_lit, Nat.zero_add, Nat.mul_one, Nat.add_zero]
      rw [e, hB.cell, ht j hjl, List.getD, hj]
      rfl

/-- Block g holds m slices, each a row of its own. -/
structure RsP (w : World) (base g m : Nat) (vs : List Value) (R : Nat → List Int) : Prop where
  hg : base ≤ g
  kg : Blk w g (.cells vs.toArray 28)
  lenv : vs.length = m
  row : ∀ (i : Nat) (v : Value), vs[i]? = some v → RowB w base v (R i)
  apart : ∀ (i j k : Nat) (v v' : Value), vs[i]? = some v → vs[j]? = some v' → v.ownBlock = some k → v'.ownBlock = some k → i = j
theorem RsP.ext {w w' : World} {base g m : Nat} {vs : List Value} {R : Nat → List Int} (h : RsP w base g m vs R) (e : Ext w w') : RsP w' base g m vs R :=
  ⟨h.hg, h.kg.ext e, h.lenv, fun i v hv => (h.row i v hv).ext e, h.apart⟩
theorem RsP.lower {w : World} {base base' g m : Nat} {vs : List Value} {R : Nat → List Int} (h : RsP w base g m vs R) (e : base' ≤ base) : RsP w base' g m vs R :=
  ⟨Nat.le_trans e h.hg, h.kg, h.lenv, fun i v hv => (h.row i v hv).lower e, h.apart⟩
theorem RsP.start {w : World} {base g m : Nat} {R : Nat → List Int} (hg : base ≤ g) (kg : Blk w g (.cells (List.replicate m (Value.slice none 0 0)).toArray 28)) (hR : ∀ i, R i = []) : RsP w base g m (List.replicate m (Value.slice none 0 0)) R := by
  refine ⟨hg, kg, by simp, fun i v hv => ?_, fun i j k v v' hv hv' hk hk' => ?_⟩
  · rw [List.getElem?_replicate] at hv
    split at hv
    · cases hv; rw [hR]; exact RowB.nil _ _
    · cases hv
  · rw [List.getElem?_replicate] at hv
    split at hv
    · cases hv; cases hk
    · cases hv
theorem RsP.put {w w' : World} {base g m i : Nat} {vs : List Value} {R R' : Nat → List Int} {v' : Value} (h : RsP w base g m vs R) (hbw : base ≤ w.heap.size) (e : Ext w w') (hv : RowB w' w.heap.size v' (R' i)) (hR : ∀ j, j ≠ i → R' j = R j) : RsP (w'.setCell ⟨g, i, none⟩ v') base g m (vs.set i v') R' := by
  have hne : ∀ k v2 r2, RowB w' base v2 r2 → v2.ownBlock = some k → k ≠ g := fun k v2 r2 h2 hk e2 => by
    subst e2
    obtain ⟨cs, hb⟩ := h2.kind k hk
    have := Blk.agree (h.kg.ext e) hb
    injection this with _ e _
    exact absurd e (by decide)
  refine ⟨h.hg, (h.kg.ext e).putL, by rw [List.length_set]; exact h.lenv, fun j v2 hj => ?_, fun j1 j2 k u1 u2 h1 h2 hk1 hk2 => ?_⟩
  · rw [List.getElem?_set] at hj
    by_cases c : i = j
    · subst c
      rw [if_pos rfl] at hj
      split at hj
      · cases hj
        have hv2 := hv.lower hbw
        exact hv2.store fun k hk => hne k _ _ hv2 hk
      · cases hj
    · rw [if_neg c] at hj
      rw [hR j (Ne.symm c)]
      have := (h.row j v2 hj).ext e
      exact this.store fun k hk => hne k _ _ this hk
  · rw [List.getElem?_set] at h1 h2
    have key : ∀ (j : Nat) (u : Value), vs[j]? = some u → u.ownBlock = some k → v'.ownBlock = some k → False := fun j u hj hk hk' => by
      have := ((h.row j u hj).lt k hk).2
      have := (hv.lt k hk').1
      omega
    by_cases e1 : i = j1
    · by_cases e2 : i = j2
      · omega
      · rw [if_pos e1] at h1
        rw [if_neg e2] at h2
        split at h1
        · cases h1
          exact (key j2 u2 h2 hk2 hk1).elim
        · cases h1
    · by_cases e2 : i = j2
      · rw [if_neg e1] at h1
        rw [if_pos e2] at h2
        split at h2
        · cases h2
          exact (key j1 u1 h1 hk1 hk2).elim
        · cases h2
      · rw [if_neg e1] at h1
        rw [if_neg e2] at h2
        exact h.apart j1 j2 k u1 u2 h1 h2 hk1 hk2
theorem RsP.C {w : World} {base g m : Nat} {vs : List Value} {R : Nat → List Int} (h : RsP w base g m vs R) {rows : List (List Int)} (hl : rows.length = m) (hm : m ≤ 1000) (hR : ∀ i, i < m → R i = rows.getD i []) : KL.C w (some ⟨g, 0, none⟩) m rows := by
  refine ⟨hl, by omega, fun _ => ⟨_, rfl, fun j q hj => ?_⟩⟩
  have hjl : j < rows.length := (List.getElem?_eq_some_iff.1 hj).1
  have hjv : j < vs.length := by have := h.lenv; omega
  have hq : rows.getD j [] = q := by rw [List.getD, hj]; rfl
  have hrow := h.row j _ (List.getElem?_eq_getElem hjv)
  rw [hR j (by omega), hq] at hrow
  obtain ⟨A, c, e, hc, hC⟩ := hrow.C
  refine ⟨[vs[j]], rfl, ⟨A, c, by rw [e], hc, hC⟩, fun i u hu => ?_⟩
  cases i with
  | succ _ => cases hu
  | zero =>
    cases hu
    show w.cell? (Addr.add ⟨g, 0, none⟩ (j * 1 + 0)) = _
    have e : Addr.add ⟨g, 0, none⟩ (j * 1 + 0) = ⟨g, j, none⟩ := by rw [Addr.add_lit, Nat.zero_add, Nat.mul_one, Nat.add_zero]
    rw [e, h.kg.cell]
    simp [hjv]

set_option maxHeartbeats 1000000 in
theorem cache_lines {w : World} {base q : Nat} {S W L : Int} {F : Nat → Prop} {rows : List (List Int)} (g : Geo S W L) (h : CaB w base q S W L F rows) (hr : Rows S W rows) :
    Calls Try.prog 26 #[.pointer (some ⟨q, 0, none⟩)] w fun e w' => ∃ g' vs, e = .returned (.slice (some ⟨g', 0, none⟩) rows.length rows.length) ∧ RsP w' w.heap.size g' rows.length vs (fun i => rows.getD i []) ∧ Ext w w' := by
  obtain ⟨gb, us, h⟩ := h
  have hs1 := g.s1
  have hs64 := g.s64
  have hw8 := g.w8
  obtain ⟨m, rfl⟩ : ∃ m : Nat, S = m := ⟨S.toNat, by omega⟩
  have hlen : rows.length = m := by have := hr.len; omega
  rw [hlen]
  have kq := h.cells m
  have kg := h.kg
  obtain ⟨a0, a1, a2, a3⟩ := kq.c4
  have hql := kq.lt
  have hgl := kg.lt
  have hmk := run_make_row' (P := Try.prog) 25 28 (.slice none 0 0) 24 Try.underlying25 (by kernel_rfl) rfl .i64 .i64 m (by omega) (by omega)
  go_enter Try.func26, Try.ntmps26
  go_wp2
  go_loopw [19] (fun i wr => ∃ (j : Nat) (vs : List Value), i = .int .i64 j ∧ j ≤ m ∧ Ext w wr ∧ RsP wr w.heap.size w.heap.size m vs (fun i => if i < j then rows.getD i [] else [])) (fun i _ => m - (Go.RowKit.intOf i).toNat)
  case atStart => exact ⟨0, _, rfl, Nat.zero_le _, (by repeat (first | ((with_reducible refine Ext.set1 ?_ ?_); (first | (focus (simp; done)) | (focus (simp; omega)) | (focus omega))) | (with_reducible refine Ext.alloc ?_ _) | (with_reducible exact Ext.refl _) | (refine Ext.trans ?_ (by with_reducible assumption)))), RsP.start (Nat.le_refl _) (by rw [← madeCells_one]; exact Blk.new rfl) (fun i => by simp)⟩
  case round =>
    obtain ⟨j, vs, rfl, hj, hext, hrs⟩ := hrel
    by_cases hlt : j < m
    · have kg1 := kg.ext hext
      obtain ⟨v, hv, hrow, hvF, hvg⟩ := h.at_ (i := j) (by omega)
      obtain ⟨A, c, rfl, hrc⟩ := hrow.slice
      obtain ⟨b0, b1⟩ := vs_cell kg1 hv
      have hle := hr.short j
      obtain ⟨r, hrr⟩ : ∃ r, rows.getD j [] = r := ⟨_, rfl⟩
      rw [hrr] at hrow hle b0
      go_wp2_with (first
        | (go_at_call 41; refine Calls.mono (row_clone (hrow.ext hext) (by omega)) ?_; rintro e w2 ⟨v2, rfl, hrow2, hb2⟩; have hrs2 := hrs.ext hb2; obtain ⟨A2, c2, rfl, _⟩ := hrow2.slice; obtain ⟨d0, d1⟩ := vs_cell (i := j) hrs2.kg (List.getElem?_eq_getElem (by rw [hrs2.lenv]; exact hlt))))
      refine ⟨⟨j + 1, _, by go_num, by omega, (by repeat (first | ((with_reducible refine Ext.set1 ?_ ?_); (first | (focus (simp; done)) | (focus (simp; omega)) | (focus omega))) | (with_reducible refine Ext.alloc ?_ _) | (with_reducible exact Ext.refl _) | (refine Ext.trans ?_ (by with_reducible assumption)))), RsP.put (R' := fun i => if i < j + 1 then rows.getD i [] else []) hrs (by have := hext.size; omega) hb2 (by rw [if_pos (by omega), hrr]; exact hrow2) (fun k hk => by by_cases c : k < j <;> simp [c] <;> omega)⟩, by simp [Go.RowKit.intOf]; omega⟩
    · obtain rfl : j = m := by omega
      go_wp2
      go_ret
      refine ⟨_, vs, rfl, ⟨hrs.hg, hrs.kg, hrs.lenv, fun i v hv => ?_, hrs.apart⟩, hext⟩
      have := hrs.row i v hv
      rwa [if_pos (by have := (List.getElem?_eq_some_iff.1 hv).1; have := hrs.lenv; omega)] at this
end Go.Proofs.Ytjckghdgogkeaaa

namespace Go.Proofs.Ytjckghdgogkeaaa
open Go.RowKit Go.Maps
set_option linter.unusedVariables false

abbrev FM := Int → Option Int
def I64 (x : Int) : Prop := (Lit.int .i64 x).wf = true
theorem I64.of {x : Int} (h1 : -9223372036854775808 ≤ x) (h2 : x ≤ 9223372036854775807) : I64 x := WalkArith.wf_i64 ⟨h1, h2⟩
theorem I64.lo {x : Int} (h : I64 x) : -9223372036854775808 ≤ x ∧ x ≤ 9223372036854775807 := by
  unfold I64 at h
  simp [Lit.wf, IntKind.min, IntKind.max, IntKind.bits, IntKind.signed] at h
  exact h
theorem isKey (x : Int) : WideAt.IsKeyLit (Lit.int .i64 x) := trivial
theorem lit_ne {x y : Int} (h : x ≠ y) : Lit.int .i64 x ≠ Lit.int .i64 y := fun e => h (by injection e)
theorem same_lit (x y : Int) : (Lit.int .i64 x).sameKey (Lit.int .i64 y) = decide (x = y) := by
  by_cases h : x = y
  · subst h; rw [WideAt.sameKey_self (isKey x)]; simp
  · rw [sameKey_ne (lit_ne h)]; simp [h]

theorem keyedI : Keyed Try.prog 3 := int_keyed Try.underlying3
noncomputable abbrev RI : Value → Option (DataW Unit × List MemPlace) := plainElem Try.prog 3

/-- The datum D reads as the partial function f. -/
structure Is (D : DataW Unit) (f : FM) : Prop where
  map : IsMap D
  has : ∀ x, I64 x → Maps.has D (.int .i64 x) = (f x).isSome
  at_ : ∀ x b, I64 x → f x = some b → ∀ z, D.atKey (.int .i64 x) z = .lit (.int .i64 b)
  dom : ∀ x b, f x = some b → I64 x ∧ I64 b

/-- Block b of w is a map of at most n entries that reads as f. -/
def IMap (w : World) (b n : Nat) (f : FM) : Prop := ∃ D : DataW Unit, w.ownsMap Try.prog 3 RI b n D ∧ Is D f
/-- .. nil let in. -/
def IMapO (w : World) (p : Option Nat) (n : Nat) (f : FM) : Prop := (p = none ∧ ∀ x, f x = none) ∨ ∃ b, p = some b ∧ IMap w b n f

theorem IMap.lt {w : World} {b n : Nat} {f : FM} (h : IMap w b n f) : b < w.heap.size := by obtain ⟨D, h, _⟩ := h; exact h.lt
theorem IMap.same {w w' : World} {b n : Nat} {f : FM} (h : IMap w b n f) (e : w'.heap[b]? = w.heap[b]?) : IMap w' b n f := by
  obtain ⟨D, ⟨es, clock, hb, r⟩, i⟩ := h
  exact ⟨D, ⟨es, clock, e.trans hb, r⟩, i⟩
theorem IMap.ext {w w' : World} {b n : Nat} {f : FM} (h : IMap w b n f) (e : Ext w w') : IMap w' b n f := h.same (e.block h.lt)
theorem IMap.grown {w w' : World} {b n : Nat} {f : FM} {row : Option Nat} (h : IMap w b n f) (hg : w.grownBy w' row) (hne : some b ≠ row) : IMap w' b n f := h.same (hg.block b h.lt hne)
theorem IMap.mono {w : World} {b n n' : Nat} {f : FM} (h : IMap w b n f) (hn : n ≤ n') : IMap w b n' f := by obtain ⟨D, h, i⟩ := h; exact ⟨D, h.mono hn, i⟩
theorem IMap.congr {w : World} {b n : Nat} {f g : FM} (h : IMap w b n f) (e : ∀ x, f x = g x) : IMap w b n g := by
  obtain rfl : f = g := funext e
  exact h
theorem IMap.dom {w : World} {b n : Nat} {f : FM} (h : IMap w b n f) {x v : Int} (e : f x = some v) : I64 x ∧ I64 v := by obtain ⟨D, h, i⟩ := h; exact i.dom x v e
theorem IMap.set1 {w : World} {b n : Nat} {f : FM} {g o : Nat} {u : Value} (hp : b ≠ g) (h : IMap w b n f) : IMap (w.setCell ⟨g, o, none⟩ u) b n f := h.same (Below.heap_setCell _ _ _ _ hp)
theorem set_map {w : World} {b : Nat} {es : Array MapEntry} {k : Nat} (h : w.heap[b]? = some (.map es k)) (p : Addr) (u : Value) : (w.setCell p u).heap[b]? = some (.map es k) := by
  simp only [World.setCell, Array.getElem?_modify, h]
  split <;> rfl
/-- A store into a cell never turns a map. -/
theorem IMap.set {w : World} {b n : Nat} {f : FM} {p : Addr} {u : Value} (h : IMap w b n f) : IMap (w.setCell p u) b n f := by
  obtain ⟨D, ⟨es, clock, hb, r⟩, i⟩ := h
  exact ⟨D, ⟨es, clock, set_map hb p u, r⟩, i⟩
theorem IMapO.set {w : World} {q : Option Nat} {n : Nat} {f : FM} {p : Addr} {u : Value} (h : IMapO w q n f) : IMapO (w.setCell p u) q n f := by
  rcases h with h | ⟨b, rfl, h⟩
  · exact .inl h
  · exact .inr ⟨b, rfl, h.set⟩
theorem IMap.alloc {w : World} {b n : Nat} {f : FM} (h : IMap w b n f) (o : Obj) : IMap (w.alloc o) b n f := h.same (Below.heap_alloc _ _ _ h.lt)
theorem IMap.drew {w : World} {b n : Nat} {f : FM} (h : IMap w b n f) : IMap w.drew b n f := h.same rfl
theorem IMap.drewN {w : World} {b n : Nat} {f : FM} (h : IMap w b n f) (k : Nat) : IMap (w.drewN k) b n f := h.same rfl
theorem IMapO.ext {w w' : World} {p : Option Nat} {n : Nat} {f : FM} (h : IMapO w p n f) (e : Ext w w') : IMapO w' p n f := by
  rcases h with h | ⟨b, rfl, h⟩
  · exact .inl h
  · exact .inr ⟨b, rfl, h.ext e⟩
theorem IMapO.alloc {w : World} {p : Option Nat} {n : Nat} {f : FM} (h : IMapO w p n f) (o : Obj) : IMapO (w.alloc o) p n f := by
  rcases h with h | ⟨b, rfl, h⟩
  · exact .inl h
  · exact .inr ⟨b, rfl, h.alloc o⟩
theorem IMapO.lt {w : World} {p : Option Nat} {n : Nat} {f : FM} (h : IMapO w p n f) : ∀ b, p = some b → b < w.heap.size := by
  rcases h with ⟨rfl, _⟩ | ⟨b, rfl, h⟩
  · intro b hb; cases hb
  · intro b' hb; cases hb; exact h.lt
theorem IMapO.mono {w : World} {p : Option Nat} {n n' : Nat} {f : FM} (h : IMapO w p n f) (hn : n ≤ n') : IMapO w p n' f := by
  rcases h with h | ⟨b, rfl, h⟩
  · exact .inl h
  · exact .inr ⟨b, rfl, h.mono hn⟩
theorem IMapO.dom {w : World} {p : Option Nat} {n : Nat} {f : FM} (h : IMapO w p n f) {x v : Int} (e : f x = some v) : I64 x ∧ I64 v := by
  rcases h with ⟨_, h⟩ | ⟨b, _, h⟩
  · rw [h] at e; cases e
  · exact h.dom e
theorem IMapO.same {w w' : World} {p : Option Nat} {n : Nat} {f : FM} (h : IMapO w p n f) (e : ∀ b, p = some b → w'.heap[b]? = w.heap[b]?) : IMapO w' p n f := by
  rcases h with h | ⟨b, rfl, h⟩
  · exact .inl h
  · exact .inr ⟨b, rfl, h.same (e b rfl)⟩

def noF : FM := fun _ => none
theorem IMap.made (w : World) : IMap (w.alloc (.map #[] 0)) w.heap.size 0 noF :=
  ⟨_, World.ownsMap_made _ _ _ _, ⟨⟨_, rfl⟩, fun _ _ => rfl, fun _ _ _ h => (by cases h), fun _ _ h => (by cases h)⟩⟩

theorem IMap.made' {w : World} {b : Nat} (hb : b = w.heap.size) : IMap (w.alloc (.map #[] 0)) b 0 noF := by subst hb; exact IMap.made w
/-- m[x] = v, on functions. -/
def put (f : FM) (x v : Int) : FM := fun y => if y = x then some v else f y
/-- delete(m, x), on functions. -/
def cut (f : FM) (x : Int) : FM := fun y => if y = x then none else f y

theorem Is.put {D : DataW Unit} {f : FM} (h : Is D f) {x v : Int} (hx : I64 x) (hv : I64 v) : Is (D.put (.int .i64 x) (.lit (.int .i64 v))) (put f x v) := by
  refine ⟨h.map.put _ _, fun y hy => ?_, fun y b hy e z => ?_, fun y b e => ?_⟩
  · by_cases c : y = x
    · subst c; rw [has_put_same h.map (isKey _)]; simp [Ytjckghdgogkeaaa.put]
    · rw [has_put_other (lit_ne c), h.has y hy]; simp [Ytjckghdgogkeaaa.put, c]
  · by_cases c : y = x
    · subst c
      simp [Ytjckghdgogkeaaa.put] at e
      subst e
      rw [atKey_put_same h.map (isKey _)]
    · simp [Ytjckghdgogkeaaa.put, c] at e
      rw [atKey_put_other (lit_ne c), h.at_ y b hy e]
  · by_cases c : y = x
    · subst c
      simp [Ytjckghdgogkeaaa.put] at e
      subst e
      exact ⟨hx, hv⟩
    · simp [Ytjckghdgogkeaaa.put, c] at e
      exact h.dom y b e
theorem Is.cut {D : DataW Unit} {f : FM} (h : Is D f) {x : Int} : Is (D.del (.int .i64 x)) (cut f x) := by
  refine ⟨h.map.del _, fun y hy => ?_, fun y b hy e z => ?_, fun y b e => ?_⟩
  · by_cases c : y = x
    · subst c; rw [has_del_same]; simp [Ytjckghdgogkeaaa.cut]
    · rw [has_del_other (lit_ne c), h.has y hy]; simp [Ytjckghdgogkeaaa.cut, c]
  · by_cases c : y = x
    · subst c
      simp [Ytjckghdgogkeaaa.cut] at e
    · simp [Ytjckghdgogkeaaa.cut, c] at e
      rw [atKey_del_other (lit_ne c), h.at_ y b hy e]
  · by_cases c : y = x
    · subst c
      simp [Ytjckghdgogkeaaa.cut] at e
    · simp [Ytjckghdgogkeaaa.cut, c] at e
      exact h.dom y b e

theorem zeroI (w : World) : (zeroValue 3).run Try.prog w = .ok (.int .i64 0) w := by kernel_rfl

theorem keyI {x : Int} (h : I64 x) : keyOf Try.prog 3 (.int .i64 x) = some (.int .i64 x) := keyOf_int_mk Try.underlying3 h

theorem IMapO.look {w : World} {p : Option Nat} {n : Nat} {f : FM} (h : IMapO w p n f) {x : Int} (hx : I64 x) :
    (Instr.lookup 29 (.map p) (.int .i64 x) true).run Try.prog w = .ok (.tuple #[.int .i64 ((f x).getD 0), .bool (f x).isSome]) w := by
  rcases h with ⟨rfl, h⟩ | ⟨b, rfl, D, hown, hi⟩
  · rw [h]
    exact Maps.look_nil true keyedI Try.underlying29 (zeroI w) (keyI hx)
  · obtain ⟨v, ps, hrun, hv⟩ := hown.look_ok keyedI Try.underlying29 (zeroI w) (plainElem_int Try.underlying3 (by decide)) (keyI hx)
    rw [hrun, hi.has x hx]
    obtain ⟨c, rfl, hc, hwc⟩ := plainElem_int_inv Try.underlying3 hv
    have hc := congrArg Prod.fst hc
    cases hf : f x with
    | none =>
      rw [atKey_of_not_has (by rw [hi.has x hx, hf]; rfl)] at hc
      cases hc
      rfl
    | some b =>
      rw [hi.at_ x b hx hf] at hc
      cases hc
      rfl

theorem own_tight {w : World} {b n : Nat} {D : DataW Unit} (h : w.ownsMap Try.prog 3 RI b n D) : w.ownsMap Try.prog 3 RI b (Maps.size D) D := by
  obtain ⟨es, clock, hb, F, hs, rfl⟩ := h
  exact ⟨es, clock, hb, F, by simp [Maps.size, length_sorted], rfl⟩

section
variable (w : World) {ops : Array Oper} {rest : List Oper} {o : Oper} {a : Act} {Q : Exit → Act → World → Prop}

/-- 'v, ok := m[x]' where x is not in the map. -/
theorem wpList_look_none (hg : o.guard = none) (m x : Operand) (hop : o.op = Op.lookup 29 m x true) (p : Option Nat) (n : Nat) (f : FM) (hm : a.eval m = .map p) (h : IMapO w p n f)
    (k : Int) (hx : a.eval x = .int .i64 k) (hk : I64 k) (hf : f k = none) (hK : wpList Try.prog ops Q rest (a.put o.dst (.tuple #[.int .i64 0, .bool false])) w) : wpList Try.prog ops Q (o :: rest) a w := by
  refine wpList_plain hg fun K' hK' => ?_
  have hrun := h.look hk
  rw [hf] at hrun
  unfold Oper.wp
  simp [execOp, hop, hm, hx, hrun, Result.andThen]
  exact hK' _ _ hK
/-- 'v, ok := m[x]' where x is in the map. -/
theorem wpList_look_some (hg : o.guard = none) (m x : Operand) (hop : o.op = Op.lookup 29 m x true) (p : Option Nat) (n : Nat) (f : FM) (hm : a.eval m = .map p) (h : IMapO w p n f)
    (k : Int) (hx : a.eval x = .int .i64 k) (hk : I64 k) (b : Int) (hf : f k = some b) (hK : wpList Try.prog ops Q rest (a.put o.dst (.tuple #[.int .i64 b, .bool true])) w) : wpList Try.prog ops Q (o :: rest) a w := by
  refine wpList_plain hg fun K' hK' => ?_
  have hrun := h.look hk
  rw [hf] at hrun
  unfold Oper.wp
  simp [execOp, hop, hm, hx, hrun, Result.andThen]
  exact hK' _ _ hK
/-- .. whichever. -/
theorem wpList_look_any (hg : o.guard = none) (m x : Operand) (hop : o.op = Op.lookup 29 m x true) (p : Option Nat) (n : Nat) (f : FM) (hm : a.eval m = .map p) (h : IMapO w p n f)
    (k : Int) (hx : a.eval x = .int .i64 k) (hk : I64 k) (c : Int) (ok : Bool) (hc : (f k).getD 0 = c) (hok : (f k).isSome = ok) (hK : wpList Try.prog ops Q rest (a.put o.dst (.tuple #[.int .i64 c, .bool ok])) w) : wpList Try.prog ops Q (o :: rest) a w := by
  refine wpList_plain hg fun K' hK' => ?_
  have hrun := h.look hk
  rw [hc, hok] at hrun
  unfold Oper.wp
  simp [execOp, hop, hm, hx, hrun, Result.andThen]
  exact hK' _ _ hK

/-- 'm[x] = v'. -/
theorem wpList_store_im (hg : o.guard = none) (m x v : Operand) (hop : o.op = Op.mapUpdate 29 m x v) (b n : Nat) (f : FM) (hm : a.eval m = .map (some b)) (h : IMap w b n f) (hn : n < maxLen)
    (k c : Int) (hx : a.eval x = .int .i64 k) (hv : a.eval v = .int .i64 c) (hk : I64 k) (hc : I64 c)
    (hK : ∀ w', IMap w' b (n + 1) (put f k c) → w.grownBy w' (some b) → wpList Try.prog ops Q rest (a.put o.dst undef) w') : wpList Try.prog ops Q (o :: rest) a w := by
  obtain ⟨D, hown, hi⟩ := h
  exact wpList_mapUpdate_own w hg m x v _ hop _ _ keyedI Try.underlying29 RI b n D hm hown hn _ _ _ hx hv (keyI hk) _ [] (plainElem_int Try.underlying3 hc)
    (fun w' h1 h2 => hK w' ⟨_, h1, hi.put hk hc⟩ h2)

/-- 'm[x] = v' at a key that is there: no entry more. -/
theorem wpList_store_old (hg : o.guard = none) (m x v : Operand) (hop : o.op = Op.mapUpdate 29 m x v) (b n : Nat) (f : FM) (hm : a.eval m = .map (some b)) (h : IMap w b n f) (hn : n < maxLen)
    (k c : Int) (hx : a.eval x = .int .i64 k) (hv : a.eval v = .int .i64 c) (hk : I64 k) (hc : I64 c) (hold : (f k).isSome = true)
    (hK : ∀ w', IMap w' b n (put f k c) → w.grownBy w' (some b) → wpList Try.prog ops Q rest (a.put o.dst undef) w') : wpList Try.prog ops Q (o :: rest) a w := by
  obtain ⟨D, hown, hi⟩ := h
  refine wpList_mapUpdate_own w hg m x v _ hop _ _ keyedI Try.underlying29 RI b n D hm hown hn _ _ _ hx hv (keyI hk) _ [] (plainElem_int Try.underlying3 hc)
    (fun w' h1 h2 => hK w' ⟨_, (own_tight h1).mono ?_, hi.put hk hc⟩ h2)
  rw [size_put (hown.tidy keyedI), hi.has k hk, hold]
  exact hown.size_le

/-- 'delete(m, x)'. -/
theorem wpList_delete_im (hg : o.guard = none) (m x : Operand) (hop : o.op = Op.call { callee := Callee.builtin Builtin.delete, args := #[m, x], argTypes := #[29, 3] }) (b n : Nat) (f : FM)
    (hm : a.eval m = .map (some b)) (h : IMap w b n f) (k : Int) (hx : a.eval x = .int .i64 k) (hk : I64 k)
    (hK : ∀ w', IMap w' b n (cut f k) → w.grownBy w' (some b) → wpList Try.prog ops Q rest (a.put o.dst (.tuple #[])) w') : wpList Try.prog ops Q (o :: rest) a w := by
  obtain ⟨D, hown, hi⟩ := h
  exact wpList_delete_own w hg m x _ _ hop _ keyedI Try.underlying29 RI b n D hm hown _ _ hx (keyI hk) (fun w' h1 h2 => hK w' ⟨_, h1, hi.cut⟩ h2.grown)
end

/-! ### a range over such a map -/
/-- Block r is an iterator over the map in block b, which reads as f; 'lf x': the entry at x is still to come. -/
def RMap (w : World) (b r n : Nat) (f : FM) (lf : Int → Bool) (cnt : Nat) : Prop :=
  ∃ (D : DataW Unit) (left : Lit → Bool), w.ranges Try.prog 3 RI b r n D left cnt ∧ Is D f ∧ (∀ x, I64 x → left (.int .i64 x) = lf x) ∧ ∀ x, lf x = true → (f x).isSome = true

theorem RMap.left_eq {w : World} {b r n : Nat} {f : FM} {lf : Int → Bool} {cnt : Nat} (h : RMap w b r n f lf cnt) : w.rangeLeft b r = cnt := by obtain ⟨_, _, h, _⟩ := h; exact h.left_eq
theorem RMap.owns {w : World} {b r n : Nat} {f : FM} {lf : Int → Bool} {cnt : Nat} (h : RMap w b r n f lf cnt) : IMap w b n f := by obtain ⟨D, _, h, i, _⟩ := h; exact ⟨D, h.owns, i⟩
theorem RMap.lt {w : World} {b r n : Nat} {f : FM} {lf : Int → Bool} {cnt : Nat} (h : RMap w b r n f lf cnt) : r < w.heap.size := by obtain ⟨D, _, h, i, _⟩ := h; exact h.lt
theorem RMap.same {w w' : World} {b r n : Nat} {f : FM} {lf : Int → Bool} {cnt : Nat} (h : RMap w b r n f lf cnt) (hb : w'.heap[b]? = w.heap[b]?) (hr : w'.heap[r]? = w.heap[r]?) : RMap w' b r n f lf cnt := by
  obtain ⟨D, left, h, i, e, d⟩ := h
  refine ⟨D, left, ?_, i, e, d⟩
  obtain ⟨es, clock, since, seen, c0, h1, F, hs, hD, h2, rest⟩ := h
  exact ⟨es, clock, since, seen, c0, hb.trans h1, F, hs, hD, hr.trans h2, rest⟩
theorem RMap.grown {w w' : World} {b r n : Nat} {f : FM} {lf : Int → Bool} {cnt : Nat} {row : Option Nat} (h : RMap w b r n f lf cnt) (hg : w.grownBy w' row) (hb : some b ≠ row) (hr : some r ≠ row) : RMap w' b r n f lf cnt :=
  h.same (hg.block b h.owns.lt hb) (hg.block r h.lt hr)
theorem RMap.dom {w : World} {b r n : Nat} {f : FM} {lf : Int → Bool} {cnt : Nat} (h : RMap w b r n f lf cnt) : ∀ x, lf x = true → (f x).isSome = true := by obtain ⟨_, _, _, _, _, d⟩ := h; exact d

section
variable (w : World) {ops : Array Oper} {rest : List Oper} {o : Oper} {a : Act} {Q : Exit → Act → World → Prop}

theorem wpList_range_im (hg : o.guard = none) (m : Operand) (hop : o.op = Op.range 29 m) (r : Nat) (hr : w.heap.size = r) (b n : Nat) (f : FM) (hm : a.eval m = .map (some b)) (h : IMap w b n f)
    (hK : ∀ w' cnt, RMap w' b r n f (fun x => (f x).isSome) cnt → Ext w w' → w'.heap.size = r + 1 → cnt ≤ n → wpList Try.prog ops Q rest (a.put o.dst (.pointer (some ⟨r, 0, none⟩))) w') :
    wpList Try.prog ops Q (o :: rest) a w := by
  subst hr
  obtain ⟨D, hown, hi⟩ := h
  exact wpList_range_own w hg m _ hop _ _ keyedI Try.underlying29 RI b n D hm hown
    (fun w' h1 h2 h3 => hK w' _ ⟨D, _, h1, hi, fun x hx => hi.has x hx, fun x hx => hx⟩ ⟨h2.os, h2.tape, h2.output, h2.size, fun k hk => h2.block k hk (by simp)⟩ h3 hown.size_le)

theorem wpList_next_im (hg : o.guard = none) (it : Operand) (hop : o.op = Op.next it false) (b r n : Nat) (f : FM) (lf : Int → Bool) (cnt : Nat)
    (hit : a.eval it = .pointer (some ⟨r, 0, none⟩)) (h : RMap w b r n f lf cnt)
    (hDone : (∀ x, lf x = false) → wpList Try.prog ops Q rest (a.put o.dst (.tuple #[.bool false])) w)
    (hMore : ∀ (x c : Int) (w' : World) (cnt' : Nat), I64 x → I64 c → lf x = true → f x = some c → RMap w' b r n f (fun z => lf z && !decide (z = x)) cnt' → cnt' < cnt → w.grownBy w' (some r) → w'.heap.size = w.heap.size →
      (Instr.entry (.pointer (some ⟨r, 0, none⟩))).run Try.prog w' = .ok (.tuple #[.int .i64 x, .int .i64 c]) w' → wpList Try.prog ops Q rest (a.put o.dst (.tuple #[.bool true, .int .i64 x, .int .i64 c])) w') :
    wpList Try.prog ops Q (o :: rest) a w := by
  obtain ⟨D, left, hr, hi, hl, hd⟩ := h
  refine wpList_next_ranges_ii w hg it hop _ _ _ _ keyedI Try.underlying3 Try.underlying3 b r n D left cnt hit hr (fun h0 h1 => hDone fun x => ?_) (fun x c w' cnt' hwx hwc hlx hat hrg hlt hgr hsz hen => ?_)
  · cases hx : lf x
    · rfl
    · have hs := hd x hx
      obtain ⟨b, hb⟩ := Option.isSome_iff_exists.1 hs
      rw [← hl x (hi.dom x b hb).1, h1] at hx
      cases hx
  · have hlf : lf x = true := by rw [← hl x hwx]; exact hlx
    have hs := hd x hlf
    obtain ⟨c', hc'⟩ := Option.isSome_iff_exists.1 hs
    have e := (hi.at_ x c' hwx hc' .nil).symm.trans (hat .nil)
    obtain rfl : c' = c := by injection e with e; injection e
    refine hMore x c' w' cnt' hwx hwc hlf hc' ⟨D, _, hrg, hi, fun y hy => ?_, fun y hy => ?_⟩ hlt hgr hsz hen
    · show (left (Lit.int .i64 y) && !(Lit.int .i64 y).sameKey (Lit.int .i64 x)) = _
      rw [hl y hy, same_lit]
    · simp only [Bool.and_eq_true] at hy
      exact hd y hy.1
end
end Go.Proofs.Ytjckghdgogkeaaa

namespace Go.Proofs.Ytjckghdgogkeaaa
open Go.RowKit
set_option linter.unusedVariables false

theorem valid_no {S W L : Int} (h : vldB S W L = false) (w : World) :
    Calls Try.prog 30 #[.agg #[.int .i64 S, .int .i64 W, .int .i64 L]] w fun e w' => e = .returned (.bool false) ∧ Ext w w' := by
  have := valid_any S W L w
  rw [h] at this
  exact this


set_option maxHeartbeats 400000 in
theorem may_new_yes {S W L : Int} (h : Geo S W L) (w : World) :
    Calls Try.prog 21 #[.agg #[.int .i64 S, .int .i64 W, .int .i64 L]] w fun e w' => e = .returned (.tuple #[.agg #[.int .i64 S, .int .i64 W, .int .i64 L, .bool false, .map none], .int .i64 0]) ∧ Ext w w' := by
  go_enter Try.func21, Try.ntmps21
  go_wp2_with (go_at_call 30; refine (valid_yes h _).mono ?_; rintro e w1 ⟨rfl, hb1⟩; obtain ⟨hc1, hf1⟩ := hb1.cells; have hz1 := hb1.size; simp at hz1)
  refine bodyPost_ret (v := .tuple #[.agg #[.int .i64 S, .int .i64 W, .int .i64 L, .bool false, .map none], .int .i64 0]) ?_ rfl ⟨rfl, ?_⟩
  · simp [results, Try.results21, go_sem, hc1]
  · exact (by repeat (first | ((with_reducible refine Ext.set1 ?_ ?_); (first | (focus (simp; done)) | (focus (simp; omega)) | (focus omega))) | (with_reducible refine Ext.alloc ?_ _) | (with_reducible exact Ext.refl _) | (refine Ext.trans ?_ (by with_reducible assumption))))

set_option maxHeartbeats 400000 in
theorem may_new_no {S W L : Int} (h : vldB S W L = false) (w : World) :
    Calls Try.prog 21 #[.agg #[.int .i64 S, .int .i64 W, .int .i64 L]] w fun e w' => e = .returned (.tuple #[.agg #[.int .i64 0, .int .i64 0, .int .i64 0, .bool false, .map none], .int .i64 1]) ∧ Ext w w' := by
  have H := Lib.hid h; clear h
  go_enter Try.func21, Try.ntmps21
  go_wp2_with (go_at_call 30; refine (valid_no H.out _).mono ?_; rintro e w1 ⟨rfl, hb1⟩; obtain ⟨hc1, hf1⟩ := hb1.cells; have hz1 := hb1.size; simp at hz1)
  refine bodyPost_ret (v := .tuple #[.agg #[.int .i64 0, .int .i64 0, .int .i64 0, .bool false, .map none], .int .i64 1]) ?_ rfl ⟨rfl, ?_⟩
  · simp [results, Try.results21, go_sem, hc1]
  · exact (by repeat (first | ((with_reducible refine Ext.set1 ?_ ?_); (first | (focus (simp; done)) | (focus (simp; omega)) | (focus omega))) | (with_reducible refine Ext.alloc ?_ _) | (with_reducible exact Ext.refl _) | (refine Ext.trans ?_ (by with_reducible assumption))))

set_option maxHeartbeats 400000 in
theorem may_unknown_yes {S W L : Int} (h : Geo S W L) (w : World) :
    Calls Try.prog 14 #[.agg #[.int .i64 S, .int .i64 W, .int .i64 L]] w fun e w' => e = .returned (.tuple #[.agg #[.int .i64 S, .int .i64 W, .int .i64 L, .bool true, .map none], .int .i64 0]) ∧ Ext w w' := by
  go_enter Try.func14, Try.ntmps14
  go_wp2_with (go_at_call 30; refine (valid_yes h _).mono ?_; rintro e w1 ⟨rfl, hb1⟩; obtain ⟨hc1, hf1⟩ := hb1.cells; have hz1 := hb1.size; simp at hz1)
  refine bodyPost_ret (v := .tuple #[.agg #[.int .i64 S, .int .i64 W, .int .i64 L, .bool true, .map none], .int .i64 0]) ?_ rfl ⟨rfl, ?_⟩
  · simp [results, Try.results14, go_sem, hc1]
  · exact (by repeat (first | ((with_reducible refine Ext.set1 ?_ ?_); (first | (focus (simp; done)) | (focus (simp; omega)) | (focus omega))) | (with_reducible refine Ext.alloc ?_ _) | (with_reducible exact Ext.refl _) | (refine Ext.trans ?_ (by with_reducible assumption))))

set_option maxHeartbeats 400000 in
theorem may_unknown_no {S W L : Int} (h : vldB S W L = false) (w : World) :
    Calls Try.prog 14 #[.agg #[.int .i64 S, .int .i64 W, .int .i64 L]] w fun e w' => e = .returned (.tuple #[.agg #[.int .i64 0, .int .i64 0, .int .i64 0, .bool false, .map none], .int .i64 1]) ∧ Ext w w' := by
  have H := Lib.hid h; clear h
  go_enter Try.func14, Try.ntmps14
  go_wp2_with (go_at_call 30; refine (valid_no H.out _).mono ?_; rintro e w1 ⟨rfl, hb1⟩; obtain ⟨hc1, hf1⟩ := hb1.cells; have hz1 := hb1.size; simp at hz1)
  refine bodyPost_ret (v := .tuple #[.agg #[.int .i64 0, .int .i64 0, .int .i64 0, .bool false, .map none], .int .i64 1]) ?_ rfl ⟨rfl, ?_⟩
  · simp [results, Try.results14, go_sem, hc1]
  · exact (by repeat (first | ((with_reducible refine Ext.set1 ?_ ?_); (first | (focus (simp; done)) | (focus (simp; omega)) | (focus omega))) | (with_reducible refine Ext.alloc ?_ _) | (with_reducible exact Ext.refl _) | (refine Ext.trans ?_ (by with_reducible assumption))))

set_option maxHeartbeats 400000 in
theorem may_age_unknown (S W L x : Int) (p : Option Nat) (w : World) :
    Calls Try.prog 23 #[.agg #[.int .i64 S, .int .i64 W, .int .i64 L, .bool true, .map p], .int .i64 x] w fun e w' => e = .returned (.tuple #[.int .i64 0, .bool (decide (0 ≤ x))]) ∧ Ext w w' := by
  go_enter Try.func23, Try.ntmps23
  go_wp2
  go_ret2
  exact ⟨rfl, (Ext.refl _).alloc _⟩

set_option maxHeartbeats 400000 in
theorem may_age (S W L x : Int) (p : Option Nat) (n : Nat) (f : FM) (w : World) (h : IMapO w p n f) (hx : I64 x) (c : Int) (ok : Bool) (hc : (f x).getD 0 = c) (hok : (f x).isSome = ok) :
    Calls Try.prog 23 #[.agg #[.int .i64 S, .int .i64 W, .int .i64 L, .bool false, .map p], .int .i64 x] w fun e w' => e = .returned (.tuple #[.int .i64 c, .bool ok]) ∧ Ext w w' := by
  have HC := Lib.hid hc; have HO := Lib.hid hok; clear hc hok
  go_enter Try.func23, Try.ntmps23
  go_wp2_with (at_lookup; refine wpList_look_any _ rfl _ _ rfl p n f rfl (h.ext ((Ext.refl _).alloc _)) x rfl hx c ok HC.out HO.out ?_)
  go_ret2
  exact ⟨rfl, (Ext.refl _).alloc _⟩

end Go.Proofs.Ytjckghdgogkeaaa

namespace Go.Proofs.Ytjckghdgogkeaaa
open Go.RowKit Go.Maps Go.WideShapes
set_option linter.unusedVariables false

theorem entries_int {w : World} {b n : Nat} {D : DataW Unit} (h : w.ownsMap Try.prog 3 RI b n D) :
    ∃ es, D = .map es ∧ es.Pairwise (fun p q => p.1 ≠ q.1) ∧ ∀ p ∈ es, ∃ x c : Int, p = (.int .i64 x, .lit (.int .i64 c)) ∧ I64 x := by
  obtain ⟨es0, clock, hb, F, hs, rfl⟩ := h
  refine ⟨_, rfl, ((sorted_perm _).pairwise_iff (fun {_ _} hne => Ne.symm hne)).2 (Maps.fit_apart keyedI F), fun p hp => ?_⟩
  obtain ⟨x, hx, rfl⟩ := List.mem_map.1 (mem_sorted.1 hp)
  obtain ⟨y, hy⟩ := F.reads x hx
  obtain ⟨z, hz, hzd⟩ := WideElems.rd_val hy
  obtain ⟨k, _, hk, hwf⟩ := Maps.keyOf_int_inv Try.underlying3 (WideElems.rd_key hy)
  obtain ⟨c, _, hc, _⟩ := plainElem_int_inv Try.underlying3 hz
  refine ⟨k, c, ?_, hwf⟩
  rw [WideElems.rg_of hy]
  refine Prod.ext hk ?_
  rw [hzd, hc]

/-- A list with no repeats inside one that is no longer holds all of it. -/
theorem subset_back {α : Type} [DecidableEq α] : ∀ (l1 l2 : List α), l1.Nodup → l2.Nodup → (∀ x ∈ l1, x ∈ l2) → l2.length ≤ l1.length → ∀ x ∈ l2, x ∈ l1
  | [], l2, _, _, _, hl, x, hx => by
    have : l2 = [] := List.eq_nil_of_length_eq_zero (by simpa using hl)
    subst this; simp at hx
  | a :: r, l2, h1, h2, hs, hl, x, hx => by
    obtain ⟨ha, hr⟩ := List.nodup_cons.1 h1
    have ha2 : a ∈ l2 := hs a (by simp)
    by_cases e : x = a
    · simp [e]
    · have := subset_back r (l2.erase a) hr (h2.erase a) (fun y hy => (List.mem_erase_of_ne (fun e' => ha (by rw [← e']; exact hy))).2 (hs y (by simp [hy]))) (by rw [List.length_erase_of_mem ha2]; simp at hl; omega) x ((List.mem_erase_of_ne e).2 hx)
      simp [this]

theorem keys_nodup {es : List (Lit × DataW Unit)} (hp : es.Pairwise (fun p q => p.1 ≠ q.1)) : (es.map (·.1)).Nodup := List.pairwise_map.2 hp

theorem Is.mem {es : List (Lit × DataW Unit)} {f : FM} (h : Is (.map es) f) (hk : ∀ p ∈ es, ∃ x c : Int, p = (.int .i64 x, .lit (.int .i64 c)) ∧ I64 x) (x : Int) (hx : I64 x) : Lit.int .i64 x ∈ es.map (·.1) ↔ (f x).isSome = true := by
  rw [← h.has x hx, has_eq, List.any_eq_true, List.mem_map]
  constructor
  · rintro ⟨p, hp, e⟩
    exact ⟨p, hp, by rw [e]; exact WideAt.sameKey_self (isKey x)⟩
  · rintro ⟨p, hp, e⟩
    exact ⟨p, hp, WideAt.sameKey_eq e⟩

theorem Is.atMem {es : List (Lit × DataW Unit)} {f : FM} (h : Is (.map es) f) (hp : es.Pairwise (fun p q => p.1 ≠ q.1)) {x c : Int} (hx : I64 x) (hm : (Lit.int .i64 x, DataW.lit (.int .i64 c)) ∈ es) : f x = some c := by
  have h1 : (f x).isSome = true := by
    rw [← h.has x hx]
    exact List.any_eq_true.2 ⟨_, hm, WideAt.sameKey_self (isKey x)⟩
  obtain ⟨b, hb⟩ := Option.isSome_iff_exists.1 h1
  have e := (h.at_ x b hx hb .nil).symm.trans (WideAt.atKey_mem .nil (isKey x) hp hm)
  have : b = c := by injection e with e; injection e
  rw [hb, this]

/-! ### the keys -/
/-- L is the rising list of the keys of f. -/
def Dom (f : FM) (L : List Int) : Prop := L.Pairwise (· < ·) ∧ ∀ x, x ∈ L ↔ (f x).isSome = true

theorem Dom.unique {f : FM} {L M : List Int} (h : Dom f L) (k : Dom f M) : L = M := by
  refine List.Perm.eq_of_pairwise (le := fun a b => a < b) (fun a b _ _ h1 h2 => by omega) h.1 k.1 ?_
  exact (List.perm_ext_iff_of_nodup (h.1.imp (fun h => by omega)) (k.1.imp (fun h => by omega))).2 fun x => by rw [h.2, k.2]

theorem dom_of_perm {w : World} {b n : Nat} {D : DataW Unit} {f : FM} (hown : w.ownsMap Try.prog 3 RI b n D) (h : Is D f) {ss : List Int} (hp : ss.Perm (intKeys D)) : Dom f (ss.mergeSort (fun x y => decide (x ≤ y))) := by
  obtain ⟨es, rfl, hpw, hk⟩ := entries_int hown
  have hm : ∀ x, x ∈ ss ↔ (f x).isSome = true := by
    intro x
    rw [hp.mem_iff]
    show x ∈ es.map (fun p => Go.intOf p.1) ↔ _
    rw [List.mem_map]
    constructor
    · rintro ⟨p, hp', rfl⟩
      obtain ⟨y, c, rfl, hy⟩ := hk p hp'
      show (f y).isSome = true
      rw [h.atMem hpw hy hp']; rfl
    · intro hf
      obtain ⟨c, hc⟩ := Option.isSome_iff_exists.1 hf
      have := (h.mem hk x (h.dom x c hc).1).2 hf
      obtain ⟨p, hp', e⟩ := List.mem_map.1 this
      exact ⟨p, hp', by rw [e]; rfl⟩
  have hnd : ss.Nodup := by
    refine (hp.nodup_iff).2 ?_
    show (es.map fun p => Go.intOf p.1).Nodup
    refine List.pairwise_map.2 (hpw.imp_of_mem fun {p q} hp' hq' hne e => hne ?_)
    obtain ⟨a, _, rfl, _⟩ := hk p hp'
    obtain ⟨b, _, rfl, _⟩ := hk q hq'
    exact congrArg (Lit.int .i64) e
  have tr : ∀ a b c : Int, decide (a ≤ b) = true → decide (b ≤ c) = true → decide (a ≤ c) = true := fun a b c h1 h2 => by simp only [decide_eq_true_eq] at *; exact Int.le_trans h1 h2
  have to : ∀ a b : Int, (decide (a ≤ b) || decide (b ≤ a)) = true := fun a b => by simp only [Bool.or_eq_true, decide_eq_true_eq]; exact Int.le_total a b
  have hperm := List.mergeSort_perm ss (fun x y => decide (x ≤ y))
  refine ⟨?_, fun x => by rw [hperm.mem_iff, hm]⟩
  have h1 := List.pairwise_mergeSort tr to ss
  have h2 : (ss.mergeSort (fun x y => decide (x ≤ y))).Nodup := (hperm.nodup_iff).2 hnd
  refine (List.Pairwise.and h1 h2).imp fun {a b} h => ?_
  have := of_decide_eq_true h.1
  have h2 := h.2
  omega

theorem length_perm {D : DataW Unit} {ss : List Int} (hp : ss.Perm (intKeys D)) (hD : IsMap D) : ss.length = Maps.size D := by
  obtain ⟨es, rfl⟩ := hD
  rw [hp.length_eq]
  show (es.map fun p => Go.intOf p.1).length = es.length
  simp

/-! ### maps.Clone -/
theorem clone_im {w : World} {b n : Nat} {f : FM} (h : IMap w b n f) :
    Calls Try.prog 47 #[.map (some b)] w fun e w' => e = .returned (.map (some w.heap.size)) ∧ IMap w' w.heap.size n f ∧ Ext w w' := by
  obtain ⟨D, hown, hi⟩ := h
  have hc := AnyW.maps_Clone_owns Try.cloneL 3 RI b n D w hown
  change Calls Try.prog 47 _ _ _ at hc
  exact hc.mono fun e w' ⟨he, h1, _, h2⟩ => ⟨he, ⟨D, h1, hi⟩, h2⟩
theorem clone_nil (w : World) : Calls Try.prog 47 #[.map none] w fun e w' => e = .returned (.map none) ∧ w = w' := by
  have hc := AnyW.maps_Clone_nil Try.cloneL w
  change Calls Try.prog 47 _ _ _ at hc
  exact hc.mono fun e w' ⟨he, h2⟩ => ⟨he, h2.symm⟩

/-! ### maps.Equal -/
def eqI : DataW Unit → DataW Unit → Bool
  | .lit (.int _ x), .lit (.int _ y) => x == y
  | _, _ => false
theorem neq_int (W : World) (x y : Value) (xd yd : DataW Unit) (xp yp : List MemPlace) (hx : RI x = some (xd, xp)) (hy : RI y = some (yd, yp)) :
    (binOp .neq 3 x y).run Try.prog W = .ok (.bool (!eqI xd yd)) W ∧ ∀ (a b : Operand), (eqGuard .neq 3 a b x y).run Try.prog W = .ok () W := by
  obtain ⟨a, rfl, h1, _⟩ := plainElem_int_inv Try.underlying3 hx
  obtain ⟨b, rfl, h2, _⟩ := plainElem_int_inv Try.underlying3 hy
  obtain rfl : xd = .lit (.int .i64 a) := by simpa using (congrArg Prod.fst h1)
  obtain rfl : yd = .lit (.int .i64 b) := by simpa using (congrArg Prod.fst h2)
  refine ⟨?_, fun _ _ => by rw [eqGuard_at_int]; rfl⟩
  simp [go_sem, eqI, binOp]
  rfl

def ReadsO (w : World) (p : Option Nat) (n : Nat) (f : FM) (D : DataW Unit) : Prop := (p = none ∧ D = .nil ∧ ∀ x, f x = none) ∨ ∃ b, p = some b ∧ w.ownsMap Try.prog 3 RI b n D ∧ Is D f
theorem IMapO.reads {w : World} {p : Option Nat} {n : Nat} {f : FM} (h : IMapO w p n f) : ∃ D, ReadsO w p n f D := by
  rcases h with ⟨h1, h2⟩ | ⟨b, h1, D, h2, h3⟩
  · exact ⟨.nil, .inl ⟨h1, rfl, h2⟩⟩
  · exact ⟨D, .inr ⟨b, h1, h2, h3⟩⟩
theorem ReadsO.src {w : World} {p : Option Nat} {n : Nat} {f : FM} {D : DataW Unit} (h : ReadsO w p n f D) : SrcOf Try.prog 3 RI w p D := by
  rcases h with ⟨h1, h2, _⟩ | ⟨b, h1, h2, _⟩
  · exact .inl ⟨h1, h2⟩
  · exact .inr ⟨b, n, h1, h2⟩
/-- The entries of what was read: no key twice, each an int's; and f is just that. -/
theorem ReadsO.list {w : World} {p : Option Nat} {n : Nat} {f : FM} {D : DataW Unit} (h : ReadsO w p n f D) :
    ∃ es : List (Lit × DataW Unit), Lib.entriesD D = es ∧ Maps.size D = es.length ∧ (es.map (·.1)).Nodup ∧ (∀ p ∈ es, ∃ x c : Int, p = (.int .i64 x, .lit (.int .i64 c)) ∧ f x = some c) ∧ (∀ x c, f x = some c → (Lit.int .i64 x, DataW.lit (.int .i64 c)) ∈ es) ∧
      ∀ x, (f x = none → Maps.has D (.int .i64 x) = false ∨ ¬ I64 x) ∧ ∀ c, f x = some c → Maps.has D (.int .i64 x) = true ∧ D.atKey (.int .i64 x) .nil = .lit (.int .i64 c) := by
  rcases h with ⟨_, rfl, h⟩ | ⟨b, _, hown, hi⟩
  · refine ⟨[], rfl, rfl, List.nodup_nil, by simp, (fun x c e => by rw [h] at e; cases e), fun x => ⟨fun _ => .inl rfl, (fun c e => by rw [h] at e; cases e)⟩⟩
  · obtain ⟨es, rfl, hpw, hk⟩ := entries_int hown
    refine ⟨es, rfl, rfl, keys_nodup hpw, fun p hp => ?_, fun x c e => ?_, fun x => ⟨fun e => ?_, fun c e => ?_⟩⟩
    · obtain ⟨x, c, rfl, hx⟩ := hk p hp
      exact ⟨x, c, rfl, hi.atMem hpw hx hp⟩
    · have hx := (hi.dom x c e).1
      obtain ⟨p, hp, e1⟩ := List.mem_map.1 ((hi.mem hk x hx).2 (by rw [e]; rfl))
      obtain ⟨y, d, rfl, hy⟩ := hk p hp
      have e1 : Lit.int .i64 y = Lit.int .i64 x := e1
      obtain rfl : y = x := by injection e1
      have := hi.atMem hpw hx hp
      rw [e] at this
      cases this
      exact hp
    · by_cases hx : I64 x
      · exact .inl (by rw [hi.has x hx, e]; rfl)
      · exact .inr hx
    · have hx := (hi.dom x c e).1
      exact ⟨by rw [hi.has x hx, e]; rfl, hi.at_ x c hx e _⟩

theorem equalD_iff {w w' : World} {p q : Option Nat} {n m : Nat} {f g : FM} {D E : DataW Unit} (h : ReadsO w p n f D) (k : ReadsO w' q m g E) : Lib.equalFuncD eqI D E = true ↔ ∀ x, f x = g x := by
  classical
  obtain ⟨es, he, hs, hnd, h1, h2, h3⟩ := h.list
  obtain ⟨fs, ke, ks, knd, k1, k2, k3⟩ := k.list
  unfold Lib.equalFuncD
  rw [he, hs, ks, Bool.and_eq_true, decide_eq_true_eq, List.all_eq_true]
  have good : ∀ x c, f x = some c → (Lib.goodD eqI E (Lit.int .i64 x, DataW.lit (.int .i64 c)) = true ↔ g x = some c) := by
    intro x c e
    unfold Lib.goodD
    rw [Bool.and_eq_true]
    cases hg : g x with
    | none =>
      have hx : I64 x := by
        rcases h with ⟨_, _, h⟩ | ⟨b, _, _, hi⟩
        · rw [h] at e; cases e
        · exact (hi.dom x c e).1
      rcases (k3 x).1 hg with h0 | h0
      · simp [h0]
      · exact absurd hx h0
    | some d =>
      obtain ⟨a1, a2⟩ := (k3 x).2 d hg
      rw [a2]
      simp only [a1, true_and, eqI, beq_iff_eq, Option.some.injEq]
      exact eq_comm
  constructor
  · rintro ⟨hl, hall⟩ x
    have sub : ∀ x c, f x = some c → g x = some c := fun x c e => (good x c e).1 (hall _ (h2 x c e))
    have sub2 : ∀ y ∈ es.map (·.1), y ∈ fs.map (·.1) := by
      intro y hy
      obtain ⟨p, hp, rfl⟩ := List.mem_map.1 hy
      obtain ⟨x, c, rfl, e⟩ := h1 p hp
      exact List.mem_map.2 ⟨_, k2 x c (sub x c e), rfl⟩
    have back := subset_back (es.map (·.1)) (fs.map (·.1)) hnd knd sub2 (by simp [hl])
    cases hf : f x with
    | some c => rw [sub x c hf]
    | none =>
      cases hg : g x with
      | none => rfl
      | some c =>
        obtain ⟨p, hp, e⟩ := List.mem_map.1 (back _ (List.mem_map.2 ⟨_, k2 x c hg, rfl⟩))
        obtain ⟨y, d, rfl, e'⟩ := h1 p hp
        have e : Lit.int .i64 y = Lit.int .i64 x := e
        obtain rfl : y = x := by injection e
        rw [hf] at e'; cases e'
  · intro heq
    have perm : ∀ y, y ∈ es.map (·.1) ↔ y ∈ fs.map (·.1) := by
      intro y
      constructor
      · intro hy
        obtain ⟨p, hp, rfl⟩ := List.mem_map.1 hy
        obtain ⟨x, c, rfl, e⟩ := h1 p hp
        exact List.mem_map.2 ⟨_, k2 x c ((heq x).symm.trans e), rfl⟩
      · intro hy
        obtain ⟨p, hp, rfl⟩ := List.mem_map.1 hy
        obtain ⟨x, c, rfl, e⟩ := k1 p hp
        exact List.mem_map.2 ⟨_, h2 x c ((heq x).trans e), rfl⟩
    refine ⟨?_, fun p hp => ?_⟩
    · have := ((List.perm_ext_iff_of_nodup hnd knd).2 perm).length_eq
      simpa using this
    · obtain ⟨x, c, rfl, e⟩ := h1 p hp
      exact (good x c e).2 ((heq x).symm.trans e)

theorem equal_im {w : World} {p q : Option Nat} {n m : Nat} {f g : FM} (h : IMapO w p n f) (k : IMapO w q m g) :
    Calls Try.prog 37 #[.map p, .map q] w fun e w' => ∃ b : Bool, (e = .returned (.bool b) ∧ (b = true ↔ ∀ x, f x = g x)) ∧ Ext w w' := by
  obtain ⟨D, hD⟩ := h.reads
  obtain ⟨E, hE⟩ := k.reads
  have hc := AnyEq.maps_Equal_opt Try.equalL keyedI RI RI eqI p q D E w hD.src hE.src (.int .i64 0) zeroI (.lit (.int .i64 0)) [] (plainElem_int Try.underlying3 (by decide)) neq_int
  change Calls Try.prog 37 _ _ _ at hc
  exact hc.mono fun e w' ⟨he, hg⟩ => ⟨_, ⟨he, equalD_iff hD hE⟩, (Ext.refl w).grown hg (fun k e => by cases e)⟩
theorem equal_yes {w : World} {p q : Option Nat} {n m : Nat} {f g : FM} (h : IMapO w p n f) (k : IMapO w q m g) (he : ∀ x, f x = g x) :
    Calls Try.prog 37 #[.map p, .map q] w fun e w' => e = .returned (.bool true) ∧ Ext w w' :=
  (equal_im h k).mono fun e w' ⟨b, ⟨h1, h2⟩, h3⟩ => ⟨by rw [h1, h2.2 he], h3⟩
end Go.Proofs.Ytjckghdgogkeaaa

namespace Go.Proofs.Ytjckghdgogkeaaa
open Go.RowKit Go.Maps
set_option linter.unusedVariables false

set_option maxHeartbeats 400000 in
theorem may_copied_nil (S W L : Int) (w : World) :
    Calls Try.prog 36 #[.agg #[.int .i64 S, .int .i64 W, .int .i64 L, .bool false, .map none]] w fun e w' => ∃ b, (e = .returned (.agg #[.int .i64 S, .int .i64 W, .int .i64 L, .bool false, .map (some b)]) ∧ w.heap.size ≤ b) ∧ IMap w' b 0 noF ∧ Ext w w' := by
  have hq := fun w => run_eql_map_nil (P := Try.prog) w 29 _ _ none Try.underlying29
  have hmm := @run_makeMap Try.prog
  go_enter Try.func36, Try.ntmps36
  go_wp2_with (go_at_call 47; refine (clone_nil _).mono ?_; rintro e w' ⟨rfl, rfl⟩)
  refine bodyPost_ret (v := .agg #[.int .i64 S, .int .i64 W, .int .i64 L, .bool false, .map (some (w.heap.size + 1 + 1))]) ?_ rfl ⟨_, ⟨rfl, by omega⟩, IMap.made' (by simp), (by repeat (first | ((with_reducible refine Ext.set1 ?_ ?_); (first | (focus (simp; done)) | (focus (simp; omega)) | (focus omega))) | (with_reducible refine Ext.alloc ?_ _) | (with_reducible exact Ext.refl _) | (refine Ext.trans ?_ (by with_reducible assumption))))⟩
  simp [results, Try.results36, go_sem]

set_option maxHeartbeats 400000 in
theorem may_copied_some (S W L : Int) (b n : Nat) (f : FM) (w : World) (h : IMap w b n f) :
    Calls Try.prog 36 #[.agg #[.int .i64 S, .int .i64 W, .int .i64 L, .bool false, .map (some b)]] w fun e w' => ∃ b, (e = .returned (.agg #[.int .i64 S, .int .i64 W, .int .i64 L, .bool false, .map (some b)]) ∧ w.heap.size ≤ b) ∧ IMap w' b n f ∧ Ext w w' := by
  have hq := fun w r => run_eql_map_nil (P := Try.prog) w 29 _ _ (some r) Try.underlying29
  go_enter Try.func36, Try.ntmps36
  go_wp2_with (go_at_call 47; refine Calls.mono (clone_im (h.ext (by repeat (first | ((with_reducible refine Ext.set1 ?_ ?_); (first | (focus (simp; done)) | (focus (simp; omega)) | (focus omega))) | (with_reducible refine Ext.alloc ?_ _) | (with_reducible exact Ext.refl _) | (refine Ext.trans ?_ (by with_reducible assumption)))))) ?_; rintro e w1 ⟨rfl, him1, hb1⟩; obtain ⟨hc1, hf1⟩ := hb1.cells; have hz1 := hb1.size; simp at hz1; have c4 := hc1 w.heap.size 4 (by simp <;> omega); simp at c4)
  simp at him1
  refine bodyPost_ret (v := .agg #[.int .i64 S, .int .i64 W, .int .i64 L, .bool false, .map (some (w.heap.size + 1 + 1))]) ?_ rfl ⟨_, ⟨rfl, by omega⟩, ?_, ?_⟩
  · simp [results, Try.results36, go_sem, hc1]
  · exact (by (repeat (first | ((with_reducible refine IMap.set1 ?_ ?_); (focus omega)) | (with_reducible refine IMap.alloc ?_ _))); with_reducible assumption)
  · exact (by repeat (first | ((with_reducible refine Ext.set1 ?_ ?_); (first | (focus (simp; done)) | (focus (simp; omega)) | (focus omega))) | (with_reducible refine Ext.alloc ?_ _) | (with_reducible exact Ext.refl _) | (refine Ext.trans ?_ (by with_reducible assumption))))

/-- (may.State).copied: a state with a map of its own. -/
theorem may_copied (S W L : Int) (p : Option Nat) (n : Nat) (f : FM) (w : World) (h : IMapO w p n f) :
    Calls Try.prog 36 #[.agg #[.int .i64 S, .int .i64 W, .int .i64 L, .bool false, .map p]] w fun e w' => ∃ b, (e = .returned (.agg #[.int .i64 S, .int .i64 W, .int .i64 L, .bool false, .map (some b)]) ∧ w.heap.size ≤ b) ∧ IMap w' b n f ∧ Ext w w' := by
  rcases h with ⟨rfl, h⟩ | ⟨b, rfl, h⟩
  · refine (may_copied_nil S W L w).mono fun e w' ⟨b, h1, h2, h3⟩ => ⟨b, h1, ?_, h3⟩
    exact (h2.mono (Nat.zero_le n)).congr fun x => (h x).symm
  · exact may_copied_some S W L b n f w h
end Go.Proofs.Ytjckghdgogkeaaa

namespace Go.Proofs.Ytjckghdgogkeaaa
open Go.RowKit Go.Maps
set_option linter.unusedVariables false

/-- fo is f where the entry is still to come, g where it is done. -/
def Mid (f g : FM) (lf : Int → Bool) (fo : FM) : Prop := ∀ y, fo y = if lf y = true then f y else g y
theorem Mid.start {f g : FM} (h : ∀ y, f y = none → g y = none) : Mid f g (fun y => (f y).isSome) f := fun y => by
  show f y = if (f y).isSome = true then f y else g y
  cases hf : f y with
  | none => simp [h y hf]
  | some c => simp
theorem Mid.keep {f g : FM} {lf : Int → Bool} {fo : FM} (h : Mid f g lf fo) {y : Int} (e : g y = f y) : Mid f g (fun z => lf z && !decide (z = y)) fo := fun z => by
  rw [h z]
  by_cases c : z = y
  · subst c; simp [e]
  · simp [c]
theorem Mid.put {f g : FM} {lf : Int → Bool} {fo : FM} (h : Mid f g lf fo) {y v : Int} (e : g y = some v) : Mid f g (fun z => lf z && !decide (z = y)) (put fo y v) := fun z => by
  unfold Ytjckghdgogkeaaa.put
  by_cases c : z = y
  · subst c; simp [e]
  · simp [c, h z]
theorem Mid.cut {f g : FM} {lf : Int → Bool} {fo : FM} (h : Mid f g lf fo) {y v : Int} (e : g y = none) : Mid f g (fun z => lf z && !decide (z = y)) (cut (Ytjckghdgogkeaaa.put fo y v) y) := fun z => by
  unfold Ytjckghdgogkeaaa.put Ytjckghdgogkeaaa.cut
  by_cases c : z = y
  · subst c; simp [e]
  · simp [c, h z]
theorem Mid.done {f g : FM} {lf : Int → Bool} {fo : FM} (h : Mid f g lf fo) (e : ∀ y, lf y = false) : ∀ y, fo y = g y := fun y => by rw [h y, e]; simp

/-- What an access of x, whose bound is h (Ways if it has none), does to the other lines. -/
def aged (S W h x : Int) (f : FM) : FM := fun y =>
  match f y with
  | none => none
  | some c => if y = x ∨ y % S ≠ x % S ∨ h < c then some c else if W ≤ c + 1 then none else some (c + 1)
theorem aged_none {S W h x : Int} {f : FM} {y : Int} (e : f y = none) : aged S W h x f y = none := by unfold aged; rw [e]
theorem aged_keep {S W h x : Int} {f : FM} {y c : Int} (e : f y = some c) (k : y = x ∨ y % S ≠ x % S ∨ h < c) : aged S W h x f y = some c := by unfold aged; rw [e]; simp [k]
theorem aged_up {S W h x : Int} {f : FM} {y c : Int} (e : f y = some c) (k1 : y ≠ x) (k2 : y % S = x % S) (k3 : c ≤ h) (k4 : c + 1 < W) : aged S W h x f y = some (c + 1) := by
  unfold aged; rw [e]
  simp only
  rw [if_neg (by rintro (h | h | h) <;> omega), if_neg (by omega)]
theorem aged_out {S W h x : Int} {f : FM} {y c : Int} (e : f y = some c) (k1 : y ≠ x) (k2 : y % S = x % S) (k3 : c ≤ h) (k4 : W ≤ c + 1) : aged S W h x f y = none := by
  unfold aged; rw [e]
  simp only
  rw [if_neg (by rintro (h | h | h) <;> omega), if_pos (by omega)]

/-- An access of the line x. -/
def mayAcc (S W : Int) (f : FM) (x : Int) : FM := put (aged S W ((f x).getD W) x f) x 0
/-- Bounds are from 0 to W - 1, lines not negative. -/
def Fit (W : Int) (f : FM) : Prop := ∀ y c, f y = some c → 0 ≤ y ∧ 0 ≤ c ∧ c < W
theorem fit_no (W : Int) : Fit W noF := fun _ _ h => by cases h
theorem fit_put {W : Int} {f : FM} (h : Fit W f) {x v : Int} (hx : 0 ≤ x) (h0 : 0 ≤ v) (h1 : v < W) : Fit W (put f x v) := fun y c e => by
  unfold Ytjckghdgogkeaaa.put at e
  by_cases k : y = x
  · simp [k] at e; subst e; exact ⟨by omega, h0, h1⟩
  · simp [k] at e; exact h y c e
theorem fit_aged {S W h x : Int} {f : FM} (hf : Fit W f) : Fit W (aged S W h x f) := fun y c e => by
  unfold aged at e
  cases hy : f y with
  | none => rw [hy] at e; cases e
  | some d =>
    rw [hy] at e
    have := hf y d hy
    simp only at e
    split at e
    · cases e; exact this
    · split at e
      · cases e
      · cases e; exact ⟨this.1, by omega, by omega⟩
theorem fit_acc {S W : Int} {f : FM} (hf : Fit W f) (hw : 1 ≤ W) {x : Int} (hx : 0 ≤ x) : Fit W (mayAcc S W f x) := fit_put (fit_aged hf) hx (by omega) (by omega)

/-- Each of the lines lo to hi gets the bound 0. -/
def puts (f : FM) (lo hi : Int) : FM := fun y => if lo ≤ y ∧ y ≤ hi then some 0 else f y
theorem puts_nil (f : FM) (lo : Int) : puts f lo (lo - 1) = f := by
  funext y; unfold puts; rw [if_neg (by omega)]
theorem puts_snoc (f : FM) (lo hi : Int) (h : lo ≤ hi + 1) : puts f lo (hi + 1) = put (puts f lo hi) (hi + 1) 0 := by
  funext y
  unfold puts put
  by_cases c : y = hi + 1
  · subst c; simp; omega
  · by_cases k : lo ≤ y ∧ y ≤ hi
    · rw [if_pos (by omega)]; simp [c, k]
    · rw [if_neg (by omega)]; simp [c, k]
theorem fit_puts {W : Int} {f : FM} (h : Fit W f) (hw : 1 ≤ W) {lo hi : Int} (hl : 0 ≤ lo) : Fit W (puts f lo hi) := fun y c e => by
  unfold puts at e
  split at e
  · cases e; omega
  · exact h y c e

/-- A state: none: unknown. -/
abbrev St := Option FM
def sAcc (S W : Int) : St → Int → St
  | none, _ => none
  | some f, x => if x < 0 then some f else some (mayAcc S W f x)
def sRange (S W : Int) : St → Int → Int → St
  | none, _, _ => none
  | some f, lo, hi =>
    if hi < max lo 0 then some f
    else if max lo 0 = hi then some (mayAcc S W f hi)
    else if 64 ≤ hi - max lo 0 then none
    else some (puts f (max lo 0) hi)
/-- The lesser of two bounds. -/
def least : Option Int → Option Int → Option Int
  | none, b => b
  | a, none => a
  | some a, some b => some (if b < a then b else a)
def joined (f g : FM) : FM := fun y => least (f y) (g y)
def sJoin : St → St → St
  | some f, some g => some (joined f g)
  | _, _ => none
theorem fit_joined {W : Int} {f g : FM} (hf : Fit W f) (hg : Fit W g) : Fit W (joined f g) := fun y c e => by
  unfold joined at e
  cases h1 : f y with
  | none => rw [h1] at e; exact hg y c e
  | some a =>
    cases h2 : g y with
    | none => rw [h1, h2] at e; cases e; exact hf y c h1
    | some b =>
      rw [h1, h2] at e
      have := hf y a h1
      have := hg y b h2
      simp only [least] at e
      split at e <;> cases e <;> assumption
end Go.Proofs.Ytjckghdgogkeaaa
