/- The contracts of maps.Clone and maps.Equal, on maps of ints to ints read as partial functions; the keys of such a map as a rising list. -/
import Derived.Test.YtjckghdgogkeaaaZEx3
import Derived.Test.YtjckghdgogkeaaaLay1
import Derived.Lib.SlKeysI
import Derived.Maps.RangeWalk
namespace Go.Proofs.Ytjckghdgogkeaaa
open Go.RowKit Go.Maps Go.WideShapes
set_option linter.unusedVariables false

theorem entries_int {w : World} {b n : Nat} {D : DataW Unit} (h : w.ownsMap Try.prog 3 RI b n D) :
    ∃ es, D = .map es ∧ es.Pairwise (fun p q => p.1 ≠ q.1) ∧ ∀ p ∈ es, ∃ x c : Int, p = (.int .i64 x, .lit (.int .i64 c)) ∧ I64 x := by
  obtain ⟨es0, clock, hb, F, hs, rfl⟩ := h
  refine ⟨_, rfl, ((sorted_perm _).pairwise_iff (fun {_ _} hne => Ne.symm hne)).2 (Maps.fit_apart keyedI F), fun p hp => ?_⟩
  obtain ⟨x, hx, rfl⟩ := List.mem_map.1 (mem_sorted.1 hp)
  obtain ⟨y, hy⟩ := F.reads x hx
  obtain ⟨z, hz, hzd⟩ := WideElems.rd_val hy
  obtain ⟨k, _, hk, hwf⟩ := Maps.keyOf_int_inv Try.underlying3 (WideElems.rd_key hy)
  obtain ⟨c, _, hc, _⟩ := plainElem_int_inv Try.underlying3 hz
  refine ⟨k, c, ?_, hwf⟩
  rw [WideElems.rg_of hy]
  refine Prod.ext hk ?_
  rw [hzd, hc]

/-- A list with no repeats inside one that is no longer holds all of it. -/
theorem subset_back {α : Type} [DecidableEq α] : ∀ (l1 l2 : List α), l1.Nodup → l2.Nodup → (∀ x ∈ l1, x ∈ l2) → l2.length ≤ l1.length → ∀ x ∈ l2, x ∈ l1
  | [], l2, _, _, _, hl, x, hx => by
    have : l2 = [] := List.eq_nil_of_length_eq_zero (by simpa using hl)
    subst this; simp at hx
  | a :: r, l2, h1, h2, hs, hl, x, hx => by
    obtain ⟨ha, hr⟩ := List.nodup_cons.1 h1
    have ha2 : a ∈ l2 := hs a (by simp)
    by_cases e : x = a
    · simp [e]
    · have := subset_back r (l2.erase a) hr (h2.erase a) (fun y hy => (List.mem_erase_of_ne (fun e' => ha (by rw [← e']; exact hy))).2 (hs y (by simp [hy]))) (by rw [List.length_erase_of_mem ha2]; simp at hl; omega) x ((List.mem_erase_of_ne e).2 hx)
      simp [this]

theorem keys_nodup {es : List (Lit × DataW Unit)} (hp : es.Pairwise (fun p q => p.1 ≠ q.1)) : (es.map (·.1)).Nodup := List.pairwise_map.2 hp

theorem Is.mem {es : List (Lit × DataW Unit)} {f : FM} (h : Is (.map es) f) (hk : ∀ p ∈ es, ∃ x c : Int, p = (.int .i64 x, .lit (.int .i64 c)) ∧ I64 x) (x : Int) (hx : I64 x) : Lit.int .i64 x ∈ es.map (·.1) ↔ (f x).isSome = true := by
  rw [← h.has x hx, has_eq, List.any_eq_true, List.mem_map]
  constructor
  · rintro ⟨p, hp, e⟩
    exact ⟨p, hp, by rw [e]; exact WideAt.sameKey_self (isKey x)⟩
  · rintro ⟨p, hp, e⟩
    exact ⟨p, hp, WideAt.sameKey_eq e⟩

theorem Is.atMem {es : List (Lit × DataW Unit)} {f : FM} (h : Is (.map es) f) (hp : es.Pairwise (fun p q => p.1 ≠ q.1)) {x c : Int} (hx : I64 x) (hm : (Lit.int .i64 x, DataW.lit (.int .i64 c)) ∈ es) : f x = some c := by
  have h1 : (f x).isSome = true := by
    rw [← h.has x hx]
    exact List.any_eq_true.2 ⟨_, hm, WideAt.sameKey_self (isKey x)⟩
  obtain ⟨b, hb⟩ := Option.isSome_iff_exists.1 h1
  have e := (h.at_ x b hx hb .nil).symm.trans (WideAt.atKey_mem .nil (isKey x) hp hm)
  have : b = c := by injection e with e; injection e
  rw [hb, this]

/-! ### the keys -/
/-- L is the rising list of the keys of f. -/
def Dom (f : FM) (L : List Int) : Prop := L.Pairwise (· < ·) ∧ ∀ x, x ∈ L ↔ (f x).isSome = true

theorem Dom.unique {f : FM} {L M : List Int} (h : Dom f L) (k : Dom f M) : L = M := by
  refine List.Perm.eq_of_pairwise (le := fun a b => a < b) (fun a b _ _ h1 h2 => by omega) h.1 k.1 ?_
  exact (List.perm_ext_iff_of_nodup (h.1.imp (fun h => by omega)) (k.1.imp (fun h => by omega))).2 fun x => by rw [h.2, k.2]

theorem dom_of_perm {w : World} {b n : Nat} {D : DataW Unit} {f : FM} (hown : w.ownsMap Try.prog 3 RI b n D) (h : Is D f) {ss : List Int} (hp : ss.Perm (intKeys D)) : Dom f (ss.mergeSort (fun x y => decide (x ≤ y))) := by
  obtain ⟨es, rfl, hpw, hk⟩ := entries_int hown
  have hm : ∀ x, x ∈ ss ↔ (f x).isSome = true := by
    intro x
    rw [hp.mem_iff]
    show x ∈ es.map (fun p => Go.intOf p.1) ↔ _
    rw [List.mem_map]
    constructor
    · rintro ⟨p, hp', rfl⟩
      obtain ⟨y, c, rfl, hy⟩ := hk p hp'
      show (f y).isSome = true
      rw [h.atMem hpw hy hp']; rfl
    · intro hf
      obtain ⟨c, hc⟩ := Option.isSome_iff_exists.1 hf
      have := (h.mem hk x (h.dom x c hc).1).2 hf
      obtain ⟨p, hp', e⟩ := List.mem_map.1 this
      exact ⟨p, hp', by rw [e]; rfl⟩
  have hnd : ss.Nodup := by
    refine (hp.nodup_iff).2 ?_
    show (es.map fun p => Go.intOf p.1).Nodup
    refine List.pairwise_map.2 (hpw.imp_of_mem fun {p q} hp' hq' hne e => hne ?_)
    obtain ⟨a, _, rfl, _⟩ := hk p hp'
    obtain ⟨b, _, rfl, _⟩ := hk q hq'
    exact congrArg (Lit.int .i64) e
  have tr : ∀ a b c : Int, decide (a ≤ b) = true → decide (b ≤ c) = true → decide (a ≤ c) = true := fun a b c h1 h2 => by simp only [decide_eq_true_eq] at *; exact Int.le_trans h1 h2
  have tot : ∀ a b : Int, (decide (a ≤ b) || decide (b ≤ a)) = true := fun a b => by simp only [Bool.or_eq_true, decide_eq_true_eq]; exact Int.le_total a b
  have hperm := List.mergeSort_perm ss (fun x y => decide (x ≤ y))
  refine ⟨?_, fun x => by rw [hperm.mem_iff, hm]⟩
  have h1 := List.pairwise_mergeSort tr tot ss
  have h2 : (ss.mergeSort (fun x y => decide (x ≤ y))).Nodup := (hperm.nodup_iff).2 hnd
  refine (List.Pairwise.and h1 h2).imp fun {a b} h => ?_
  have := of_decide_eq_true h.1
  have h2 := h.2
  omega

theorem length_perm {D : DataW Unit} {ss : List Int} (hp : ss.Perm (intKeys D)) (hD : IsMap D) : ss.length = Maps.size D := by
  obtain ⟨es, rfl⟩ := hD
  rw [hp.length_eq]
  show (es.map fun p => Go.intOf p.1).length = es.length
  simp

/-! ### maps.Clone -/
theorem clone_im {w : World} {b n : Nat} {f : FM} (h : IMap w b n f) :
    Calls Try.prog 47 #[.map (some b)] w fun e w' => e = .returned (.map (some w.heap.size)) ∧ IMap w' w.heap.size n f ∧ Ext w w' := by
  obtain ⟨D, hown, hi⟩ := h
  have hc := AnyW.maps_Clone_owns Try.cloneL 3 RI b n D w hown
  change Calls Try.prog 47 _ _ _ at hc
  exact hc.mono fun e w' ⟨he, h1, _, h2⟩ => ⟨he, ⟨D, h1, hi⟩, h2⟩
theorem clone_nil (w : World) : Calls Try.prog 47 #[.map none] w fun e w' => e = .returned (.map none) ∧ w = w' := by
  have hc := AnyW.maps_Clone_nil Try.cloneL w
  change Calls Try.prog 47 _ _ _ at hc
  exact hc.mono fun e w' ⟨he, h2⟩ => ⟨he, h2.symm⟩

/-! ### maps.Equal -/
def eqI : DataW Unit → DataW Unit → Bool
  | .lit (.int _ x), .lit (.int _ y) => x == y
  | _, _ => false
theorem neq_int (W : World) (x y : Value) (xd yd : DataW Unit) (xp yp : List MemPlace) (hx : RI x = some (xd, xp)) (hy : RI y = some (yd, yp)) :
    (binOp .neq 3 x y).run Try.prog W = .ok (.bool (!eqI xd yd)) W ∧ ∀ (a b : Operand), (eqGuard .neq 3 a b x y).run Try.prog W = .ok () W := by
  obtain ⟨a, rfl, h1, _⟩ := plainElem_int_inv Try.underlying3 hx
  obtain ⟨b, rfl, h2, _⟩ := plainElem_int_inv Try.underlying3 hy
  obtain rfl : xd = .lit (.int .i64 a) := by simpa using (congrArg Prod.fst h1)
  obtain rfl : yd = .lit (.int .i64 b) := by simpa using (congrArg Prod.fst h2)
  refine ⟨?_, fun _ _ => by rw [eqGuard_at_int]; rfl⟩
  simp [go_sem, eqI, binOp]
  rfl

def ReadsO (w : World) (p : Option Nat) (n : Nat) (f : FM) (D : DataW Unit) : Prop := (p = none ∧ D = .nil ∧ ∀ x, f x = none) ∨ ∃ b, p = some b ∧ w.ownsMap Try.prog 3 RI b n D ∧ Is D f
theorem IMapO.reads {w : World} {p : Option Nat} {n : Nat} {f : FM} (h : IMapO w p n f) : ∃ D, ReadsO w p n f D := by
  rcases h with ⟨h1, h2⟩ | ⟨b, h1, D, h2, h3⟩
  · exact ⟨.nil, .inl ⟨h1, rfl, h2⟩⟩
  · exact ⟨D, .inr ⟨b, h1, h2, h3⟩⟩
theorem ReadsO.src {w : World} {p : Option Nat} {n : Nat} {f : FM} {D : DataW Unit} (h : ReadsO w p n f D) : SrcOf Try.prog 3 RI w p D := by
  rcases h with ⟨h1, h2, _⟩ | ⟨b, h1, h2, _⟩
  · exact .inl ⟨h1, h2⟩
  · exact .inr ⟨b, n, h1, h2⟩
/-- The entries of what was read: no key twice, each an int's; and f is just that. -/
theorem ReadsO.list {w : World} {p : Option Nat} {n : Nat} {f : FM} {D : DataW Unit} (h : ReadsO w p n f D) :
    ∃ es : List (Lit × DataW Unit), Lib.entriesD D = es ∧ Maps.size D = es.length ∧ (es.map (·.1)).Nodup ∧ (∀ p ∈ es, ∃ x c : Int, p = (.int .i64 x, .lit (.int .i64 c)) ∧ f x = some c) ∧ (∀ x c, f x = some c → (Lit.int .i64 x, DataW.lit (.int .i64 c)) ∈ es) ∧
      ∀ x, (f x = none → Maps.has D (.int .i64 x) = false ∨ ¬ I64 x) ∧ ∀ c, f x = some c → Maps.has D (.int .i64 x) = true ∧ D.atKey (.int .i64 x) .nil = .lit (.int .i64 c) := by
  rcases h with ⟨_, rfl, h⟩ | ⟨b, _, hown, hi⟩
  · refine ⟨[], rfl, rfl, List.nodup_nil, by simp, (fun x c e => by rw [h] at e; cases e), fun x => ⟨fun _ => .inl rfl, (fun c e => by rw [h] at e; cases e)⟩⟩
  · obtain ⟨es, rfl, hpw, hk⟩ := entries_int hown
    refine ⟨es, rfl, rfl, keys_nodup hpw, fun p hp => ?_, fun x c e => ?_, fun x => ⟨fun e => ?_, fun c e => ?_⟩⟩
    · obtain ⟨x, c, rfl, hx⟩ := hk p hp
      exact ⟨x, c, rfl, hi.atMem hpw hx hp⟩
    · have hx := (hi.dom x c e).1
      obtain ⟨p, hp, e1⟩ := List.mem_map.1 ((hi.mem hk x hx).2 (by rw [e]; rfl))
      obtain ⟨y, d, rfl, hy⟩ := hk p hp
      have e1 : Lit.int .i64 y = Lit.int .i64 x := e1
      obtain rfl : y = x := by injection e1
      have := hi.atMem hpw hx hp
      rw [e] at this
      cases this
      exact hp
    · by_cases hx : I64 x
      · exact .inl (by rw [hi.has x hx, e]; rfl)
      · exact .inr hx
    · have hx := (hi.dom x c e).1
      exact ⟨by rw [hi.has x hx, e]; rfl, hi.at_ x c hx e _⟩

theorem equalD_iff {w w' : World} {p q : Option Nat} {n m : Nat} {f g : FM} {D E : DataW Unit} (h : ReadsO w p n f D) (k : ReadsO w' q m g E) : Lib.equalFuncD eqI D E = true ↔ ∀ x, f x = g x := by
  classical
  obtain ⟨es, he, hs, hnd, h1, h2, h3⟩ := h.list
  obtain ⟨fs, ke, ks, knd, k1, k2, k3⟩ := k.list
  unfold Lib.equalFuncD
  rw [he, hs, ks, Bool.and_eq_true, decide_eq_true_eq, List.all_eq_true]
  have good : ∀ x c, f x = some c → (Lib.goodD eqI E (Lit.int .i64 x, DataW.lit (.int .i64 c)) = true ↔ g x = some c) := by
    intro x c e
    unfold Lib.goodD
    rw [Bool.and_eq_true]
    cases hg : g x with
    | none =>
      have hx : I64 x := by
        rcases h with ⟨_, _, h⟩ | ⟨b, _, _, hi⟩
        · rw [h] at e; cases e
        · exact (hi.dom x c e).1
      rcases (k3 x).1 hg with h0 | h0
      · simp [h0]
      · exact absurd hx h0
    | some d =>
      obtain ⟨a1, a2⟩ := (k3 x).2 d hg
      rw [a2]
      simp only [a1, true_and, eqI, beq_iff_eq, Option.some.injEq]
      exact eq_comm
  constructor
  · rintro ⟨hl, hall⟩ x
    have sub : ∀ x c, f x = some c → g x = some c := fun x c e => (good x c e).1 (hall _ (h2 x c e))
    have sub2 : ∀ y ∈ es.map (·.1), y ∈ fs.map (·.1) := by
      intro y hy
      obtain ⟨p, hp, rfl⟩ := List.mem_map.1 hy
      obtain ⟨x, c, rfl, e⟩ := h1 p hp
      exact List.mem_map.2 ⟨_, k2 x c (sub x c e), rfl⟩
    have back := subset_back (es.map (·.1)) (fs.map (·.1)) hnd knd sub2 (by simp [hl])
    cases hf : f x with
    | some c => rw [sub x c hf]
    | none =>
      cases hg : g x with
      | none => rfl
      | some c =>
        obtain ⟨p, hp, e⟩ := List.mem_map.1 (back _ (List.mem_map.2 ⟨_, k2 x c hg, rfl⟩))
        obtain ⟨y, d, rfl, e'⟩ := h1 p hp
        have e : Lit.int .i64 y = Lit.int .i64 x := e
        obtain rfl : y = x := by injection e
        rw [hf] at e'; cases e'
  · intro heq
    have perm : ∀ y, y ∈ es.map (·.1) ↔ y ∈ fs.map (·.1) := by
      intro y
      constructor
      · intro hy
        obtain ⟨p, hp, rfl⟩ := List.mem_map.1 hy
        obtain ⟨x, c, rfl, e⟩ := h1 p hp
        exact List.mem_map.2 ⟨_, k2 x c ((heq x).symm.trans e), rfl⟩
      · intro hy
        obtain ⟨p, hp, rfl⟩ := List.mem_map.1 hy
        obtain ⟨x, c, rfl, e⟩ := k1 p hp
        exact List.mem_map.2 ⟨_, h2 x c ((heq x).trans e), rfl⟩
    refine ⟨?_, fun p hp => ?_⟩
    · have := ((List.perm_ext_iff_of_nodup hnd knd).2 perm).length_eq
      simpa using this
    · obtain ⟨x, c, rfl, e⟩ := h1 p hp
      exact (good x c e).2 ((heq x).symm.trans e)

theorem equal_im {w : World} {p q : Option Nat} {n m : Nat} {f g : FM} (h : IMapO w p n f) (k : IMapO w q m g) :
    Calls Try.prog 37 #[.map p, .map q] w fun e w' => ∃ b : Bool, (e = .returned (.bool b) ∧ (b = true ↔ ∀ x, f x = g x)) ∧ Ext w w' := by
  obtain ⟨D, hD⟩ := h.reads
  obtain ⟨E, hE⟩ := k.reads
  have hc := AnyEq.maps_Equal_opt Try.equalL keyedI RI RI eqI p q D E w hD.src hE.src (.int .i64 0) zeroI (.lit (.int .i64 0)) [] (plainElem_int Try.underlying3 (by decide)) neq_int
  change Calls Try.prog 37 _ _ _ at hc
  exact hc.mono fun e w' ⟨he, hg⟩ => ⟨_, ⟨he, equalD_iff hD hE⟩, (Ext.refl w).grown hg (fun k e => by cases e)⟩
theorem equal_yes {w : World} {p q : Option Nat} {n m : Nat} {f g : FM} (h : IMapO w p n f) (k : IMapO w q m g) (he : ∀ x, f x = g x) :
    Calls Try.prog 37 #[.map p, .map q] w fun e w' => e = .returned (.bool true) ∧ Ext w w' :=
  (equal_im h k).mono fun e w' ⟨b, ⟨h1, h2⟩, h3⟩ => ⟨by rw [h1, h2.2 he], h3⟩
end Go.Proofs.Ytjckghdgogkeaaa

namespace Go.Proofs.Ytjckghdgogkeaaa
open Go.RowKit Go.Maps
set_option linter.unusedVariables false

set_option maxHeartbeats 400000 in
theorem may_copied_nil (S W L : Int) (w : World) :
    Calls Try.prog 36 #[.agg #[.int .i64 S, .int .i64 W, .int .i64 L, .bool false, .map none]] w fun e w' => ∃ b, (e = .returned (.agg #[.int .i64 S, .int .i64 W, .int .i64 L, .bool false, .map (some b)]) ∧ w.heap.size ≤ b) ∧ IMap w' b 0 noF ∧ Ext w w' := by
  have hq := fun w => run_eql_map_nil (P := Try.prog) w 29 _ _ none Try.underlying29
  have hmm := @run_makeMap Try.prog
  go_enter Try.func36, Try.ntmps36
  go_wp2_with (go_at_call 47; refine (clone_nil _).mono ?_; rintro e w' ⟨rfl, rfl⟩)
  refine bodyPost_ret (v := .agg #[.int .i64 S, .int .i64 W, .int .i64 L, .bool false, .map (some (w.heap.size + 1 + 1))]) ?_ rfl ⟨_, ⟨rfl, by omega⟩, IMap.made' (by simp), (by repeat (first | ((with_reducible refine Ext.set1 ?_ ?_); (first | (focus (simp; done)) | (focus (simp; omega)) | (focus omega))) | (with_reducible refine Ext.alloc ?_ _) | (with_reducible exact Ext.refl _) | (refine Ext.trans ?_ (by with_reducible assumption))))⟩
  simp [results, Try.results36, go_sem]

set_option maxHeartbeats 400000 in
theorem may_copied_some (S W L : Int) (b n : Nat) (f : FM) (w : World) (h : IMap w b n f) :
    Calls Try.prog 36 #[.agg #[.int .i64 S, .int .i64 W, .int .i64 L, .bool false, .map (some b)]] w fun e w' => ∃ b, (e = .returned (.agg #[.int .i64 S, .int .i64 W, .int .i64 L, .bool false, .map (some b)]) ∧ w.heap.size ≤ b) ∧ IMap w' b n f ∧ Ext w w' := by
  have hq := fun w r => run_eql_map_nil (P := Try.prog) w 29 _ _ (some r) Try.underlying29
  go_enter Try.func36, Try.ntmps36
  go_wp2_with (go_at_call 47; refine Calls.mono (clone_im (h.ext (by repeat (first | ((with_reducible refine Ext.set1 ?_ ?_); (first | (focus (simp; done)) | (focus (simp; omega)) | (focus omega))) | (with_reducible refine Ext.alloc ?_ _) | (with_reducible exact Ext.refl _) | (refine Ext.trans ?_ (by with_reducible assumption)))))) ?_; rintro e w1 ⟨rfl, him1, hb1⟩; obtain ⟨hc1, hf1⟩ := hb1.cells; have hz1 := hb1.size; simp at hz1; have c4 := hc1 w.heap.size 4 (by simp <;> omega); simp at c4)
  simp at him1
  refine bodyPost_ret (v := .agg #[.int .i64 S, .int .i64 W, .int .i64 L, .bool false, .map (some (w.heap.size + 1 + 1))]) ?_ rfl ⟨_, ⟨rfl, by omega⟩, ?_, ?_⟩
  · simp [results, Try.results36, go_sem, hc1]
  · exact (by (repeat (first | ((with_reducible refine IMap.set1 ?_ ?_); (focus omega)) | (with_reducible refine IMap.alloc ?_ _))); with_reducible assumption)
  · exact (by repeat (first | ((with_reducible refine Ext.set1 ?_ ?_); (first | (focus (simp; done)) | (focus (simp; omega)) | (focus omega))) | (with_reducible refine Ext.alloc ?_ _) | (with_reducible exact Ext.refl _) | (refine Ext.trans ?_ (by with_reducible assumption))))

/-- (may.State).copied: a state with a map of its own. -/
theorem may_copied (S W L : Int) (p : Option Nat) (n : Nat) (f : FM) (w : World) (h : IMapO w p n f) :
    Calls Try.prog 36 #[.agg #[.int .i64 S, .int .i64 W, .int .i64 L, .bool false, .map p]] w fun e w' => ∃ b, (e = .returned (.agg #[.int .i64 S, .int .i64 W, .int .i64 L, .bool false, .map (some b)]) ∧ w.heap.size ≤ b) ∧ IMap w' b n f ∧ Ext w w' := by
  rcases h with ⟨rfl, h⟩ | ⟨b, rfl, h⟩
  · refine (may_copied_nil S W L w).mono fun e w' ⟨b, h1, h2, h3⟩ => ⟨b, h1, ?_, h3⟩
    exact (h2.mono (Nat.zero_le n)).congr fun x => (h x).symm
  · exact may_copied_some S W L b n f w h
end Go.Proofs.Ytjckghdgogkeaaa

namespace Go.Proofs.Ytjckghdgogkeaaa
open Go.RowKit Go.Maps
set_option linter.unusedVariables false

set_option maxHeartbeats 1000000 in
theorem may_access_some {S W L : Int} (g : Geo S W L) (x : Int) (hx : 0 ≤ x) (hx2 : x ≤ 1000000) (b n : Nat) (f : FM) (w : World) (h : IMap w b n f) (hn : n ≤ 1000000) (hfit : Fit W f) (hh : Int) (hfx : f x = some hh) :
    Calls Try.prog 32 #[.agg #[.int .i64 S, .int .i64 W, .int .i64 L, .bool false, .map (some b)], .int .i64 x] w fun e w' => ∃ b', (e = .returned (.agg #[.int .i64 S, .int .i64 W, .int .i64 L, .bool false, .map (some b')]) ∧ w.heap.size ≤ b') ∧ IMap w' b' (n + 1) (mayAcc S W f x) ∧ Ext w w' := by
  have hw1 := g.w1
  have hw8 := g.w8
  have wx : I64 x := I64.of (by omega) (by omega)
  have HF := Lib.hid hfx; clear hfx
  have HFIT := Lib.hid hfit; clear hfit
  have hb0 := h.lt
  go_enter Try.func32, Try.ntmps32
  go_wp2_with (first
    | (go_at_call 30; refine (valid_yes g _).mono ?_; rintro e w1 ⟨rfl, hb1⟩; have hz1 := hb1.size; simp at hz1; have q1 : w.heap.size < w1.heap.size := (by omega); have r1 : w.heap.size + 1 < w1.heap.size := (by omega)
       obtain ⟨a10, a11, a12, a13, a14⟩ := Blk.c5 (w := w1) (B := w.heap.size) (by repeat (first | (with_reducible assumption) | ((with_reducible refine Blk.new ?_); (first | (focus rfl) | (focus (simp; done)) | (focus omega))) | ((with_reducible refine Blk.set1 ?_ ?_); (focus omega)) | (with_reducible refine Blk.alloc ?_) | (refine Blk.ext ?_ (by with_reducible assumption)))))
    | (go_at_call 36; refine Calls.mono (may_copied S W L (some b) n f _ (.inr ⟨b, rfl, h.ext (by repeat (first | ((with_reducible refine Ext.set1 ?_ ?_); (first | (focus (simp; done)) | (focus (simp; omega)) | (focus omega))) | (with_reducible refine Ext.alloc ?_ _) | (with_reducible exact Ext.refl _) | (refine Ext.trans ?_ (by with_reducible assumption))))⟩)) ?_; rintro e w2 ⟨bo, ⟨rfl, hbo⟩, him2, hb2⟩; have hz2 := hb2.size; have q2 : w.heap.size < w2.heap.size := (by omega); have r2 : w.heap.size + 1 < w2.heap.size := (by omega)
       obtain ⟨a20, a21, a22, a23, a24⟩ := Blk.c5 (w := w2) (B := w.heap.size) (by repeat (first | (with_reducible assumption) | ((with_reducible refine Blk.new ?_); (first | (focus rfl) | (focus (simp; done)) | (focus omega))) | ((with_reducible refine Blk.set1 ?_ ?_); (focus omega)) | (with_reducible refine Blk.alloc ?_) | (refine Blk.ext ?_ (by with_reducible assumption)))))
    | (at_lookup; refine wpList_look_some _ rfl _ _ rfl (some b) n f rfl (.inr ⟨b, rfl, h.ext (by repeat (first | ((with_reducible refine Ext.set1 ?_ ?_); (first | (focus (simp; done)) | (focus (simp; omega)) | (focus omega))) | (with_reducible refine Ext.alloc ?_ _) | (with_reducible exact Ext.refl _) | (refine Ext.trans ?_ (by with_reducible assumption))))⟩) x rfl wx hh HF.out ?_)
    | (go_at_call 46; refine (set_yes g x hx _).mono ?_; rintro e w3 ⟨rfl, hb3⟩; have hz3 := hb3.size; simp at hz3; have q3 : w.heap.size < w3.heap.size := (by omega); have r3 : w.heap.size + 1 < w3.heap.size := (by omega); have s3 : w2.heap.size < w3.heap.size := (by omega)
       obtain ⟨a30, a31, a32, a33, a34⟩ := Blk.c5 (w := w3) (B := w.heap.size) (by repeat (first | (with_reducible assumption) | ((with_reducible refine Blk.new ?_); (first | (focus rfl) | (focus (simp; done)) | (focus omega))) | ((with_reducible refine Blk.set1 ?_ ?_); (focus omega)) | (with_reducible refine Blk.alloc ?_) | (refine Blk.ext ?_ (by with_reducible assumption)))))
    | (at_range; refine wpList_range_im _ rfl _ rfl w3.heap.size rfl b n f rfl (h.ext (by repeat (first | ((with_reducible refine Ext.set1 ?_ ?_); (first | (focus (simp; done)) | (focus (simp; omega)) | (focus omega))) | (with_reducible refine Ext.alloc ?_ _) | (with_reducible exact Ext.refl _) | (refine Ext.trans ?_ (by with_reducible assumption))))) ?_; intro w4 cnt4 hrm4 hb4 hs4 hcn4))
  have hbo2 := him2.lt
  have hw4 := hb4.size
  have k1 : Blk w4 w.heap.size (.cells #[.int .i64 S, .int .i64 W, .int .i64 L, .bool false, .map (some b)] 31) := (by repeat (first | (with_reducible assumption) | ((with_reducible refine Blk.new ?_); (first | (focus rfl) | (focus (simp; done)) | (focus omega))) | ((with_reducible refine Blk.set1 ?_ ?_); (focus omega)) | (with_reducible refine Blk.alloc ?_) | (refine Blk.ext ?_ (by with_reducible assumption))))
  have k2 : Blk w4 (w.heap.size + 1) (.cells #[.int .i64 0, .int .i64 0, .int .i64 0, .bool false, .map none] 31) := (by repeat (first | (with_reducible assumption) | ((with_reducible refine Blk.new ?_); (first | (focus rfl) | (focus (simp; done)) | (focus omega))) | ((with_reducible refine Blk.set1 ?_ ?_); (focus omega)) | (with_reducible refine Blk.alloc ?_) | (refine Blk.ext ?_ (by with_reducible assumption))))
  have k3 : Blk w4 w2.heap.size (.cells #[.int .i64 S, .int .i64 W, .int .i64 L, .bool false, .map (some bo)] 31) := (by repeat (first | (with_reducible assumption) | ((with_reducible refine Blk.new ?_); (first | (focus rfl) | (focus (simp; done)) | (focus omega))) | ((with_reducible refine Blk.set1 ?_ ?_); (focus omega)) | (with_reducible refine Blk.alloc ?_) | (refine Blk.ext ?_ (by with_reducible assumption))))
  have him4 : IMap w4 bo n f := (him2.alloc _).ext (hb3.trans hb4)
  have hext4 : Ext w w4 := (by repeat (first | ((with_reducible refine Ext.set1 ?_ ?_); (first | (focus (simp; done)) | (focus (simp; omega)) | (focus omega))) | (with_reducible refine Ext.alloc ?_ _) | (with_reducible exact Ext.refl _) | (refine Ext.trans ?_ (by with_reducible assumption))))
  clear a10 a11 a12 a13 a14 a20 a21 a22 a23 a24 a30 a31 a32 a33 a34
  go_frame
  go_loopw [9] (fun _ wr => ∃ (lf : Int → Bool) (cnt : Nat) (fo : FM), (RMap wr b w3.heap.size n f lf cnt ∧ IMap wr bo n fo ∧ Blk wr w.heap.size (.cells #[.int .i64 S, .int .i64 W, .int .i64 L, .bool false, .map (some b)] 31) ∧
      Blk wr (w.heap.size + 1) (.cells #[.int .i64 0, .int .i64 0, .int .i64 0, .bool false, .map none] 31) ∧ Blk wr w2.heap.size (.cells #[.int .i64 S, .int .i64 W, .int .i64 L, .bool false, .map (some bo)] 31) ∧ Ext w wr) ∧ Hid (Mid f (aged S W hh x f) lf fo))
    (fun _ wr => wr.rangeLeft b w3.heap.size)
  case atStart => exact ⟨_, _, f, ⟨hrm4, him4, k1, k2, k3, hext4⟩, Mid.start fun y e => aged_none e⟩
  case round =>
    clear k1 k2 k3 him4 hext4 hrm4 hb4 hs4 hw4
    obtain ⟨lf, cnt, fo, ⟨hrm, him, k1, k2, k3, hext⟩, HM⟩ := hrel
    have hl1 := k1.lt
    have hl2 := k2.lt
    have hl3 := k3.lt
    go_wp2_with (at_next; refine wpList_next_im _ rfl _ rfl b w3.heap.size n f lf cnt rfl hrm ?_ ?_)
    · intro hdone
      have hwb := him.lt
      obtain ⟨c0, c1, c2, c3, c4⟩ := k3.c5
      go_wp2_with (at_mapUpdate; refine wpList_store_im _ rfl _ _ _ rfl bo n fo rfl him (by unfold maxLen; omega) x 0 rfl rfl wx (I64.of (by omega) (by omega)) ?_; intro w6 him6 hg6; have hz6 := hg6.size; obtain ⟨d0, d1, d2, d3, d4⟩ := (k3.grown hg6 (by simp; omega)).c5; have k26 := k2.grown hg6 (by simp; omega); obtain ⟨e0, e1, e2, e3, e4⟩ := k26.c5; obtain ⟨f0, f1, f2, f3, f4⟩ := k26.f5)
      have hext6 : Ext w w6 := hext.grown hg6 (fun k e => by cases e; omega)
      refine bodyPost_ret (v := .agg #[.int .i64 S, .int .i64 W, .int .i64 L, .bool false, .map (some bo)]) ?_ rfl ⟨bo, ⟨rfl, by omega⟩, ?_, ?_⟩
      · simp [results, Try.results32, go_sem, e0, e1, e2, e3, e4]
      · have himf : IMap w6 bo (n + 1) (mayAcc S W f x) := him6.congr (fun y => by unfold mayAcc; rw [HF.out]; unfold put; rw [HM.out.done hdone y]; rfl)
        clear him6
        exact (by (repeat (first | ((with_reducible refine IMap.set1 ?_ ?_); (focus omega)) | (with_reducible refine IMap.alloc ?_ _))); with_reducible assumption)
      · exact (by repeat (first | ((with_reducible refine Ext.set1 ?_ ?_); (first | (focus (simp; done)) | (focus (simp; omega)) | (focus omega))) | (with_reducible refine Ext.alloc ?_ _) | (with_reducible exact Ext.refl _) | (refine Ext.trans ?_ (by with_reducible assumption))))
    · intro y c w5 cnt5 hy hc hly hfy hrm5 hlt5 hg5 hs5 hen
      have FY := Lib.hid hfy
      have LY := Lib.hid hly
      clear hly hfy
      obtain ⟨hy0, hc0, hcW⟩ := HFIT.out y c FY.out
      have him5 := him.grown hg5 (by simp; omega)
      have k15 := k1.grown hg5 (by simp; omega)
      have k25 := k2.grown hg5 (by simp; omega)
      have k35 := k3.grown hg5 (by simp; omega)
      have hext5 : Ext w w5 := hext.grown hg5 (fun k e => by cases e; omega)
      have HLE := Lib.hid hrm.left_eq
      clear him k1 k2 k3 hext hrm
      have hwb := him5.lt
      obtain ⟨c0, c1, c2, c3, c4⟩ := k15.c5
      obtain ⟨d0, d1, d2, d3, d4⟩ := k35.c5
      by_cases hyx : y = x
      · -- the line itself
        have HG : Hid (aged S W hh x f y = f y) := (aged_keep FY.out (.inl hyx)).trans FY.out.symm
        have hyx2 : (y == x) = true := by simpa using hyx
        clear hyx
        go_wp2
        go_roundw
        case rel => exact ⟨_, cnt5, fo, ⟨hrm5, him5, k15, k25, k35, hext5⟩, HM.out.keep HG.out⟩
        case measure => rw [hrm5.left_eq, HLE.out]; exact hlt5
      · have hyx2 : (y == x) = false := by simpa using hyx
        by_cases hs : y % S = x % S
        · have hs2 : (y % S != x % S) = false := by simpa using hs
          have HS := Lib.hid hs
          clear hs
          by_cases hch : c ≤ hh
          · have hch2 : ¬ hh < c := by omega
            by_cases hcw : c + 1 < W
            · have HG : Hid (aged S W hh x f y = some (c + 1)) := aged_up FY.out hyx HS.out hch hcw
              have hold : Hid ((fo y).isSome = true) := by show (fo y).isSome = true; rw [HM.out y, LY.out]; simp [FY.out]
              clear hyx
              go_wp2_with (first
                | (go_at_call 46; refine (set_yes g y hy0 _).mono ?_; rintro e w6 ⟨rfl, hb6⟩; have hz6 := hb6.size; have him6 := him5.ext hb6; have hrm6 := hrm5.same (hb6.block hrm5.owns.lt) (hb6.block hrm5.lt); have k16 := k15.ext hb6; have k26 := k25.ext hb6; have k36 := k35.ext hb6; have hext6 := hext5.trans hb6; obtain ⟨u0, u1, u2, u3, u4⟩ := k16.c5; obtain ⟨v0, v1, v2, v3, v4⟩ := k36.c5)
                | (at_mapUpdate; refine wpList_store_old _ rfl _ _ _ rfl bo n fo rfl him6 (by unfold maxLen; omega) y (c + 1) rfl rfl hy (I64.of (by omega) (by omega)) hold.out ?_; intro w7 him7 hg7; have hz7 := hg7.size; have hrm7 := hrm6.grown hg7 (by simp; omega) (by simp; omega); have k17 := k16.grown hg7 (by simp; omega); have k27 := k26.grown hg7 (by simp; omega); have k37 := k36.grown hg7 (by simp; omega); have hext7 : Ext w w7 := hext6.grown hg7 (fun k e => by cases e; omega); obtain ⟨x0, x1, x2, x3, x4⟩ := k17.c5))
              go_roundw
              case rel => exact ⟨_, cnt5, _, ⟨hrm7, him7, k17, k27, k37, hext7⟩, HM.out.put HG.out⟩
              case measure => rw [hrm7.left_eq, HLE.out]; exact hlt5
            · have HG : Hid (aged S W hh x f y = none) := aged_out FY.out hyx HS.out hch (by omega)
              have hold : Hid ((fo y).isSome = true) := by show (fo y).isSome = true; rw [HM.out y, LY.out]; simp [FY.out]
              clear hyx
              go_wp2_with (first
                | (go_at_call 46; refine (set_yes g y hy0 _).mono ?_; rintro e w6 ⟨rfl, hb6⟩; have hz6 := hb6.size; have him6 := him5.ext hb6; have hrm6 := hrm5.same (hb6.block hrm5.owns.lt) (hb6.block hrm5.lt); have k16 := k15.ext hb6; have k26 := k25.ext hb6; have k36 := k35.ext hb6; have hext6 := hext5.trans hb6; obtain ⟨u0, u1, u2, u3, u4⟩ := k16.c5; obtain ⟨v0, v1, v2, v3, v4⟩ := k36.c5)
                | (at_mapUpdate; refine wpList_store_old _ rfl _ _ _ rfl bo n fo rfl him6 (by unfold maxLen; omega) y (c + 1) rfl rfl hy (I64.of (by omega) (by omega)) hold.out ?_; intro w7 him7 hg7; have hz7 := hg7.size; have hrm7 := hrm6.grown hg7 (by simp; omega) (by simp; omega); have k17 := k16.grown hg7 (by simp; omega); have k27 := k26.grown hg7 (by simp; omega); have k37 := k36.grown hg7 (by simp; omega); have hext7 : Ext w w7 := hext6.grown hg7 (fun k e => by cases e; omega); obtain ⟨x0, x1, x2, x3, x4⟩ := k17.c5; obtain ⟨y0, y1, y2, y3, y4⟩ := k37.c5)
                | (at_delete; refine wpList_delete_im _ rfl _ _ rfl bo n _ rfl him7 y rfl hy ?_; intro w8 him8 hg8; have hz8 := hg8.size; have hrm8 := hrm7.grown hg8 (by simp; omega) (by simp; omega); have k18 := k17.grown hg8 (by simp; omega); have k28 := k27.grown hg8 (by simp; omega); have k38 := k37.grown hg8 (by simp; omega); have hext8 : Ext w w8 := hext7.grown hg8 (fun k e => by cases e; omega); go_frame))
              go_roundw
              case rel => exact ⟨_, cnt5, _, ⟨hrm8, him8, k18, k28, k38, hext8⟩, HM.out.cut HG.out⟩
              case measure => rw [hrm8.left_eq, HLE.out]; exact hlt5
          · have hch2 : hh < c := by omega
            have HG : Hid (aged S W hh x f y = f y) := (aged_keep FY.out (.inr (.inr hch2))).trans FY.out.symm
            clear hyx
            go_wp2_with (go_at_call 46; refine (set_yes g y hy0 _).mono ?_; rintro e w6 ⟨rfl, hb6⟩; have hz6 := hb6.size; have him6 := him5.ext hb6; have hrm6 := hrm5.same (hb6.block hrm5.owns.lt) (hb6.block hrm5.lt); have k16 := k15.ext hb6; have k26 := k25.ext hb6; have k36 := k35.ext hb6; have hext6 := hext5.trans hb6; obtain ⟨u0, u1, u2, u3, u4⟩ := k16.c5; obtain ⟨v0, v1, v2, v3, v4⟩ := k36.c5)
            go_roundw
            case rel => exact ⟨_, cnt5, fo, ⟨hrm6, him6, k16, k26, k36, hext6⟩, HM.out.keep HG.out⟩
            case measure => rw [hrm6.left_eq, HLE.out]; exact hlt5
        · have hs2 : (y % S != x % S) = true := by simpa using hs
          have HG : Hid (aged S W hh x f y = f y) := (aged_keep FY.out (.inr (.inl hs))).trans FY.out.symm
          clear hyx hs
          go_wp2_with (go_at_call 46; refine (set_yes g y hy0 _).mono ?_; rintro e w6 ⟨rfl, hb6⟩; have hz6 := hb6.size; have him6 := him5.ext hb6; have hrm6 := hrm5.same (hb6.block hrm5.owns.lt) (hb6.block hrm5.lt); have k16 := k15.ext hb6; have k26 := k25.ext hb6; have k36 := k35.ext hb6; have hext6 := hext5.trans hb6; obtain ⟨u0, u1, u2, u3, u4⟩ := k16.c5; obtain ⟨v0, v1, v2, v3, v4⟩ := k36.c5)
          go_roundw
          case rel => exact ⟨_, cnt5, fo, ⟨hrm6, him6, k16, k26, k36, hext6⟩, HM.out.keep HG.out⟩
          case measure => rw [hrm6.left_eq, HLE.out]; exact hlt5
set_option maxHeartbeats 1000000 in
theorem may_access_none {S W L : Int} (g : Geo S W L) (x : Int) (hx : 0 ≤ x) (hx2 : x ≤ 1000000) (b n : Nat) (f : FM) (w : World) (h : IMap w b n f) (hn : n ≤ 1000000) (hfit : Fit W f) (hfx : f x = none) :
    Calls Try.prog 32 #[.agg #[.int .i64 S, .int .i64 W, .int .i64 L, .bool false, .map (some b)], .int .i64 x] w fun e w' => ∃ b', (e = .returned (.agg #[.int .i64 S, .int .i64 W, .int .i64 L, .bool false, .map (some b')]) ∧ w.heap.size ≤ b') ∧ IMap w' b' (n + 1) (mayAcc S W f x) ∧ Ext w w' := by
  have hw1 := g.w1
  have hw8 := g.w8
  have wx : I64 x := I64.of (by omega) (by omega)
  have HF := Lib.hid hfx; clear hfx
  have HFIT := Lib.hid hfit; clear hfit
  have hb0 := h.lt
  go_enter Try.func32, Try.ntmps32
  go_wp2_with (first
    | (go_at_call 30; refine (valid_yes g _).mono ?_; rintro e w1 ⟨rfl, hb1⟩; have hz1 := hb1.size; simp at hz1; have q1 : w.heap.size < w1.heap.size := (by omega); have r1 : w.heap.size + 1 < w1.heap.size := (by omega)
       obtain ⟨a10, a11, a12, a13, a14⟩ := Blk.c5 (w := w1) (B := w.heap.size) (by repeat (first | (with_reducible assumption) | ((with_reducible refine Blk.new ?_); (first | (focus rfl) | (focus (simp; done)) | (focus omega))) | ((with_reducible refine Blk.set1 ?_ ?_); (focus omega)) | (with_reducible refine Blk.alloc ?_) | (refine Blk.ext ?_ (by with_reducible assumption)))))
    | (go_at_call 36; refine Calls.mono (may_copied S W L (some b) n f _ (.inr ⟨b, rfl, h.ext (by repeat (first | ((with_reducible refine Ext.set1 ?_ ?_); (first | (focus (simp; done)) | (focus (simp; omega)) | (focus omega))) | (with_reducible refine Ext.alloc ?_ _) | (with_reducible exact Ext.refl _) | (refine Ext.trans ?_ (by with_reducible assumption))))⟩)) ?_; rintro e w2 ⟨bo, ⟨rfl, hbo⟩, him2, hb2⟩; have hz2 := hb2.size; have q2 : w.heap.size < w2.heap.size := (by omega); have r2 : w.heap.size + 1 < w2.heap.size := (by omega)
       obtain ⟨a20, a21, a22, a23, a24⟩ := Blk.c5 (w := w2) (B := w.heap.size) (by repeat (first | (with_reducible assumption) | ((with_reducible refine Blk.new ?_); (first | (focus rfl) | (focus (simp; done)) | (focus omega))) | ((with_reducible refine Blk.set1 ?_ ?_); (focus omega)) | (with_reducible refine Blk.alloc ?_) | (refine Blk.ext ?_ (by with_reducible assumption)))))
    | (at_lookup; refine wpList_look_none _ rfl _ _ rfl (some b) n f rfl (.inr ⟨b, rfl, h.ext (by repeat (first | ((with_reducible refine Ext.set1 ?_ ?_); (first | (focus (simp; done)) | (focus (simp; omega)) | (focus omega))) | (with_reducible refine Ext.alloc ?_ _) | (with_reducible exact Ext.refl _) | (refine Ext.trans ?_ (by with_reducible assumption))))⟩) x rfl wx HF.out ?_)
    | (go_at_call 46; refine (set_yes g x hx _).mono ?_; rintro e w3 ⟨rfl, hb3⟩; have hz3 := hb3.size; simp at hz3; have q3 : w.heap.size < w3.heap.size := (by omega); have r3 : w.heap.size + 1 < w3.heap.size := (by omega); have s3 : w2.heap.size < w3.heap.size := (by omega)
       obtain ⟨a30, a31, a32, a33, a34⟩ := Blk.c5 (w := w3) (B := w.heap.size) (by repeat (first | (with_reducible assumption) | ((with_reducible refine Blk.new ?_); (first | (focus rfl) | (focus (simp; done)) | (focus omega))) | ((with_reducible refine Blk.set1 ?_ ?_); (focus omega)) | (with_reducible refine Blk.alloc ?_) | (refine Blk.ext ?_ (by with_reducible assumption)))))
    | (at_range; refine wpList_range_im _ rfl _ rfl w3.heap.size rfl b n f rfl (h.ext (by repeat (first | ((with_reducible refine Ext.set1 ?_ ?_); (first | (focus (simp; done)) | (focus (simp; omega)) | (focus omega))) | (with_reducible refine Ext.alloc ?_ _) | (with_reducible exact Ext.refl _) | (refine Ext.trans ?_ (by with_reducible assumption))))) ?_; intro w4 cnt4 hrm4 hb4 hs4 hcn4))
  have hbo2 := him2.lt
  have hw4 := hb4.size
  have k1 : Blk w4 w.heap.size (.cells #[.int .i64 S, .int .i64 W, .int .i64 L, .bool false, .map (some b)] 31) := (by repeat (first | (with_reducible assumption) | ((with_reducible refine Blk.new ?_); (first | (focus rfl) | (focus (simp; done)) | (focus omega))) | ((with_reducible refine Blk.set1 ?_ ?_); (focus omega)) | (with_reducible refine Blk.alloc ?_) | (refine Blk.ext ?_ (by with_reducible assumption))))
  have k2 : Blk w4 (w.heap.size + 1) (.cells #[.int .i64 0, .int .i64 0, .int .i64 0, .bool false, .map none] 31) := (by repeat (first | (with_reducible assumption) | ((with_reducible refine Blk.new ?_); (first | (focus rfl) | (focus (simp; done)) | (focus omega))) | ((with_reducible refine Blk.set1 ?_ ?_); (focus omega)) | (with_reducible refine Blk.alloc ?_) | (refine Blk.ext ?_ (by with_reducible assumption))))
  have k3 : Blk w4 w2.heap.size (.cells #[.int .i64 S, .int .i64 W, .int .i64 L, .bool false, .map (some bo)] 31) := (by repeat (first | (with_reducible assumption) | ((with_reducible refine Blk.new ?_); (first | (focus rfl) | (focus (simp; done)) | (focus omega))) | ((with_reducible refine Blk.set1 ?_ ?_); (focus omega)) | (with_reducible refine Blk.alloc ?_) | (refine Blk.ext ?_ (by with_reducible assumption))))
  have him4 : IMap w4 bo n f := (him2.alloc _).ext (hb3.trans hb4)
  have hext4 : Ext w w4 := (by repeat (first | ((with_reducible refine Ext.set1 ?_ ?_); (first | (focus (simp; done)) | (focus (simp; omega)) | (focus omega))) | (with_reducible refine Ext.alloc ?_ _) | (with_reducible exact Ext.refl _) | (refine Ext.trans ?_ (by with_reducible assumption))))
  clear a10 a11 a12 a13 a14 a20 a21 a22 a23 a24 a30 a31 a32 a33 a34
  go_frame
  go_loopw [9] (fun _ wr => ∃ (lf : Int → Bool) (cnt : Nat) (fo : FM), (RMap wr b w3.heap.size n f lf cnt ∧ IMap wr bo n fo ∧ Blk wr w.heap.size (.cells #[.int .i64 S, .int .i64 W, .int .i64 L, .bool false, .map (some b)] 31) ∧
      Blk wr (w.heap.size + 1) (.cells #[.int .i64 0, .int .i64 0, .int .i64 0, .bool false, .map none] 31) ∧ Blk wr w2.heap.size (.cells #[.int .i64 S, .int .i64 W, .int .i64 L, .bool false, .map (some bo)] 31) ∧ Ext w wr) ∧ Hid (Mid f (aged S W W x f) lf fo))
    (fun _ wr => wr.rangeLeft b w3.heap.size)
  case atStart => exact ⟨_, _, f, ⟨hrm4, him4, k1, k2, k3, hext4⟩, Mid.start fun y e => aged_none e⟩
  case round =>
    clear k1 k2 k3 him4 hext4 hrm4 hb4 hs4 hw4
    obtain ⟨lf, cnt, fo, ⟨hrm, him, k1, k2, k3, hext⟩, HM⟩ := hrel
    have hl1 := k1.lt
    have hl2 := k2.lt
    have hl3 := k3.lt
    go_wp2_with (at_next; refine wpList_next_im _ rfl _ rfl b w3.heap.size n f lf cnt rfl hrm ?_ ?_)
    · intro hdone
      have hwb := him.lt
      obtain ⟨c0, c1, c2, c3, c4⟩ := k3.c5
      go_wp2_with (at_mapUpdate; refine wpList_store_im _ rfl _ _ _ rfl bo n fo rfl him (by unfold maxLen; omega) x 0 rfl rfl wx (I64.of (by omega) (by omega)) ?_; intro w6 him6 hg6; have hz6 := hg6.size; obtain ⟨d0, d1, d2, d3, d4⟩ := (k3.grown hg6 (by simp; omega)).c5; have k26 := k2.grown hg6 (by simp; omega); obtain ⟨e0, e1, e2, e3, e4⟩ := k26.c5; obtain ⟨f0, f1, f2, f3, f4⟩ := k26.f5)
      have hext6 : Ext w w6 := hext.grown hg6 (fun k e => by cases e; omega)
      refine bodyPost_ret (v := .agg #[.int .i64 S, .int .i64 W, .int .i64 L, .bool false, .map (some bo)]) ?_ rfl ⟨bo, ⟨rfl, by omega⟩, ?_, ?_⟩
      · simp [results, Try.results32, go_sem, e0, e1, e2, e3, e4]
      · have himf : IMap w6 bo (n + 1) (mayAcc S W f x) := him6.congr (fun y => by unfold mayAcc; rw [HF.out]; unfold put; rw [HM.out.done hdone y]; rfl)
        clear him6
        exact (by (repeat (first | ((with_reducible refine IMap.set1 ?_ ?_); (focus omega)) | (with_reducible refine IMap.alloc ?_ _))); with_reducible assumption)
      · exact (by repeat (first | ((with_reducible refine Ext.set1 ?_ ?_); (first | (focus (simp; done)) | (focus (simp; omega)) | (focus omega))) | (with_reducible refine Ext.alloc ?_ _) | (with_reducible exact Ext.refl _) | (refine Ext.trans ?_ (by with_reducible assumption))))
    · intro y c w5 cnt5 hy hc hly hfy hrm5 hlt5 hg5 hs5 hen
      have FY := Lib.hid hfy
      have LY := Lib.hid hly
      clear hly hfy
      obtain ⟨hy0, hc0, hcW⟩ := HFIT.out y c FY.out
      have him5 := him.grown hg5 (by simp; omega)
      have k15 := k1.grown hg5 (by simp; omega)
      have k25 := k2.grown hg5 (by simp; omega)
      have k35 := k3.grown hg5 (by simp; omega)
      have hext5 : Ext w w5 := hext.grown hg5 (fun k e => by cases e; omega)
      have HLE := Lib.hid hrm.left_eq
      clear him k1 k2 k3 hext hrm
      have hwb := him5.lt
      obtain ⟨c0, c1, c2, c3, c4⟩ := k15.c5
      obtain ⟨d0, d1, d2, d3, d4⟩ := k35.c5
      by_cases hyx : y = x
      · -- the line itself
        have HG : Hid (aged S W W x f y = f y) := (aged_keep FY.out (.inl hyx)).trans FY.out.symm
        have hyx2 : (y == x) = true := by simpa using hyx
        clear hyx
        go_wp2
        go_roundw
        case rel => exact ⟨_, cnt5, fo, ⟨hrm5, him5, k15, k25, k35, hext5⟩, HM.out.keep HG.out⟩
        case measure => rw [hrm5.left_eq, HLE.out]; exact hlt5
      · have hyx2 : (y == x) = false := by simpa using hyx
        by_cases hs : y % S = x % S
        · have hs2 : (y % S != x % S) = false := by simpa using hs
          have HS := Lib.hid hs
          clear hs
          by_cases hch : c ≤ W
          · have hch2 : ¬ W < c := by omega
            by_cases hcw : c + 1 < W
            · have HG : Hid (aged S W W x f y = some (c + 1)) := aged_up FY.out hyx HS.out hch hcw
              have hold : Hid ((fo y).isSome = true) := by show (fo y).isSome = true; rw [HM.out y, LY.out]; simp [FY.out]
              clear hyx
              go_wp2_with (first
                | (go_at_call 46; refine (set_yes g y hy0 _).mono ?_; rintro e w6 ⟨rfl, hb6⟩; have hz6 := hb6.size; have him6 := him5.ext hb6; have hrm6 := hrm5.same (hb6.block hrm5.owns.lt) (hb6.block hrm5.lt); have k16 := k15.ext hb6; have k26 := k25.ext hb6; have k36 := k35.ext hb6; have hext6 := hext5.trans hb6; obtain ⟨u0, u1, u2, u3, u4⟩ := k16.c5; obtain ⟨v0, v1, v2, v3, v4⟩ := k36.c5)
                | (at_mapUpdate; refine wpList_store_old _ rfl _ _ _ rfl bo n fo rfl him6 (by unfold maxLen; omega) y (c + 1) rfl rfl hy (I64.of (by omega) (by omega)) hold.out ?_; intro w7 him7 hg7; have hz7 := hg7.size; have hrm7 := hrm6.grown hg7 (by simp; omega) (by simp; omega); have k17 := k16.grown hg7 (by simp; omega); have k27 := k26.grown hg7 (by simp; omega); have k37 := k36.grown hg7 (by simp; omega); have hext7 : Ext w w7 := hext6.grown hg7 (fun k e => by cases e; omega); obtain ⟨x0, x1, x2, x3, x4⟩ := k17.c5))
              go_roundw
              case rel => exact ⟨_, cnt5, _, ⟨hrm7, him7, k17, k27, k37, hext7⟩, HM.out.put HG.out⟩
              case measure => rw [hrm7.left_eq, HLE.out]; exact hlt5
            · have HG : Hid (aged S W W x f y = none) := aged_out FY.out hyx HS.out hch (by omega)
              have hold : Hid ((fo y).isSome = true) := by show (fo y).isSome = true; rw [HM.out y, LY.out]; simp [FY.out]
              clear hyx
              go_wp2_with (first
                | (go_at_call 46; refine (set_yes g y hy0 _).mono ?_; rintro e w6 ⟨rfl, hb6⟩; have hz6 := hb6.size; have him6 := him5.ext hb6; have hrm6 := hrm5.same (hb6.block hrm5.owns.lt) (hb6.block hrm5.lt); have k16 := k15.ext hb6; have k26 := k25.ext hb6; have k36 := k35.ext hb6; have hext6 := hext5.trans hb6; obtain ⟨u0, u1, u2, u3, u4⟩ := k16.c5; obtain ⟨v0, v1, v2, v3, v4⟩ := k36.c5)
                | (at_mapUpdate; refine wpList_store_old _ rfl _ _ _ rfl bo n fo rfl him6 (by unfold maxLen; omega) y (c + 1) rfl rfl hy (I64.of (by omega) (by omega)) hold.out ?_; intro w7 him7 hg7; have hz7 := hg7.size; have hrm7 := hrm6.grown hg7 (by simp; omega) (by simp; omega); have k17 := k16.grown hg7 (by simp; omega); have k27 := k26.grown hg7 (by simp; omega); have k37 := k36.grown hg7 (by simp; omega); have hext7 : Ext w w7 := hext6.grown hg7 (fun k e => by cases e; omega); obtain ⟨x0, x1, x2, x3, x4⟩ := k17.c5; obtain ⟨y0, y1, y2, y3, y4⟩ := k37.c5)
                | (at_delete; refine wpList_delete_im _ rfl _ _ rfl bo n _ rfl him7 y rfl hy ?_; intro w8 him8 hg8; have hz8 := hg8.size; have hrm8 := hrm7.grown hg8 (by simp; omega) (by simp; omega); have k18 := k17.grown hg8 (by simp; omega); have k28 := k27.grown hg8 (by simp; omega); have k38 := k37.grown hg8 (by simp; omega); have hext8 : Ext w w8 := hext7.grown hg8 (fun k e => by cases e; omega); go_frame))
              go_roundw
              case rel => exact ⟨_, cnt5, _, ⟨hrm8, him8, k18, k28, k38, hext8⟩, HM.out.cut HG.out⟩
              case measure => rw [hrm8.left_eq, HLE.out]; exact hlt5
          · exact absurd hch (by omega)
        · have hs2 : (y % S != x % S) = true := by simpa using hs
          have HG : Hid (aged S W W x f y = f y) := (aged_keep FY.out (.inr (.inl hs))).trans FY.out.symm
          clear hyx hs
          go_wp2_with (go_at_call 46; refine (set_yes g y hy0 _).mono ?_; rintro e w6 ⟨rfl, hb6⟩; have hz6 := hb6.size; have him6 := him5.ext hb6; have hrm6 := hrm5.same (hb6.block hrm5.owns.lt) (hb6.block hrm5.lt); have k16 := k15.ext hb6; have k26 := k25.ext hb6; have k36 := k35.ext hb6; have hext6 := hext5.trans hb6; obtain ⟨u0, u1, u2, u3, u4⟩ := k16.c5; obtain ⟨v0, v1, v2, v3, v4⟩ := k36.c5)
          go_roundw
          case rel => exact ⟨_, cnt5, fo, ⟨hrm6, him6, k16, k26, k36, hext6⟩, HM.out.keep HG.out⟩
          case measure => rw [hrm6.left_eq, HLE.out]; exact hlt5
set_option maxHeartbeats 1000000 in
theorem may_access_nil {S W L : Int} (g : Geo S W L) (x : Int) (hx : 0 ≤ x) (hx2 : x ≤ 1000000) (n : Nat) (f : FM) (w : World) (hf : ∀ y, f y = none) (hn : n ≤ 1000000) :
    Calls Try.prog 32 #[.agg #[.int .i64 S, .int .i64 W, .int .i64 L, .bool false, .map none], .int .i64 x] w fun e w' => ∃ b', (e = .returned (.agg #[.int .i64 S, .int .i64 W, .int .i64 L, .bool false, .map (some b')]) ∧ w.heap.size ≤ b') ∧ IMap w' b' (n + 1) (mayAcc S W f x) ∧ Ext w w' := by
  have hw1 := g.w1
  have hw8 := g.w8
  have wx : I64 x := I64.of (by omega) (by omega)
  have HF := Lib.hid hf; clear hf
  have hrg := fun w => run_range_nilMap (P := Try.prog) w 29 _ _ Try.underlying29
  have hnx := fun w ty => run_next_nilMap (P := Try.prog) w ty 0 0 #[]
  go_enter Try.func32, Try.ntmps32
  go_wp2_with (first
    | (go_at_call 30; refine (valid_yes g _).mono ?_; rintro e w1 ⟨rfl, hb1⟩; have hz1 := hb1.size; simp at hz1; have q1 : w.heap.size < w1.heap.size := (by omega); have r1 : w.heap.size + 1 < w1.heap.size := (by omega)
       obtain ⟨a10, a11, a12, a13, a14⟩ := Blk.c5 (w := w1) (B := w.heap.size) (by repeat (first | (with_reducible assumption) | ((with_reducible refine Blk.new ?_); (first | (focus rfl) | (focus (simp; done)) | (focus omega))) | ((with_reducible refine Blk.set1 ?_ ?_); (focus omega)) | (with_reducible refine Blk.alloc ?_) | (refine Blk.ext ?_ (by with_reducible assumption)))))
    | (go_at_call 36; refine Calls.mono (may_copied S W L none n f _ (.inl ⟨rfl, HF.out⟩)) ?_; rintro e w2 ⟨bo, ⟨rfl, hbo⟩, him2, hb2⟩; have hz2 := hb2.size; have q2 : w.heap.size < w2.heap.size := (by omega); have r2 : w.heap.size + 1 < w2.heap.size := (by omega)
       obtain ⟨a20, a21, a22, a23, a24⟩ := Blk.c5 (w := w2) (B := w.heap.size) (by repeat (first | (with_reducible assumption) | ((with_reducible refine Blk.new ?_); (first | (focus rfl) | (focus (simp; done)) | (focus omega))) | ((with_reducible refine Blk.set1 ?_ ?_); (focus omega)) | (with_reducible refine Blk.alloc ?_) | (refine Blk.ext ?_ (by with_reducible assumption)))))
    | (at_lookup; refine wpList_look_none _ rfl _ _ rfl none n f rfl (.inl ⟨rfl, HF.out⟩) x rfl wx (HF.out x) ?_)
    | (go_at_call 46; refine (set_yes g x hx _).mono ?_; rintro e w3 ⟨rfl, hb3⟩; have hz3 := hb3.size; simp at hz3; have q3 : w.heap.size < w3.heap.size := (by omega); have r3 : w.heap.size + 1 < w3.heap.size := (by omega); have s3 : w2.heap.size < w3.heap.size := (by omega)
       obtain ⟨a30, a31, a32, a33, a34⟩ := Blk.c5 (w := w3) (B := w.heap.size) (by repeat (first | (with_reducible assumption) | ((with_reducible refine Blk.new ?_); (first | (focus rfl) | (focus (simp; done)) | (focus omega))) | ((with_reducible refine Blk.set1 ?_ ?_); (focus omega)) | (with_reducible refine Blk.alloc ?_) | (refine Blk.ext ?_ (by with_reducible assumption))))))
  have hbo2 := him2.lt
  have k2 : Blk w3 (w.heap.size + 1) (.cells #[.int .i64 0, .int .i64 0, .int .i64 0, .bool false, .map none] 31) := (by repeat (first | (with_reducible assumption) | ((with_reducible refine Blk.new ?_); (first | (focus rfl) | (focus (simp; done)) | (focus omega))) | ((with_reducible refine Blk.set1 ?_ ?_); (focus omega)) | (with_reducible refine Blk.alloc ?_) | (refine Blk.ext ?_ (by with_reducible assumption))))
  have k3 : Blk w3 w2.heap.size (.cells #[.int .i64 S, .int .i64 W, .int .i64 L, .bool false, .map (some bo)] 31) := (by repeat (first | (with_reducible assumption) | ((with_reducible refine Blk.new ?_); (first | (focus rfl) | (focus (simp; done)) | (focus omega))) | ((with_reducible refine Blk.set1 ?_ ?_); (focus omega)) | (with_reducible refine Blk.alloc ?_) | (refine Blk.ext ?_ (by with_reducible assumption))))
  have him3 : IMap w3 bo n f := (him2.alloc _).ext hb3
  have hext3 : Ext w w3 := (by repeat (first | ((with_reducible refine Ext.set1 ?_ ?_); (first | (focus (simp; done)) | (focus (simp; omega)) | (focus omega))) | (with_reducible refine Ext.alloc ?_ _) | (with_reducible exact Ext.refl _) | (refine Ext.trans ?_ (by with_reducible assumption))))
  clear a10 a11 a12 a13 a14 a20 a21 a22 a23 a24 a30 a31 a32 a33 a34 hb1 hb2 hb3
  obtain ⟨c0, c1, c2, c3, c4⟩ := k3.c5
  refine wp_loop_rounds 1 ?_
  rw [rounds_succ]
  go_wp2_with (at_mapUpdate; refine wpList_store_im _ rfl _ _ _ rfl bo n f rfl (him3.alloc _) (by unfold maxLen; omega) x 0 rfl rfl wx (I64.of (by omega) (by omega)) ?_; intro w6 him6 hg6; have hz6 := hg6.size; simp at hz6; obtain ⟨d0, d1, d2, d3, d4⟩ := ((k3.alloc (o' := .mapIter none 0 #[] 0)).grown hg6 (by simp; omega)).c5; have k26 := (k2.alloc (o' := .mapIter none 0 #[] 0)).grown hg6 (by simp; omega); obtain ⟨e0, e1, e2, e3, e4⟩ := k26.c5; obtain ⟨f0, f1, f2, f3, f4⟩ := k26.f5)
  have hext6 : Ext w w6 := (hext3.alloc _).grown hg6 (fun k e => by cases e; omega)
  refine bodyPost_ret (v := .agg #[.int .i64 S, .int .i64 W, .int .i64 L, .bool false, .map (some bo)]) ?_ rfl ⟨bo, ⟨rfl, by omega⟩, ?_, ?_⟩
  · simp [results, Try.results32, go_sem, e0, e1, e2, e3, e4]
  · have himf : IMap w6 bo (n + 1) (mayAcc S W f x) := him6.congr (fun y => by unfold mayAcc put; rw [aged_none (HF.out y), HF.out y])
    clear him6
    exact (by (repeat (first | ((with_reducible refine IMap.set1 ?_ ?_); (focus omega)) | (with_reducible refine IMap.alloc ?_ _))); with_reducible assumption)
  · exact (by repeat (first | ((with_reducible refine Ext.set1 ?_ ?_); (first | (focus (simp; done)) | (focus (simp; omega)) | (focus omega))) | (with_reducible refine Ext.alloc ?_ _) | (with_reducible exact Ext.refl _) | (refine Ext.trans ?_ (by with_reducible assumption))))

/-- (may.State).Access at a state that is known. -/
theorem may_access {S W L : Int} (g : Geo S W L) (x : Int) (hx : 0 ≤ x) (hx2 : x ≤ 1000000) (p : Option Nat) (n : Nat) (f : FM) (w : World) (h : IMapO w p n f) (hn : n ≤ 1000000) (hfit : Fit W f) :
    Calls Try.prog 32 #[.agg #[.int .i64 S, .int .i64 W, .int .i64 L, .bool false, .map p], .int .i64 x] w fun e w' => ∃ b', (e = .returned (.agg #[.int .i64 S, .int .i64 W, .int .i64 L, .bool false, .map (some b')]) ∧ w.heap.size ≤ b') ∧ IMap w' b' (n + 1) (mayAcc S W f x) ∧ Ext w w' := by
  rcases h with ⟨rfl, h⟩ | ⟨b, rfl, h⟩
  · exact may_access_nil g x hx hx2 n f w h hn
  · cases hf : f x with
    | none => exact may_access_none g x hx hx2 b n f w h hn hfit hf
    | some c => exact may_access_some g x hx hx2 b n f w h hn hfit c hf

set_option maxHeartbeats 400000 in
/-- .. at an unknown one: it stays. -/
theorem may_access_unknown (S W L x : Int) (p : Option Nat) (w : World) :
    Calls Try.prog 32 #[.agg #[.int .i64 S, .int .i64 W, .int .i64 L, .bool true, .map p], .int .i64 x] w fun e w' => e = .returned (.agg #[.int .i64 S, .int .i64 W, .int .i64 L, .bool true, .map p]) ∧ Ext w w' := by
  go_enter Try.func32, Try.ntmps32
  go_wp2
  refine bodyPost_ret (v := .agg #[.int .i64 S, .int .i64 W, .int .i64 L, .bool true, .map p]) ?_ rfl ⟨rfl, (by repeat (first | ((with_reducible refine Ext.set1 ?_ ?_); (first | (focus (simp; done)) | (focus (simp; omega)) | (focus omega))) | (with_reducible refine Ext.alloc ?_ _) | (with_reducible exact Ext.refl _) | (refine Ext.trans ?_ (by with_reducible assumption))))⟩
  simp [results, Try.results32, go_sem]
set_option maxHeartbeats 400000 in
/-- .. of a line that does not exist. -/
theorem may_access_neg (S W L x : Int) (p : Option Nat) (w : World) (hx : x < 0) :
    Calls Try.prog 32 #[.agg #[.int .i64 S, .int .i64 W, .int .i64 L, .bool false, .map p], .int .i64 x] w fun e w' => e = .returned (.agg #[.int .i64 S, .int .i64 W, .int .i64 L, .bool false, .map p]) ∧ Ext w w' := by
  go_enter Try.func32, Try.ntmps32
  go_wp2
  refine bodyPost_ret (v := .agg #[.int .i64 S, .int .i64 W, .int .i64 L, .bool false, .map p]) ?_ rfl ⟨rfl, (by repeat (first | ((with_reducible refine Ext.set1 ?_ ?_); (first | (focus (simp; done)) | (focus (simp; omega)) | (focus omega))) | (with_reducible refine Ext.alloc ?_ _) | (with_reducible exact Ext.refl _) | (refine Ext.trans ?_ (by with_reducible assumption))))⟩
  simp [results, Try.results32, go_sem]
end Go.Proofs.Ytjckghdgogkeaaa

namespace Go.Proofs.Ytjckghdgogkeaaa
open Go.RowKit Go.Maps
set_option linter.unusedVariables false

set_option maxHeartbeats 400000 in
theorem may_range_unknown_pos (S W L lo hi : Int) (p : Option Nat) (w : World) (hl : 0 ≤ lo) :
    Calls Try.prog 31 #[.agg #[.int .i64 S, .int .i64 W, .int .i64 L, .bool true, .map p], .int .i64 lo, .int .i64 hi] w fun e w' => e = .returned (.agg #[.int .i64 S, .int .i64 W, .int .i64 L, .bool true, .map p]) ∧ Ext w w' := by
  go_enter Try.func31, Try.ntmps31
  go_wp2
  refine bodyPost_ret (v := .agg #[.int .i64 S, .int .i64 W, .int .i64 L, .bool true, .map p]) ?_ rfl ⟨rfl, (by repeat (first | ((with_reducible refine Ext.set1 ?_ ?_); (first | (focus (simp; done)) | (focus (simp; omega)) | (focus omega))) | (with_reducible refine Ext.alloc ?_ _) | (with_reducible exact Ext.refl _) | (refine Ext.trans ?_ (by with_reducible assumption))))⟩
  simp [results, Try.results31, go_sem]

set_option maxHeartbeats 400000 in
theorem may_range_empty_pos (S W L lo hi : Int) (p : Option Nat) (w : World) (hl : 0 ≤ lo) (h : hi < lo) :
    Calls Try.prog 31 #[.agg #[.int .i64 S, .int .i64 W, .int .i64 L, .bool false, .map p], .int .i64 lo, .int .i64 hi] w fun e w' => e = .returned (.agg #[.int .i64 S, .int .i64 W, .int .i64 L, .bool false, .map p]) ∧ Ext w w' := by
  go_enter Try.func31, Try.ntmps31
  go_wp2
  refine bodyPost_ret (v := .agg #[.int .i64 S, .int .i64 W, .int .i64 L, .bool false, .map p]) ?_ rfl ⟨rfl, (by repeat (first | ((with_reducible refine Ext.set1 ?_ ?_); (first | (focus (simp; done)) | (focus (simp; omega)) | (focus omega))) | (with_reducible refine Ext.alloc ?_ _) | (with_reducible exact Ext.refl _) | (refine Ext.trans ?_ (by with_reducible assumption))))⟩
  simp [results, Try.results31, go_sem]

set_option maxHeartbeats 400000 in
theorem may_range_wide_pos {S W L : Int} (g : Geo S W L) (lo hi : Int) (p : Option Nat) (w : World) (hl : 0 ≤ lo) (h : lo + 64 ≤ hi) (hhi : hi ≤ 1000000) :
    Calls Try.prog 31 #[.agg #[.int .i64 S, .int .i64 W, .int .i64 L, .bool false, .map p], .int .i64 lo, .int .i64 hi] w fun e w' => e = .returned (.agg #[.int .i64 S, .int .i64 W, .int .i64 L, .bool true, .map none]) ∧ Ext w w' := by
  have ht : ((lo : Int) == hi) = false := by rw [beq_eq_false_iff_ne]; omega
  go_enter Try.func31, Try.ntmps31
  go_wp2_with (go_at_call 30; refine (valid_yes g _).mono ?_; rintro e w1 ⟨rfl, hb1⟩; have hz1 := hb1.size; simp at hz1; have q1 : w.heap.size < w1.heap.size := (by omega); have r1 : w.heap.size + 1 < w1.heap.size := (by omega); obtain ⟨a10, a11, a12, a13, a14⟩ := Blk.c5 (w := w1) (B := w.heap.size) (by repeat (first | (with_reducible assumption) | ((with_reducible refine Blk.new ?_); (first | (focus rfl) | (focus (simp; done)) | (focus omega))) | ((with_reducible refine Blk.set1 ?_ ?_); (focus omega)) | (with_reducible refine Blk.alloc ?_) | (refine Blk.ext ?_ (by with_reducible assumption)))); have kr : Blk w1 (w.heap.size + 1) (.cells #[.int .i64 0, .int .i64 0, .int .i64 0, .bool false, .map none] 31) := (by repeat (first | (with_reducible assumption) | ((with_reducible refine Blk.new ?_); (first | (focus rfl) | (focus (simp; done)) | (focus omega))) | ((with_reducible refine Blk.set1 ?_ ?_); (focus omega)) | (with_reducible refine Blk.alloc ?_) | (refine Blk.ext ?_ (by with_reducible assumption)))); obtain ⟨b10, b11, b12, b13, b14⟩ := kr.c5; obtain ⟨f10, f11, f12, f13, f14⟩ := kr.f5)
  refine bodyPost_ret (v := .agg #[.int .i64 S, .int .i64 W, .int .i64 L, .bool true, .map none]) ?_ rfl ⟨rfl, ?_⟩
  · simp [results, Try.results31, go_sem, b10, b11, b12, b13, b14]
  · exact (by repeat (first | ((with_reducible refine Ext.set1 ?_ ?_); (first | (focus (simp; done)) | (focus (simp; omega)) | (focus omega))) | (with_reducible refine Ext.alloc ?_ _) | (with_reducible exact Ext.refl _) | (refine Ext.trans ?_ (by with_reducible assumption))))

set_option maxHeartbeats 400000 in
theorem may_range_one_pos {S W L : Int} (g : Geo S W L) (lo hi : Int) (p : Option Nat) (n : Nat) (f : FM) (w : World) (hl : 0 ≤ lo) (hhi : hi = lo) (hh2 : hi ≤ 1000000) (h : IMapO w p n f) (hn : n ≤ 1000000) (hfit : Fit W f) :
    Calls Try.prog 31 #[.agg #[.int .i64 S, .int .i64 W, .int .i64 L, .bool false, .map p], .int .i64 lo, .int .i64 hi] w fun e w' => ∃ b', (e = .returned (.agg #[.int .i64 S, .int .i64 W, .int .i64 L, .bool false, .map (some b')]) ∧ w.heap.size ≤ b') ∧ IMap w' b' (n + 1) (mayAcc S W f hi) ∧ Ext w w' := by
  subst hhi
  have HFIT := Lib.hid hfit; clear hfit
  go_enter Try.func31, Try.ntmps31
  go_wp2_with (first
    | (go_at_call 30; refine (valid_yes g _).mono ?_; rintro e w1 ⟨rfl, hb1⟩; have hz1 := hb1.size; simp at hz1; have q1 : w.heap.size < w1.heap.size := (by omega); have r1 : w.heap.size + 1 < w1.heap.size := (by omega); obtain ⟨a10, a11, a12, a13, a14⟩ := Blk.c5 (w := w1) (B := w.heap.size) (by repeat (first | (with_reducible assumption) | ((with_reducible refine Blk.new ?_); (first | (focus rfl) | (focus (simp; done)) | (focus omega))) | ((with_reducible refine Blk.set1 ?_ ?_); (focus omega)) | (with_reducible refine Blk.alloc ?_) | (refine Blk.ext ?_ (by with_reducible assumption)))); have kr : Blk w1 (w.heap.size + 1) (.cells #[.int .i64 0, .int .i64 0, .int .i64 0, .bool false, .map none] 31) := (by repeat (first | (with_reducible assumption) | ((with_reducible refine Blk.new ?_); (first | (focus rfl) | (focus (simp; done)) | (focus omega))) | ((with_reducible refine Blk.set1 ?_ ?_); (focus omega)) | (with_reducible refine Blk.alloc ?_) | (refine Blk.ext ?_ (by with_reducible assumption)))); obtain ⟨b10, b11, b12, b13, b14⟩ := kr.c5; obtain ⟨f10, f11, f12, f13, f14⟩ := kr.f5)
    | (go_at_call 32; refine Calls.mono (may_access g hi (by omega) (by omega) p n f _ (h.ext (by repeat (first | ((with_reducible refine Ext.set1 ?_ ?_); (first | (focus (simp; done)) | (focus (simp; omega)) | (focus omega))) | (with_reducible refine Ext.alloc ?_ _) | (with_reducible exact Ext.refl _) | (refine Ext.trans ?_ (by with_reducible assumption))))) hn HFIT.out) ?_; rintro e w2 ⟨b2, ⟨rfl, hb2⟩, him2, hx2⟩; have hz2 := hx2.size; have kr2 : Blk w2 (w.heap.size + 1) (.cells #[.int .i64 0, .int .i64 0, .int .i64 0, .bool false, .map none] 31) := (by repeat (first | (with_reducible assumption) | ((with_reducible refine Blk.new ?_); (first | (focus rfl) | (focus (simp; done)) | (focus omega))) | ((with_reducible refine Blk.set1 ?_ ?_); (focus omega)) | (with_reducible refine Blk.alloc ?_) | (refine Blk.ext ?_ (by with_reducible assumption)))); obtain ⟨b20, b21, b22, b23, b24⟩ := kr2.c5; obtain ⟨f20, f21, f22, f23, f24⟩ := kr2.f5))
  refine bodyPost_ret (v := .agg #[.int .i64 S, .int .i64 W, .int .i64 L, .bool false, .map (some b2)]) ?_ rfl ⟨b2, ⟨rfl, by omega⟩, ?_, ?_⟩
  · simp [results, Try.results31, go_sem, b20, b21, b22, b23, b24]
  · exact (by (repeat (first | ((with_reducible refine IMap.set1 ?_ ?_); (focus omega)) | (with_reducible refine IMap.alloc ?_ _))); with_reducible assumption)
  · exact (by repeat (first | ((with_reducible refine Ext.set1 ?_ ?_); (first | (focus (simp; done)) | (focus (simp; omega)) | (focus omega))) | (with_reducible refine Ext.alloc ?_ _) | (with_reducible exact Ext.refl _) | (refine Ext.trans ?_ (by with_reducible assumption))))

set_option maxHeartbeats 1000000 in
theorem may_range_some_pos {S W L : Int} (g : Geo S W L) (lo hi : Int) (p : Option Nat) (n : Nat) (f : FM) (w : World) (hl : 0 ≤ lo) (hlh : lo < hi) (hh1 : hi < lo + 64) (hh2 : hi ≤ 1000000) (h : IMapO w p n f) (hn : n ≤ 1000000) :
    Calls Try.prog 31 #[.agg #[.int .i64 S, .int .i64 W, .int .i64 L, .bool false, .map p], .int .i64 lo, .int .i64 hi] w fun e w' => ∃ b', (e = .returned (.agg #[.int .i64 S, .int .i64 W, .int .i64 L, .bool false, .map (some b')]) ∧ w.heap.size ≤ b') ∧ IMap w' b' (n + 64) (puts f lo hi) ∧ Ext w w' := by
  have ht : ((lo : Int) == hi) = false := by rw [beq_eq_false_iff_ne]; omega
  go_enter Try.func31, Try.ntmps31
  go_wp2_with (first
    | (go_at_call 30; refine (valid_yes g _).mono ?_; rintro e w1 ⟨rfl, hb1⟩; have hz1 := hb1.size; simp at hz1; have q1 : w.heap.size < w1.heap.size := (by omega); have r1 : w.heap.size + 1 < w1.heap.size := (by omega); obtain ⟨a10, a11, a12, a13, a14⟩ := Blk.c5 (w := w1) (B := w.heap.size) (by repeat (first | (with_reducible assumption) | ((with_reducible refine Blk.new ?_); (first | (focus rfl) | (focus (simp; done)) | (focus omega))) | ((with_reducible refine Blk.set1 ?_ ?_); (focus omega)) | (with_reducible refine Blk.alloc ?_) | (refine Blk.ext ?_ (by with_reducible assumption)))); have kr : Blk w1 (w.heap.size + 1) (.cells #[.int .i64 0, .int .i64 0, .int .i64 0, .bool false, .map none] 31) := (by repeat (first | (with_reducible assumption) | ((with_reducible refine Blk.new ?_); (first | (focus rfl) | (focus (simp; done)) | (focus omega))) | ((with_reducible refine Blk.set1 ?_ ?_); (focus omega)) | (with_reducible refine Blk.alloc ?_) | (refine Blk.ext ?_ (by with_reducible assumption)))); obtain ⟨b10, b11, b12, b13, b14⟩ := kr.c5; obtain ⟨f10, f11, f12, f13, f14⟩ := kr.f5)
    | (go_at_call 36; refine Calls.mono (may_copied S W L p n f _ (h.ext (by repeat (first | ((with_reducible refine Ext.set1 ?_ ?_); (first | (focus (simp; done)) | (focus (simp; omega)) | (focus omega))) | (with_reducible refine Ext.alloc ?_ _) | (with_reducible exact Ext.refl _) | (refine Ext.trans ?_ (by with_reducible assumption)))))) ?_; rintro e w2 ⟨bo, ⟨rfl, hbo⟩, him2, hb2⟩; have hz2 := hb2.size; have q2 : w.heap.size < w2.heap.size := (by omega); have r2 : w.heap.size + 1 < w2.heap.size := (by omega)))
  have hbo2 := him2.lt
  have k2 : Blk (w2.alloc (.cells #[.int .i64 S, .int .i64 W, .int .i64 L, .bool false, .map (some bo)] 31)) (w.heap.size + 1) (.cells #[.int .i64 0, .int .i64 0, .int .i64 0, .bool false, .map none] 31) := (by repeat (first | (with_reducible assumption) | ((with_reducible refine Blk.new ?_); (first | (focus rfl) | (focus (simp; done)) | (focus omega))) | ((with_reducible refine Blk.set1 ?_ ?_); (focus omega)) | (with_reducible refine Blk.alloc ?_) | (refine Blk.ext ?_ (by with_reducible assumption))))
  have k3 : Blk (w2.alloc (.cells #[.int .i64 S, .int .i64 W, .int .i64 L, .bool false, .map (some bo)] 31)) w2.heap.size (.cells #[.int .i64 S, .int .i64 W, .int .i64 L, .bool false, .map (some bo)] 31) := (by repeat (first | (with_reducible assumption) | ((with_reducible refine Blk.new ?_); (first | (focus rfl) | (focus (simp; done)) | (focus omega))) | ((with_reducible refine Blk.set1 ?_ ?_); (focus omega)) | (with_reducible refine Blk.alloc ?_) | (refine Blk.ext ?_ (by with_reducible assumption))))
  have him3 := him2.alloc (.cells #[.int .i64 S, .int .i64 W, .int .i64 L, .bool false, .map (some bo)] 31)
  have hext3 : Ext w (w2.alloc (.cells #[.int .i64 S, .int .i64 W, .int .i64 L, .bool false, .map (some bo)] 31)) := (by repeat (first | ((with_reducible refine Ext.set1 ?_ ?_); (first | (focus (simp; done)) | (focus (simp; omega)) | (focus omega))) | (with_reducible refine Ext.alloc ?_ _) | (with_reducible exact Ext.refl _) | (refine Ext.trans ?_ (by with_reducible assumption))))
  go_loopw [8] (fun i wr => ∃ k : Nat, i = .int .i64 (lo + k) ∧ (lo + k ≤ hi + 1 ∧ IMap wr bo (n + k) (puts f lo (lo + k - 1)) ∧ Blk wr (w.heap.size + 1) (.cells #[.int .i64 0, .int .i64 0, .int .i64 0, .bool false, .map none] 31) ∧ Blk wr w2.heap.size (.cells #[.int .i64 S, .int .i64 W, .int .i64 L, .bool false, .map (some bo)] 31) ∧ Ext w wr))
    (fun i _ => (hi + 1 - Go.RowKit.intOf i).toNat)
  case atStart => exact ⟨0, by simp, by omega, by rw [show (lo + ((0 : Nat) : Int) - 1) = lo - 1 from by simp, puts_nil]; exact him3, k2, k3, hext3⟩
  case round =>
    clear k2 k3 him3 hext3
    obtain ⟨k, rfl, hk, him, k2, k3, hext⟩ := hrel
    have hl2 := k2.lt
    have hl3 := k3.lt
    have hwb := him.lt
    obtain ⟨c0, c1, c2, c3, c4⟩ := k3.c5
    by_cases hlt : lo + (k : Int) ≤ hi
    · go_wp2_with (at_mapUpdate; refine wpList_store_im _ rfl _ _ _ rfl bo (n + k) _ rfl him (by unfold maxLen; omega) (lo + k) 0 rfl rfl (I64.of (by omega) (by omega)) (I64.of (by omega) (by omega)) ?_; intro w6 him6 hg6; have hz6 := hg6.size; have k26 := k2.grown hg6 (by simp; omega); have k36 := k3.grown hg6 (by simp; omega); have hext6 : Ext w w6 := hext.grown hg6 (fun k e => by cases e; omega))
      go_roundw
      case rel =>
        refine ⟨k + 1, by go_num, by omega, ?_, k26, k36, hext6⟩
        have e := puts_snoc f lo (lo + k - 1) (by omega)
        have e2 : (lo + (k : Int) - 1 + 1) = lo + k := by omega
        rw [e2] at e
        have e3 : (lo + ((k + 1 : Nat) : Int) - 1) = lo + k := by omega
        rw [e3, e, ← Nat.add_assoc]
        exact him6
      case measure => simp [Go.RowKit.intOf]; omega
    · obtain ⟨e0, e1, e2, e3, e4⟩ := k2.c5
      obtain ⟨f0, f1, f2, f3, f4⟩ := k2.f5
      go_wp2
      refine bodyPost_ret (v := .agg #[.int .i64 S, .int .i64 W, .int .i64 L, .bool false, .map (some bo)]) ?_ rfl ⟨bo, ⟨rfl, by omega⟩, ?_, ?_⟩
      · simp [results, Try.results31, go_sem, e0, e1, e2, e3, e4]
      · have e : lo + (k : Int) - 1 = hi := by omega
        have himf : IMap wr bo (n + 64) (puts f lo hi) := by rw [e] at him; exact him.mono (by omega)
        clear him
        exact (by (repeat (first | ((with_reducible refine IMap.set1 ?_ ?_); (focus omega)) | (with_reducible refine IMap.alloc ?_ _))); with_reducible assumption)
      · exact (by repeat (first | ((with_reducible refine Ext.set1 ?_ ?_); (first | (focus (simp; done)) | (focus (simp; omega)) | (focus omega))) | (with_reducible refine Ext.alloc ?_ _) | (with_reducible exact Ext.refl _) | (refine Ext.trans ?_ (by with_reducible assumption))))

set_option maxHeartbeats 400000 in
theorem may_range_unknown_neg (S W L lo hi : Int) (p : Option Nat) (w : World) (hl : lo < 0) :
    Calls Try.prog 31 #[.agg #[.int .i64 S, .int .i64 W, .int .i64 L, .bool true, .map p], .int .i64 lo, .int .i64 hi] w fun e w' => e = .returned (.agg #[.int .i64 S, .int .i64 W, .int .i64 L, .bool true, .map p]) ∧ Ext w w' := by
  go_enter Try.func31, Try.ntmps31
  go_wp2
  refine bodyPost_ret (v := .agg #[.int .i64 S, .int .i64 W, .int .i64 L, .bool true, .map p]) ?_ rfl ⟨rfl, (by repeat (first | ((with_reducible refine Ext.set1 ?_ ?_); (first | (focus (simp; done)) | (focus (simp; omega)) | (focus omega))) | (with_reducible refine Ext.alloc ?_ _) | (with_reducible exact Ext.refl _) | (refine Ext.trans ?_ (by with_reducible assumption))))⟩
  simp [results, Try.results31, go_sem]

set_option maxHeartbeats 400000 in
theorem may_range_empty_neg (S W L lo hi : Int) (p : Option Nat) (w : World) (hl : lo < 0) (h : hi < 0) :
    Calls Try.prog 31 #[.agg #[.int .i64 S, .int .i64 W, .int .i64 L, .bool false, .map p], .int .i64 lo, .int .i64 hi] w fun e w' => e = .returned (.agg #[.int .i64 S, .int .i64 W, .int .i64 L, .bool false, .map p]) ∧ Ext w w' := by
  go_enter Try.func31, Try.ntmps31
  go_wp2
  refine bodyPost_ret (v := .agg #[.int .i64 S, .int .i64 W, .int .i64 L, .bool false, .map p]) ?_ rfl ⟨rfl, (by repeat (first | ((with_reducible refine Ext.set1 ?_ ?_); (first | (focus (simp; done)) | (focus (simp; omega)) | (focus omega))) | (with_reducible refine Ext.alloc ?_ _) | (with_reducible exact Ext.refl _) | (refine Ext.trans ?_ (by with_reducible assumption))))⟩
  simp [results, Try.results31, go_sem]

set_option maxHeartbeats 400000 in
theorem may_range_wide_neg {S W L : Int} (g : Geo S W L) (lo hi : Int) (p : Option Nat) (w : World) (hl : lo < 0) (h : 0 + 64 ≤ hi) (hhi : hi ≤ 1000000) :
    Calls Try.prog 31 #[.agg #[.int .i64 S, .int .i64 W, .int .i64 L, .bool false, .map p], .int .i64 lo, .int .i64 hi] w fun e w' => e = .returned (.agg #[.int .i64 S, .int .i64 W, .int .i64 L, .bool true, .map none]) ∧ Ext w w' := by
  have ht : ((0 : Int) == hi) = false := by rw [beq_eq_false_iff_ne]; omega
  go_enter Try.func31, Try.ntmps31
  go_wp2_with (go_at_call 30; refine (valid_yes g _).mono ?_; rintro e w1 ⟨rfl, hb1⟩; have hz1 := hb1.size; simp at hz1; have q1 : w.heap.size < w1.heap.size := (by omega); have r1 : w.heap.size + 1 < w1.heap.size := (by omega); obtain ⟨a10, a11, a12, a13, a14⟩ := Blk.c5 (w := w1) (B := w.heap.size) (by repeat (first | (with_reducible assumption) | ((with_reducible refine Blk.new ?_); (first | (focus rfl) | (focus (simp; done)) | (focus omega))) | ((with_reducible refine Blk.set1 ?_ ?_); (focus omega)) | (with_reducible refine Blk.alloc ?_) | (refine Blk.ext ?_ (by with_reducible assumption)))); have kr : Blk w1 (w.heap.size + 1) (.cells #[.int .i64 0, .int .i64 0, .int .i64 0, .bool false, .map none] 31) := (by repeat (first | (with_reducible assumption) | ((with_reducible refine Blk.new ?_); (first | (focus rfl) | (focus (simp; done)) | (focus omega))) | ((with_reducible refine Blk.set1 ?_ ?_); (focus omega)) | (with_reducible refine Blk.alloc ?_) | (refine Blk.ext ?_ (by with_reducible assumption)))); obtain ⟨b10, b11, b12, b13, b14⟩ := kr.c5; obtain ⟨f10, f11, f12, f13, f14⟩ := kr.f5)
  refine bodyPost_ret (v := .agg #[.int .i64 S, .int .i64 W, .int .i64 L, .bool true, .map none]) ?_ rfl ⟨rfl, ?_⟩
  · simp [results, Try.results31, go_sem, b10, b11, b12, b13, b14]
  · exact (by repeat (first | ((with_reducible refine Ext.set1 ?_ ?_); (first | (focus (simp; done)) | (focus (simp; omega)) | (focus omega))) | (with_reducible refine Ext.alloc ?_ _) | (with_reducible exact Ext.refl _) | (refine Ext.trans ?_ (by with_reducible assumption))))

set_option maxHeartbeats 400000 in
theorem may_range_one_neg {S W L : Int} (g : Geo S W L) (lo hi : Int) (p : Option Nat) (n : Nat) (f : FM) (w : World) (hl : lo < 0) (hhi : hi = 0) (hh2 : (0 : Int) ≤ 1000000) (h : IMapO w p n f) (hn : n ≤ 1000000) (hfit : Fit W f) :
    Calls Try.prog 31 #[.agg #[.int .i64 S, .int .i64 W, .int .i64 L, .bool false, .map p], .int .i64 lo, .int .i64 hi] w fun e w' => ∃ b', (e = .returned (.agg #[.int .i64 S, .int .i64 W, .int .i64 L, .bool false, .map (some b')]) ∧ w.heap.size ≤ b') ∧ IMap w' b' (n + 1) (mayAcc S W f 0) ∧ Ext w w' := by
  subst hhi
  have HFIT := Lib.hid hfit; clear hfit
  go_enter Try.func31, Try.ntmps31
  go_wp2_with (first
    | (go_at_call 30; refine (valid_yes g _).mono ?_; rintro e w1 ⟨rfl, hb1⟩; have hz1 := hb1.size; simp at hz1; have q1 : w.heap.size < w1.heap.size := (by omega); have r1 : w.heap.size + 1 < w1.heap.size := (by omega); obtain ⟨a10, a11, a12, a13, a14⟩ := Blk.c5 (w := w1) (B := w.heap.size) (by repeat (first | (with_reducible assumption) | ((with_reducible refine Blk.new ?_); (first | (focus rfl) | (focus (simp; done)) | (focus omega))) | ((with_reducible refine Blk.set1 ?_ ?_); (focus omega)) | (with_reducible refine Blk.alloc ?_) | (refine Blk.ext ?_ (by with_reducible assumption)))); have kr : Blk w1 (w.heap.size + 1) (.cells #[.int .i64 0, .int .i64 0, .int .i64 0, .bool false, .map none] 31) := (by repeat (first | (with_reducible assumption) | ((with_reducible refine Blk.new ?_); (first | (focus rfl) | (focus (simp; done)) | (focus omega))) | ((with_reducible refine Blk.set1 ?_ ?_); (focus omega)) | (with_reducible refine Blk.alloc ?_) | (refine Blk.ext ?_ (by with_reducible assumption)))); obtain ⟨b10, b11, b12, b13, b14⟩ := kr.c5; obtain ⟨f10, f11, f12, f13, f14⟩ := kr.f5)
    | (go_at_call 32; refine Calls.mono (may_access g 0 (by omega) (by omega) p n f _ (h.ext (by repeat (first | ((with_reducible refine Ext.set1 ?_ ?_); (first | (focus (simp; done)) | (focus (simp; omega)) | (focus omega))) | (with_reducible refine Ext.alloc ?_ _) | (with_reducible exact Ext.refl _) | (refine Ext.trans ?_ (by with_reducible assumption))))) hn HFIT.out) ?_; rintro e w2 ⟨b2, ⟨rfl, hb2⟩, him2, hx2⟩; have hz2 := hx2.size; have kr2 : Blk w2 (w.heap.size + 1) (.cells #[.int .i64 0, .int .i64 0, .int .i64 0, .bool false, .map none] 31) := (by repeat (first | (with_reducible assumption) | ((with_reducible refine Blk.new ?_); (first | (focus rfl) | (focus (simp; done)) | (focus omega))) | ((with_reducible refine Blk.set1 ?_ ?_); (focus omega)) | (with_reducible refine Blk.alloc ?_) | (refine Blk.ext ?_ (by with_reducible assumption)))); obtain ⟨b20, b21, b22, b23, b24⟩ := kr2.c5; obtain ⟨f20, f21, f22, f23, f24⟩ := kr2.f5))
  refine bodyPost_ret (v := .agg #[.int .i64 S, .int .i64 W, .int .i64 L, .bool false, .map (some b2)]) ?_ rfl ⟨b2, ⟨rfl, by omega⟩, ?_, ?_⟩
  · simp [results, Try.results31, go_sem, b20, b21, b22, b23, b24]
  · exact (by (repeat (first | ((with_reducible refine IMap.set1 ?_ ?_); (focus omega)) | (with_reducible refine IMap.alloc ?_ _))); with_reducible assumption)
  · exact (by repeat (first | ((with_reducible refine Ext.set1 ?_ ?_); (first | (focus (simp; done)) | (focus (simp; omega)) | (focus omega))) | (with_reducible refine Ext.alloc ?_ _) | (with_reducible exact Ext.refl _) | (refine Ext.trans ?_ (by with_reducible assumption))))

set_option maxHeartbeats 1000000 in
theorem may_range_some_neg {S W L : Int} (g : Geo S W L) (lo hi : Int) (p : Option Nat) (n : Nat) (f : FM) (w : World) (hl : lo < 0) (hlh : 0 < hi) (hh1 : hi < 0 + 64) (hh2 : hi ≤ 1000000) (h : IMapO w p n f) (hn : n ≤ 1000000) :
    Calls Try.prog 31 #[.agg #[.int .i64 S, .int .i64 W, .int .i64 L, .bool false, .map p], .int .i64 lo, .int .i64 hi] w fun e w' => ∃ b', (e = .returned (.agg #[.int .i64 S, .int .i64 W, .int .i64 L, .bool false, .map (some b')]) ∧ w.heap.size ≤ b') ∧ IMap w' b' (n + 64) (puts f 0 hi) ∧ Ext w w' := by
  have ht : ((0 : Int) == hi) = false := by rw [beq_eq_false_iff_ne]; omega
  go_enter Try.func31, Try.ntmps31
  go_wp2_with (first
    | (go_at_call 30; refine (valid_yes g _).mono ?_; rintro e w1 ⟨rfl, hb1⟩; have hz1 := hb1.size; simp at hz1; have q1 : w.heap.size < w1.heap.size := (by omega); have r1 : w.heap.size + 1 < w1.heap.size := (by omega); obtain ⟨a10, a11, a12, a13, a14⟩ := Blk.c5 (w := w1) (B := w.heap.size) (by repeat (first | (with_reducible assumption) | ((with_reducible refine Blk.new ?_); (first | (focus rfl) | (focus (simp; done)) | (focus omega))) | ((with_reducible refine Blk.set1 ?_ ?_); (focus omega)) | (with_reducible refine Blk.alloc ?_) | (refine Blk.ext ?_ (by with_reducible assumption)))); have kr : Blk w1 (w.heap.size + 1) (.cells #[.int .i64 0, .int .i64 0, .int .i64 0, .bool false, .map none] 31) := (by repeat (first | (with_reducible assumption) | ((with_reducible refine Blk.new ?_); (first | (focus rfl) | (focus (simp; done)) | (focus omega))) | ((with_reducible refine Blk.set1 ?_ ?_); (focus omega)) | (with_reducible refine Blk.alloc ?_) | (refine Blk.ext ?_ (by with_reducible assumption)))); obtain ⟨b10, b11, b12, b13, b14⟩ := kr.c5; obtain ⟨f10, f11, f12, f13, f14⟩ := kr.f5)
    | (go_at_call 36; refine Calls.mono (may_copied S W L p n f _ (h.ext (by repeat (first | ((with_reducible refine Ext.set1 ?_ ?_); (first | (focus (simp; done)) | (focus (simp; omega)) | (focus omega))) | (with_reducible refine Ext.alloc ?_ _) | (with_reducible exact Ext.refl _) | (refine Ext.trans ?_ (by with_reducible assumption)))))) ?_; rintro e w2 ⟨bo, ⟨rfl, hbo⟩, him2, hb2⟩; have hz2 := hb2.size; have q2 : w.heap.size < w2.heap.size := (by omega); have r2 : w.heap.size + 1 < w2.heap.size := (by omega)))
  have hbo2 := him2.lt
  have k2 : Blk (w2.alloc (.cells #[.int .i64 S, .int .i64 W, .int .i64 L, .bool false, .map (some bo)] 31)) (w.heap.size + 1) (.cells #[.int .i64 0, .int .i64 0, .int .i64 0, .bool false, .map none] 31) := (by repeat (first | (with_reducible assumption) | ((with_reducible refine Blk.new ?_); (first | (focus rfl) | (focus (simp; done)) | (focus omega))) | ((with_reducible refine Blk.set1 ?_ ?_); (focus omega)) | (with_reducible refine Blk.alloc ?_) | (refine Blk.ext ?_ (by with_reducible assumption))))
  have k3 : Blk (w2.alloc (.cells #[.int .i64 S, .int .i64 W, .int .i64 L, .bool false, .map (some bo)] 31)) w2.heap.size (.cells #[.int .i64 S, .int .i64 W, .int .i64 L, .bool false, .map (some bo)] 31) := (by repeat (first | (with_reducible assumption) | ((with_reducible refine Blk.new ?_); (first | (focus rfl) | (focus (simp; done)) | (focus omega))) | ((with_reducible refine Blk.set1 ?_ ?_); (focus omega)) | (with_reducible refine Blk.alloc ?_) | (refine Blk.ext ?_ (by with_reducible assumption))))
  have him3 := him2.alloc (.cells #[.int .i64 S, .int .i64 W, .int .i64 L, .bool false, .map (some bo)] 31)
  have hext3 : Ext w (w2.alloc (.cells #[.int .i64 S, .int .i64 W, .int .i64 L, .bool false, .map (some bo)] 31)) := (by repeat (first | ((with_reducible refine Ext.set1 ?_ ?_); (first | (focus (simp; done)) | (focus (simp; omega)) | (focus omega))) | (with_reducible refine Ext.alloc ?_ _) | (with_reducible exact Ext.refl _) | (refine Ext.trans ?_ (by with_reducible assumption))))
  go_loopw [8] (fun i wr => ∃ k : Nat, i = .int .i64 (0 + k) ∧ (0 + k ≤ hi + 1 ∧ IMap wr bo (n + k) (puts f 0 (0 + k - 1)) ∧ Blk wr (w.heap.size + 1) (.cells #[.int .i64 0, .int .i64 0, .int .i64 0, .bool false, .map none] 31) ∧ Blk wr w2.heap.size (.cells #[.int .i64 S, .int .i64 W, .int .i64 L, .bool false, .map (some bo)] 31) ∧ Ext w wr))
    (fun i _ => (hi + 1 - Go.RowKit.intOf i).toNat)
  case atStart => exact ⟨0, by simp, by omega, by rw [show (0 + ((0 : Nat) : Int) - 1) = 0 - 1 from by simp, puts_nil]; exact him3, k2, k3, hext3⟩
  case round =>
    clear k2 k3 him3 hext3
    obtain ⟨k, rfl, hk, him, k2, k3, hext⟩ := hrel
    have hl2 := k2.lt
    have hl3 := k3.lt
    have hwb := him.lt
    obtain ⟨c0, c1, c2, c3, c4⟩ := k3.c5
    by_cases hlt : 0 + (k : Int) ≤ hi
    · go_wp2_with (at_mapUpdate; refine wpList_store_im _ rfl _ _ _ rfl bo (n + k) _ rfl him (by unfold maxLen; omega) (0 + k) 0 rfl rfl (I64.of (by omega) (by omega)) (I64.of (by omega) (by omega)) ?_; intro w6 him6 hg6; have hz6 := hg6.size; have k26 := k2.grown hg6 (by simp; omega); have k36 := k3.grown hg6 (by simp; omega); have hext6 : Ext w w6 := hext.grown hg6 (fun k e => by cases e; omega))
      go_roundw
      case rel =>
        refine ⟨k + 1, by go_num, by omega, ?_, k26, k36, hext6⟩
        have e := puts_snoc f 0 (0 + k - 1) (by omega)
        have e2 : (0 + (k : Int) - 1 + 1) = 0 + k := by omega
        rw [e2] at e
        have e3 : (0 + ((k + 1 : Nat) : Int) - 1) = 0 + k := by omega
        rw [e3, e, ← Nat.add_assoc]
        exact him6
      case measure => simp [Go.RowKit.intOf]; omega
    · obtain ⟨e0, e1, e2, e3, e4⟩ := k2.c5
      obtain ⟨f0, f1, f2, f3, f4⟩ := k2.f5
      go_wp2
      refine bodyPost_ret (v := .agg #[.int .i64 S, .int .i64 W, .int .i64 L, .bool false, .map (some bo)]) ?_ rfl ⟨bo, ⟨rfl, by omega⟩, ?_, ?_⟩
      · simp [results, Try.results31, go_sem, e0, e1, e2, e3, e4]
      · have e : 0 + (k : Int) - 1 = hi := by omega
        have himf : IMap wr bo (n + 64) (puts f 0 hi) := by rw [e] at him; exact him.mono (by omega)
        clear him
        exact (by (repeat (first | ((with_reducible refine IMap.set1 ?_ ?_); (focus omega)) | (with_reducible refine IMap.alloc ?_ _))); with_reducible assumption)
      · exact (by repeat (first | ((with_reducible refine Ext.set1 ?_ ?_); (first | (focus (simp; done)) | (focus (simp; omega)) | (focus omega))) | (with_reducible refine Ext.alloc ?_ _) | (with_reducible exact Ext.refl _) | (refine Ext.trans ?_ (by with_reducible assumption))))

end Go.Proofs.Ytjckghdgogkeaaa

namespace Go.Proofs.Ytjckghdgogkeaaa
open Go.RowKit Go.Maps
set_option linter.unusedVariables false

/-- The fields u and p of a may state (unknown, bounds) read as the state st. -/
def StB (w : World) (W : Int) (n : Nat) (st : St) (u : Bool) (p : Option Nat) : Prop :=
  (u = true ∧ p = none ∧ st = none) ∨ (u = false ∧ ∃ f, st = some f ∧ IMapO w p n f ∧ Fit W f)
theorem StB.ext {w w' : World} {W : Int} {n : Nat} {st : St} {u : Bool} {p : Option Nat} (h : StB w W n st u p) (e : Ext w w') : StB w' W n st u p := by
  rcases h with h | ⟨h1, f, h2, h3, h4⟩
  · exact .inl h
  · exact .inr ⟨h1, f, h2, h3.ext e, h4⟩
theorem StB.set {w : World} {W : Int} {n : Nat} {st : St} {u : Bool} {p : Option Nat} {a : Addr} {v : Value} (h : StB w W n st u p) : StB (w.setCell a v) W n st u p := by
  rcases h with h | ⟨h1, f, h2, h3, h4⟩
  · exact .inl h
  · exact .inr ⟨h1, f, h2, h3.set, h4⟩
theorem StB.alloc {w : World} {W : Int} {n : Nat} {st : St} {u : Bool} {p : Option Nat} (h : StB w W n st u p) (o : Obj) : StB (w.alloc o) W n st u p := by
  rcases h with h | ⟨h1, f, h2, h3, h4⟩
  · exact .inl h
  · exact .inr ⟨h1, f, h2, h3.alloc o, h4⟩
theorem StB.mono {w : World} {W : Int} {n n' : Nat} {st : St} {u : Bool} {p : Option Nat} (h : StB w W n st u p) (hn : n ≤ n') : StB w W n' st u p := by
  rcases h with h | ⟨h1, f, h2, h3, h4⟩
  · exact .inl h
  · exact .inr ⟨h1, f, h2, h3.mono hn, h4⟩
theorem StB.mk {w : World} {W : Int} {n : Nat} {f : FM} {b : Nat} (h : IMap w b n f) (hf : Fit W f) : StB w W n (some f) false (some b) := .inr ⟨rfl, f, rfl, .inr ⟨b, rfl, h⟩, hf⟩
theorem StB.nil (w : World) (W : Int) (n : Nat) : StB w W n (some noF) false none := .inr ⟨rfl, noF, rfl, .inl ⟨rfl, fun _ => rfl⟩, fit_no W⟩
theorem StB.unk (w : World) (W : Int) (n : Nat) : StB w W n none true none := .inl ⟨rfl, rfl, rfl⟩

/-- A call that hands back a may state. -/
def Gives (S W L : Int) (n : Nat) (st : St) (w : World) (e : Ending) (w' : World) : Prop :=
  ∃ u p, e = .returned (.agg #[.int .i64 S, .int .i64 W, .int .i64 L, .bool u, .map p]) ∧ StB w' W n st u p ∧ Ext w w'

theorem acc_st {S W L : Int} (g : Geo S W L) (x : Int) (hx2 : x ≤ 1000000) (u : Bool) (p : Option Nat) (n : Nat) (st : St) (w : World) (h : StB w W n st u p) (hn : n ≤ 1000000) :
    Calls Try.prog 32 #[.agg #[.int .i64 S, .int .i64 W, .int .i64 L, .bool u, .map p], .int .i64 x] w (Gives S W L (n + 64) (sAcc S W st x) w) := by
  have hw := g.w1
  rcases h with ⟨rfl, rfl, rfl⟩ | ⟨rfl, f, rfl, him, hf⟩
  · exact (may_access_unknown S W L x none w).mono fun e w' ⟨he, hb⟩ => ⟨_, _, he, .unk _ _ _, hb⟩
  · by_cases hx : x < 0
    · refine (may_access_neg S W L x p w hx).mono fun e w' ⟨he, hb⟩ => ⟨_, _, he, ?_, hb⟩
      simp only [sAcc, if_pos hx]
      exact .inr ⟨rfl, f, rfl, (him.ext hb).mono (by omega), hf⟩
    · refine (may_access g x (by omega) hx2 p n f w him hn hf).mono fun e w' ⟨b, ⟨he, _⟩, hi, hb⟩ => ⟨_, _, he, ?_, hb⟩
      simp only [sAcc, if_neg hx]
      exact StB.mk (hi.mono (by omega)) (fit_acc hf hw (by omega))

theorem range_st {S W L : Int} (g : Geo S W L) (lo hi : Int) (hx2 : hi ≤ 1000000) (u : Bool) (p : Option Nat) (n : Nat) (st : St) (w : World) (h : StB w W n st u p) (hn : n ≤ 1000000) :
    Calls Try.prog 31 #[.agg #[.int .i64 S, .int .i64 W, .int .i64 L, .bool u, .map p], .int .i64 lo, .int .i64 hi] w (Gives S W L (n + 64) (sRange S W st lo hi) w) := by
  have hw := g.w1
  rcases h with ⟨rfl, rfl, rfl⟩ | ⟨rfl, f, rfl, him, hf⟩
  · rcases Int.lt_or_le lo 0 with hl | hl
    · exact (may_range_unknown_neg S W L lo hi none w hl).mono fun e w' ⟨he, hb⟩ => ⟨_, _, he, .unk _ _ _, hb⟩
    · exact (may_range_unknown_pos S W L lo hi none w hl).mono fun e w' ⟨he, hb⟩ => ⟨_, _, he, .unk _ _ _, hb⟩
  · rcases Int.lt_or_le lo 0 with hl | hl
    · have em : max lo 0 = 0 := by omega
      simp only [sRange, em]
      by_cases h1 : hi < 0
      · refine (may_range_empty_neg S W L lo hi p w hl h1).mono fun e w' ⟨he, hb⟩ => ⟨_, _, he, ?_, hb⟩
        rw [if_pos h1]
        exact .inr ⟨rfl, f, rfl, (him.ext hb).mono (by omega), hf⟩
      rw [if_neg h1]
      by_cases h2 : 0 = hi
      · subst h2
        refine (may_range_one_neg g lo 0 p n f w hl rfl (by omega) him hn hf).mono fun e w' ⟨b, ⟨he, _⟩, hi, hb⟩ => ⟨_, _, he, ?_, hb⟩
        rw [if_pos rfl]
        exact StB.mk (hi.mono (by omega)) (fit_acc hf hw (by omega))
      rw [if_neg h2]
      by_cases h3 : 64 ≤ hi - 0
      · refine (may_range_wide_neg g lo hi p w hl (by omega) hx2).mono fun e w' ⟨he, hb⟩ => ⟨_, _, he, ?_, hb⟩
        rw [if_pos h3]
        exact .unk _ _ _
      rw [if_neg h3]
      exact (may_range_some_neg g lo hi p n f w hl (by omega) (by omega) hx2 him hn).mono fun e w' ⟨b, ⟨he, _⟩, hi, hb⟩ => ⟨_, _, he, StB.mk hi (fit_puts hf hw (by omega)), hb⟩
    · have em : max lo 0 = lo := by omega
      simp only [sRange, em]
      by_cases h1 : hi < lo
      · refine (may_range_empty_pos S W L lo hi p w hl h1).mono fun e w' ⟨he, hb⟩ => ⟨_, _, he, ?_, hb⟩
        rw [if_pos h1]
        exact .inr ⟨rfl, f, rfl, (him.ext hb).mono (by omega), hf⟩
      rw [if_neg h1]
      by_cases h2 : lo = hi
      · subst h2
        refine (may_range_one_pos g lo lo p n f w hl rfl (by omega) him hn hf).mono fun e w' ⟨b, ⟨he, _⟩, hi, hb⟩ => ⟨_, _, he, ?_, hb⟩
        rw [if_pos rfl]
        exact StB.mk (hi.mono (by omega)) (fit_acc hf hw (by omega))
      rw [if_neg h2]
      by_cases h3 : 64 ≤ hi - lo
      · refine (may_range_wide_pos g lo hi p w hl (by omega) hx2).mono fun e w' ⟨he, hb⟩ => ⟨_, _, he, ?_, hb⟩
        rw [if_pos h3]
        exact .unk _ _ _
      rw [if_neg h3]
      exact (may_range_some_pos g lo hi p n f w hl (by omega) (by omega) hx2 him hn).mono fun e w' ⟨b, ⟨he, _⟩, hi, hb⟩ => ⟨_, _, he, StB.mk hi (fit_puts hf hw (by omega)), hb⟩
end Go.Proofs.Ytjckghdgogkeaaa
