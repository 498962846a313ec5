/- The contracts of maps.Copy and maps.Equal, on maps of ints to ints read as partial functions; the keys of such a map as a rising list. -/
import Derived.Test.YtaekkfgggmighaaMap
import Derived.Test.YtaekkfgggmighaaLay5
import Derived.Lib.SlMapMerge
import Derived.Lib.SlKeysI
namespace Go.Proofs.Ytaekkfgggmighaa
open Go.RowKit Go.Maps Go.WideShapes
set_option linter.unusedVariables false

theorem entries_int {w : World} {b n : Nat} {D : DataW Unit} (h : w.ownsMap Try.prog 3 RI b n D) :
    ∃ es, D = .map es ∧ es.Pairwise (fun p q => p.1 ≠ q.1) ∧ ∀ p ∈ es, ∃ x c : Int, p = (.int .i64 x, .lit (.int .i64 c)) ∧ I64 x := by
  obtain ⟨es0, clock, hb, F, hs, rfl⟩ := h
  refine ⟨_, rfl, ((sorted_perm _).pairwise_iff (fun {_ _} hne => Ne.symm hne)).2 (Maps.fit_apart keyedI F), fun p hp => ?_⟩
  obtain ⟨x, hx, rfl⟩ := List.mem_map.1 (mem_sorted.1 hp)
  obtain ⟨y, hy⟩ := F.reads x hx
  obtain ⟨z, hz, hzd⟩ := WideElems.rd_val hy
  obtain ⟨k, _, hk, hwf⟩ := Maps.keyOf_int_inv Try.underlying3 (WideElems.rd_key hy)
  obtain ⟨c, _, hc, _⟩ := plainElem_int_inv Try.underlying3 hz
  refine ⟨k, c, ?_, hwf⟩
  rw [WideElems.rg_of hy]
  refine Prod.ext hk ?_
  rw [hzd, hc]

/-- A list with no repeats inside one that is no longer holds all of it. -/
theorem subset_back {α : Type} [DecidableEq α] : ∀ (l1 l2 : List α), l1.Nodup → l2.Nodup → (∀ x ∈ l1, x ∈ l2) → l2.length ≤ l1.length → ∀ x ∈ l2, x ∈ l1
  | [], l2, _, _, _, hl, x, hx => by
    have : l2 = [] := List.eq_nil_of_length_eq_zero (by simpa using hl)
    subst this; simp at hx
  | a :: r, l2, h1, h2, hs, hl, x, hx => by
    obtain ⟨ha, hr⟩ := List.nodup_cons.1 h1
    have ha2 : a ∈ l2 := hs a (by simp)
    by_cases e : x = a
    · simp [e]
    · have := subset_back r (l2.erase a) hr (h2.erase a) (fun y hy => (List.mem_erase_of_ne (fun e' => ha (by rw [← e']; exact hy))).2 (hs y (by simp [hy]))) (by rw [List.length_erase_of_mem ha2]; simp at hl; omega) x ((List.mem_erase_of_ne e).2 hx)
      simp [this]

theorem keys_nodup {es : List (Lit × DataW Unit)} (hp : es.Pairwise (fun p q => p.1 ≠ q.1)) : (es.map (·.1)).Nodup := List.pairwise_map.2 hp

theorem Is.mem {es : List (Lit × DataW Unit)} {f : FM} (h : Is (.map es) f) (hk : ∀ p ∈ es, ∃ x c : Int, p = (.int .i64 x, .lit (.int .i64 c)) ∧ I64 x) (x : Int) (hx : I64 x) : Lit.int .i64 x ∈ es.map (·.1) ↔ (f x).isSome = true := by
  rw [← h.has x hx, has_eq, List.any_eq_true, List.mem_map]
  constructor
  · rintro ⟨p, hp, e⟩
    exact ⟨p, hp, by rw [e]; exact WideAt.sameKey_self (isKey x)⟩
  · rintro ⟨p, hp, e⟩
    exact ⟨p, hp, WideAt.sameKey_eq e⟩

theorem Is.atMem {es : List (Lit × DataW Unit)} {f : FM} (h : Is (.map es) f) (hp : es.Pairwise (fun p q => p.1 ≠ q.1)) {x c : Int} (hx : I64 x) (hm : (Lit.int .i64 x, DataW.lit (.int .i64 c)) ∈ es) : f x = some c := by
  have h1 : (f x).isSome = true := by
    rw [← h.has x hx]
    exact List.any_eq_true.2 ⟨_, hm, WideAt.sameKey_self (isKey x)⟩
  obtain ⟨b, hb⟩ := Option.isSome_iff_exists.1 h1
  have e := (h.at_ x b hx hb .nil).symm.trans (WideAt.atKey_mem .nil (isKey x) hp hm)
  have : b = c := by injection e with e; injection e
  rw [hb, this]

/-! ### the keys -/
/-- L is the rising list of the keys of f. -/
def Dom (f : FM) (L : List Int) : Prop := L.Pairwise (· < ·) ∧ ∀ x, x ∈ L ↔ (f x).isSome = true

theorem Dom.unique {f : FM} {L M : List Int} (h : Dom f L) (k : Dom f M) : L = M := by
  refine List.Perm.eq_of_pairwise (le := fun a b => a < b) (fun a b _ _ h1 h2 => by omega) h.1 k.1 ?_
  exact (List.perm_ext_iff_of_nodup (h.1.imp (fun h => by omega)) (k.1.imp (fun h => by omega))).2 fun x => by rw [h.2, k.2]

theorem dom_of_perm {w : World} {b n : Nat} {D : DataW Unit} {f : FM} (hown : w.ownsMap Try.prog 3 RI b n D) (h : Is D f) {ss : List Int} (hp : ss.Perm (intKeys D)) : Dom f (ss.mergeSort (fun x y => decide (x ≤ y))) := by
  obtain ⟨es, rfl, hpw, hk⟩ := entries_int hown
  have hm : ∀ x, x ∈ ss ↔ (f x).isSome = true := by
    intro x
    rw [hp.mem_iff]
    show x ∈ es.map (fun p => Go.intOf p.1) ↔ _
    rw [List.mem_map]
    constructor
    · rintro ⟨p, hp', rfl⟩
      obtain ⟨y, c, rfl, hy⟩ := hk p hp'
      show (f y).isSome = true
      rw [h.atMem hpw hy hp']; rfl
    · intro hf
      obtain ⟨c, hc⟩ := Option.isSome_iff_exists.1 hf
      have := (h.mem hk x (h.dom x c hc).1).2 hf
      obtain ⟨p, hp', e⟩ := List.mem_map.1 this
      exact ⟨p, hp', by rw [e]; rfl⟩
  have hnd : ss.Nodup := by
    refine (hp.nodup_iff).2 ?_
    show (es.map fun p => Go.intOf p.1).Nodup
    refine List.pairwise_map.2 (hpw.imp_of_mem fun {p q} hp' hq' hne e => hne ?_)
    obtain ⟨a, _, rfl, _⟩ := hk p hp'
    obtain ⟨b, _, rfl, _⟩ := hk q hq'
    exact congrArg (Lit.int .i64) e
  have tr : ∀ a b c : Int, decide (a ≤ b) = true → decide (b ≤ c) = true → decide (a ≤ c) = true := fun a b c h1 h2 => by simp only [decide_eq_true_eq] at *; exact Int.le_trans h1 h2
  have tot : ∀ a b : Int, (decide (a ≤ b) || decide (b ≤ a)) = true := fun a b => by simp only [Bool.or_eq_true, decide_eq_true_eq]; exact Int.le_total a b
  have hperm := List.mergeSort_perm ss (fun x y => decide (x ≤ y))
  refine ⟨?_, fun x => by rw [hperm.mem_iff, hm]⟩
  have h1 := List.pairwise_mergeSort tr tot ss
  have h2 : (ss.mergeSort (fun x y => decide (x ≤ y))).Nodup := (hperm.nodup_iff).2 hnd
  refine (List.Pairwise.and h1 h2).imp fun {a b} h => ?_
  have := of_decide_eq_true h.1
  have h2 := h.2
  omega

theorem length_perm {D : DataW Unit} {ss : List Int} (hp : ss.Perm (intKeys D)) (hD : IsMap D) : ss.length = Maps.size D := by
  obtain ⟨es, rfl⟩ := hD
  rw [hp.length_eq]
  show (es.map fun p => Go.intOf p.1).length = es.length
  simp

/-! ### maps.Equal -/
def eqI : DataW Unit → DataW Unit → Bool
  | .lit (.int _ x), .lit (.int _ y) => x == y
  | _, _ => false
theorem neq_int (W : World) (x y : Value) (xd yd : DataW Unit) (xp yp : List MemPlace) (hx : RI x = some (xd, xp)) (hy : RI y = some (yd, yp)) :
    (binOp .neq 3 x y).run Try.prog W = .ok (.bool (!eqI xd yd)) W ∧ ∀ (a b : Operand), (eqGuard .neq 3 a b x y).run Try.prog W = .ok () W := by
  obtain ⟨a, rfl, h1, _⟩ := plainElem_int_inv Try.underlying3 hx
  obtain ⟨b, rfl, h2, _⟩ := plainElem_int_inv Try.underlying3 hy
  obtain rfl : xd = .lit (.int .i64 a) := by simpa using (congrArg Prod.fst h1)
  obtain rfl : yd = .lit (.int .i64 b) := by simpa using (congrArg Prod.fst h2)
  refine ⟨?_, fun _ _ => by rw [eqGuard_at_int]; rfl⟩
  simp [go_sem, eqI, binOp]
  rfl

def ReadsO (w : World) (p : Option Nat) (n : Nat) (f : FM) (D : DataW Unit) : Prop := (p = none ∧ D = .nil ∧ ∀ x, f x = none) ∨ ∃ b, p = some b ∧ w.ownsMap Try.prog 3 RI b n D ∧ Is D f
theorem IMapO.reads {w : World} {p : Option Nat} {n : Nat} {f : FM} (h : IMapO w p n f) : ∃ D, ReadsO w p n f D := by
  rcases h with ⟨h1, h2⟩ | ⟨b, h1, D, h2, h3⟩
  · exact ⟨.nil, .inl ⟨h1, rfl, h2⟩⟩
  · exact ⟨D, .inr ⟨b, h1, h2, h3⟩⟩
theorem ReadsO.src {w : World} {p : Option Nat} {n : Nat} {f : FM} {D : DataW Unit} (h : ReadsO w p n f D) : SrcOf Try.prog 3 RI w p D := by
  rcases h with ⟨h1, h2, _⟩ | ⟨b, h1, h2, _⟩
  · exact .inl ⟨h1, h2⟩
  · exact .inr ⟨b, n, h1, h2⟩
/-- The entries of what was read: no key twice, each an int's; and f is just that. -/
theorem ReadsO.list {w : World} {p : Option Nat} {n : Nat} {f : FM} {D : DataW Unit} (h : ReadsO w p n f D) :
    ∃ es : List (Lit × DataW Unit), Lib.entriesD D = es ∧ Maps.size D = es.length ∧ (es.map (·.1)).Nodup ∧ (∀ p ∈ es, ∃ x c : Int, p = (.int .i64 x, .lit (.int .i64 c)) ∧ f x = some c) ∧ (∀ x c, f x = some c → (Lit.int .i64 x, DataW.lit (.int .i64 c)) ∈ es) ∧
      ∀ x, (f x = none → Maps.has D (.int .i64 x) = false ∨ ¬ I64 x) ∧ ∀ c, f x = some c → Maps.has D (.int .i64 x) = true ∧ D.atKey (.int .i64 x) .nil = .lit (.int .i64 c) := by
  rcases h with ⟨_, rfl, h⟩ | ⟨b, _, hown, hi⟩
  · refine ⟨[], rfl, rfl, List.nodup_nil, by simp, (fun x c e => by rw [h] at e; cases e), fun x => ⟨fun _ => .inl rfl, (fun c e => by rw [h] at e; cases e)⟩⟩
  · obtain ⟨es, rfl, hpw, hk⟩ := entries_int hown
    refine ⟨es, rfl, rfl, keys_nodup hpw, fun p hp => ?_, fun x c e => ?_, fun x => ⟨fun e => ?_, fun c e => ?_⟩⟩
    · obtain ⟨x, c, rfl, hx⟩ := hk p hp
      exact ⟨x, c, rfl, hi.atMem hpw hx hp⟩
    · have hx := (hi.dom x c e).1
      obtain ⟨p, hp, e1⟩ := List.mem_map.1 ((hi.mem hk x hx).2 (by rw [e]; rfl))
      obtain ⟨y, d, rfl, hy⟩ := hk p hp
      have e1 : Lit.int .i64 y = Lit.int .i64 x := e1
      obtain rfl : y = x := by injection e1
      have := hi.atMem hpw hx hp
      rw [e] at this
      cases this
      exact hp
    · by_cases hx : I64 x
      · exact .inl (by rw [hi.has x hx, e]; rfl)
      · exact .inr hx
    · have hx := (hi.dom x c e).1
      exact ⟨by rw [hi.has x hx, e]; rfl, hi.at_ x c hx e _⟩

theorem equalD_iff {w w' : World} {p q : Option Nat} {n m : Nat} {f g : FM} {D E : DataW Unit} (h : ReadsO w p n f D) (k : ReadsO w' q m g E) : Lib.equalFuncD eqI D E = true ↔ ∀ x, f x = g x := by
  classical
  obtain ⟨es, he, hs, hnd, h1, h2, h3⟩ := h.list
  obtain ⟨fs, ke, ks, knd, k1, k2, k3⟩ := k.list
  unfold Lib.equalFuncD
  rw [he, hs, ks, Bool.and_eq_true, decide_eq_true_eq, List.all_eq_true]
  have good : ∀ x c, f x = some c → (Lib.goodD eqI E (Lit.int .i64 x, DataW.lit (.int .i64 c)) = true ↔ g x = some c) := by
    intro x c e
    unfold Lib.goodD
    rw [Bool.and_eq_true]
    cases hg : g x with
    | none =>
      have hx : I64 x := by
        rcases h with ⟨_, _, h⟩ | ⟨b, _, _, hi⟩
        · rw [h] at e; cases e
        · exact (hi.dom x c e).1
      rcases (k3 x).1 hg with h0 | h0
      · simp [h0]
      · exact absurd hx h0
    | some d =>
      obtain ⟨a1, a2⟩ := (k3 x).2 d hg
      rw [a2]
      simp only [a1, true_and, eqI, beq_iff_eq, Option.some.injEq]
      exact eq_comm
  constructor
  · rintro ⟨hl, hall⟩ x
    have sub : ∀ x c, f x = some c → g x = some c := fun x c e => (good x c e).1 (hall _ (h2 x c e))
    have sub2 : ∀ y ∈ es.map (·.1), y ∈ fs.map (·.1) := by
      intro y hy
      obtain ⟨p, hp, rfl⟩ := List.mem_map.1 hy
      obtain ⟨x, c, rfl, e⟩ := h1 p hp
      exact List.mem_map.2 ⟨_, k2 x c (sub x c e), rfl⟩
    have back := subset_back (es.map (·.1)) (fs.map (·.1)) hnd knd sub2 (by simp [hl])
    cases hf : f x with
    | some c => rw [sub x c hf]
    | none =>
      cases hg : g x with
      | none => rfl
      | some c =>
        obtain ⟨p, hp, e⟩ := List.mem_map.1 (back _ (List.mem_map.2 ⟨_, k2 x c hg, rfl⟩))
        obtain ⟨y, d, rfl, e'⟩ := h1 p hp
        have e : Lit.int .i64 y = Lit.int .i64 x := e
        obtain rfl : y = x := by injection e
        rw [hf] at e'; cases e'
  · intro heq
    have perm : ∀ y, y ∈ es.map (·.1) ↔ y ∈ fs.map (·.1) := by
      intro y
      constructor
      · intro hy
        obtain ⟨p, hp, rfl⟩ := List.mem_map.1 hy
        obtain ⟨x, c, rfl, e⟩ := h1 p hp
        exact List.mem_map.2 ⟨_, k2 x c ((heq x).symm.trans e), rfl⟩
      · intro hy
        obtain ⟨p, hp, rfl⟩ := List.mem_map.1 hy
        obtain ⟨x, c, rfl, e⟩ := k1 p hp
        exact List.mem_map.2 ⟨_, h2 x c ((heq x).trans e), rfl⟩
    refine ⟨?_, fun p hp => ?_⟩
    · have := ((List.perm_ext_iff_of_nodup hnd knd).2 perm).length_eq
      simpa using this
    · obtain ⟨x, c, rfl, e⟩ := h1 p hp
      exact (good x c e).2 ((heq x).symm.trans e)

theorem equal_im {w : World} {p q : Option Nat} {n m : Nat} {f g : FM} (h : IMapO w p n f) (k : IMapO w q m g) :
    Calls Try.prog 50 #[.map p, .map q] w fun e w' => ∃ b : Bool, (e = .returned (.bool b) ∧ (b = true ↔ ∀ x, f x = g x)) ∧ Ext w w' := by
  obtain ⟨D, hD⟩ := h.reads
  obtain ⟨E, hE⟩ := k.reads
  have hc := AnyEq.maps_Equal_opt Try.equalL keyedI RI RI eqI p q D E w hD.src hE.src (.int .i64 0) zeroI (.lit (.int .i64 0)) [] (plainElem_int Try.underlying3 (by decide)) neq_int
  change Calls Try.prog 50 _ _ _ at hc
  exact hc.mono fun e w' ⟨he, hg⟩ => ⟨_, ⟨he, equalD_iff hD hE⟩, (Ext.refl w).grown hg (fun k e => by cases e)⟩
theorem equal_yes {w : World} {p q : Option Nat} {n m : Nat} {f g : FM} (h : IMapO w p n f) (k : IMapO w q m g) (he : ∀ x, f x = g x) :
    Calls Try.prog 50 #[.map p, .map q] w fun e w' => e = .returned (.bool true) ∧ Ext w w' :=
  (equal_im h k).mono fun e w' ⟨b, ⟨h1, h2⟩, h3⟩ => ⟨by rw [h1, h2.2 he], h3⟩

/-! ### maps.Copy into a new map -/
theorem atKey_find {es : List (Lit × DataW Unit)} {k : Lit} {p : Lit × DataW Unit} (hf : es.find? (fun p => p.1.sameKey k) = some p) (z : DataW Unit) : (DataW.map es).atKey k z = p.2 := by
  unfold DataW.atKey
  simp only [hf]
theorem isMap_fold : ∀ (es : List (Lit × DataW Unit)) (D : DataW Unit), IsMap D → IsMap (es.foldl (fun D p => D.put p.1 p.2) D)
  | [], _, h => h
  | a :: r, D, h => isMap_fold r _ (h.put _ _)
theorem mem_lit {w : World} {b n : Nat} {D : DataW Unit} (h : w.ownsMap Try.prog 3 RI b n D) : IsMap D := by
  obtain ⟨es, rfl, _⟩ := entries_int h
  exact ⟨_, rfl⟩
theorem copy_im {w : World} {bd n : Nat} {ps : Option Nat} {f : FM} (hd : IMap w bd 0 noF) (hs : IMapO w ps n f) (hne : ps ≠ some bd) (hn : n ≤ 1000000) :
    Calls Try.prog 59 #[.map (some bd), .map ps] w fun e w' => e = .returned (.tuple #[]) ∧ IMap w' bd n f ∧ w.grownBy w' (some bd) := by
  obtain ⟨D0, hown0, hi0⟩ := hd
  obtain ⟨E, hE⟩ := hs.reads
  have hsz : Maps.size E ≤ n := by
    rcases hE with ⟨_, rfl, _⟩ | ⟨b, _, ho, _⟩
    · exact Nat.zero_le _
    · exact ho.size_le
  have hc := AnyX.maps_Copy_opt Try.copyL keyedI RI bd 0 ps D0 E w hown0 hE.src hne (by unfold maxLen; omega)
  change Calls Try.prog 59 _ _ _ at hc
  refine hc.mono fun e w' ⟨he, h1, h2⟩ => ⟨he, ⟨_, h1.mono (by omega), ?_⟩, h2⟩
  have hm0 : IsMap D0 := mem_lit hown0
  have hh0 : ∀ x, I64 x → Maps.has D0 (.int .i64 x) = false := fun x hx => by rw [hi0.has x hx]; rfl
  rcases hE with ⟨_, rfl, hf⟩ | ⟨b, _, ho, hi⟩
  · obtain rfl : f = noF := funext hf
    exact hi0
  · obtain ⟨es, rfl, hpw, hk⟩ := entries_int ho
    have hlit : ∀ p ∈ es, WideAt.IsKeyLit p.1 := fun p hp => by obtain ⟨x, c, rfl, _⟩ := hk p hp; exact isKey x
    show Is (es.foldl (fun D p => D.put p.1 p.2) D0) f
    refine ⟨isMap_fold es D0 hm0, fun x hx => ?_, fun x c hx e z => ?_, hi.dom⟩
    · rw [has_foldPut _ es D0 hm0 hlit, hh0 x hx, ← hi.has x hx, has_eq]
      simp
    · have hh : Maps.has (.map es) (.int .i64 x) = true := by rw [hi.has x hx, e]; rfl
      rw [atKey_foldPut _ z es D0 hm0 hlit hpw, ← hi.at_ x c hx e z]
      rw [has_eq, List.any_eq_true] at hh
      cases hf : es.find? (fun p => p.1.sameKey (.int .i64 x)) with
      | some p =>
        exact (atKey_find hf z).symm
      | none =>
        obtain ⟨p, hp, hs⟩ := hh
        exact absurd hs (List.find?_eq_none.1 hf p hp)
end Go.Proofs.Ytaekkfgggmighaa
