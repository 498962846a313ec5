/- The contracts of ontimelaw30.great, (Op).line and awake. -/
import Derived.Test.YtaekkfgggmighaaMu6
import Derived.Test.YtaekkfgggmighaaRows2
import Derived.Test.YtaekkfgggmighaaPgreatx1
namespace Go.Proofs.Ytaekkfgggmighaa
open Go.RowKit Go.Maps Go.Proofs.YtaekkfgggmighaaW.PrintWords Go.Proofs.Ytaekkfgggmighaa.Pgreat
set_option linter.unusedVariables false

theorem w64 {x : Int} (h : -9223372036854775808 ≤ x ∧ x ≤ 9223372036854775807) : wrap64 x = x := by unfold wrap64; omega
theorem rd37 {l : List S37} {a : S37} {r pre : List S37} (h : l = pre ++ a :: r) : rd_T37 l (pre.length : Int) = a := by
  subst h
  simp [rd_T37, List.getD]
/-- An operation past the limits. -/
def big (o : S37) : Bool := decide (1000 < o.f0) || decide (1000 < o.f1)
def greatB (l : List S37) : Bool := l.any big || decide (100 < l.length)
theorem great_l0 (l : List S37) (hl : l.length ≤ 9223372036854775807) : ∀ (r pre : List S37) (k : Nat), l = pre ++ r → r.length + 1 ≤ k → ontimelaw30_great.l0 k l l (l.length : Int) (pre.length : Int) = some (r.any big || decide (100 < l.length)) := by
  intro r
  induction r with
  | nil =>
    intro pre k h hk
    obtain ⟨k, rfl⟩ : ∃ j, k = j + 1 := ⟨k - 1, by omega⟩
    simp only [List.append_nil] at h
    subst h
    rw [ontimelaw30_great.l0, if_neg (by omega)]
    simp only [List.any_nil, Bool.false_or, Option.some.injEq]
    rw [Bool.eq_iff_iff, decide_eq_true_eq, decide_eq_true_eq]
    omega
  | cons a t ih =>
    intro pre k h hk
    obtain ⟨k, rfl⟩ : ∃ j, k = j + 1 := ⟨k - 1, by simp at hk; omega⟩
    have hll : l.length = pre.length + (t.length + 1) := by rw [h]; simp
    have hlt : (pre.length : Int) < (l.length : Int) := by omega
    have hr : rd_T37 l (pre.length : Int) = a := rd37 h
    have hw : wrap64 ((pre.length : Int) + 1) = ((pre ++ [a]).length : Int) := by
      simp only [List.length_append, List.length_singleton]
      rw [w64] <;> omega
    simp only [List.length_cons] at hk
    rw [ontimelaw30_great.l0, if_pos hlt, if_pos (by omega), if_pos hlt, hr, hw]
    by_cases h1 : a.f0 > 1000
    · rw [if_pos h1]
      have : big a = true := by unfold big; simp; omega
      simp [this]
    · rw [if_neg h1]
      by_cases h2 : a.f1 > 1000
      · rw [if_pos h2]
        have : big a = true := by unfold big; simp; omega
        simp [this]
      · rw [if_neg h2, ih (pre ++ [a]) k (by simp [h]) (by omega)]
        have : big a = false := by unfold big; simp; omega
        simp [this]
theorem great_any (A : Option Addr) (c : Nat) (l : List S37) (w : World) (hr : k37.C w A l.length l) (hc : l.length ≤ c) :
    Calls Try.prog 13 #[.slice A l.length c] w fun e w' => e = .returned (.bool (greatB l)) ∧ Ext w w' :=
  ontimelaw30_great.calls (l.length + 1) A c l (greatB l) w hr hc (great_l0 l (C_max hr) l [] _ rfl (Nat.le_refl _))
theorem great_no {l : List S37} (h : greatB l = false) : l.length ≤ 100 ∧ ∀ o ∈ l, o.f0 ≤ 1000 ∧ o.f1 ≤ 1000 := by
  unfold greatB at h
  simp only [Bool.or_eq_false_iff, decide_eq_false_iff_not, List.any_eq_false] at h
  refine ⟨by omega, fun o ho => ?_⟩
  have := h.1 o ho
  unfold big at this
  simp at this
  exact this
theorem at_op {w : World} {A : Option Addr} {n : Nat} {xs : List S37} (h : k37.C w A n xs) (k : Nat) (hk : k < n) : ∃ ad, A = some ad ∧ w.cell? (ad.add (k * 3)) = some (.int .i64 (xs.getD k z37).f0) ∧ w.cell? ⟨(ad.add (k * 3)).block, (ad.add (k * 3)).off + 1, none⟩ = some (.int .i64 (xs.getD k z37).f1) ∧ w.cell? ⟨(ad.add (k * 3)).block, (ad.add (k * 3)).off + 2, none⟩ = some (.int .u8 (xs.getD k z37).f2) := by
  have := at_T37 h (k : Int) (by omega) (by omega)
  simpa [rd_T37] using this

abbrev zMust : Obj := .cells #[.int .i64 0, .int .i64 0, .int .i64 0, .map none] 28
abbrev mustO (S W L : Int) (p : Option Nat) : Obj := .cells #[.int .i64 S, .int .i64 W, .int .i64 L, .map p] 28

/-! ### awake -/
theorem awake_acc1 (p : Option Nat) (n : Nat) (w : World) (h : MB w 2 n noF p) (hn : n ≤ 1000000) :
    Calls Try.prog 27 #[.agg #[.int .i64 1, .int .i64 2, .int .i64 1, .map p], .int .i64 1] w (GivesM 1 2 1 (n + 1) AW1 w) := must_access g121 1 (by decide) (by decide) p n _ w h hn
theorem awake_acc2 (p : Option Nat) (n : Nat) (w : World) (h : MB w 2 n AW1 p) (hn : n ≤ 1000000) :
    Calls Try.prog 27 #[.agg #[.int .i64 1, .int .i64 2, .int .i64 1, .map p], .int .i64 2] w (GivesM 1 2 1 (n + 1) AW2 w) := must_access g121 2 (by decide) (by decide) p n _ w h hn
theorem awake_rng (p : Option Nat) (n : Nat) (w : World) (h : MB w 2 n AW2 p) (hn : n ≤ 1000000) :
    Calls Try.prog 32 #[.agg #[.int .i64 1, .int .i64 2, .int .i64 1, .map p], .int .i64 5, .int .i64 6] w (GivesM 1 2 1 (n + 1) AW3 w) := must_range g121 5 6 (by decide) p n _ w h hn
theorem age_mb {S W L : Int} (x : Int) (p : Option Nat) (n : Nat) (f : FM) (w : World) (h : MB w W n f p) (hx : I64 x) (c : Int) (ok : Bool) (hc : (f x).getD 0 = c) (hok : (f x).isSome = ok) :
    Calls Try.prog 25 #[.agg #[.int .i64 S, .int .i64 W, .int .i64 L, .map p], .int .i64 x] w fun e w' => e = .returned (.tuple #[.int .i64 c, .bool ok]) ∧ Ext w w' := must_age S W L x p n f w h.1 hx c ok hc hok
theorem awake_age1 (p : Option Nat) (n : Nat) (w : World) (h : MB w 2 n AW2 p) :
    Calls Try.prog 25 #[.agg #[.int .i64 1, .int .i64 2, .int .i64 1, .map p], .int .i64 1] w fun e w' => e = .returned (.tuple #[.int .i64 1, .bool true]) ∧ Ext w w' := age_mb 1 p n _ w h (.of (by decide) (by decide)) _ _ (by rw [aw_facts.1]; rfl) (by rw [aw_facts.1]; rfl)
theorem awake_age2 (p : Option Nat) (n : Nat) (w : World) (h : MB w 2 n AW3 p) :
    Calls Try.prog 25 #[.agg #[.int .i64 1, .int .i64 2, .int .i64 1, .map p], .int .i64 2] w fun e w' => e = .returned (.tuple #[.int .i64 1, .bool true]) ∧ Ext w w' := age_mb 2 p n _ w h (.of (by decide) (by decide)) _ _ (by rw [aw_facts.2.2.1]; rfl) (by rw [aw_facts.2.2.1]; rfl)
theorem awake_age3 (p : Option Nat) (n : Nat) (w : World) (h : MB w 2 n AW3 p) :
    Calls Try.prog 25 #[.agg #[.int .i64 1, .int .i64 2, .int .i64 1, .map p], .int .i64 1] w fun e w' => e = .returned (.tuple #[.int .i64 0, .bool false]) ∧ Ext w w' := age_mb 1 p n _ w h (.of (by decide) (by decide)) _ _ (by rw [aw_facts.2.2.2]; rfl) (by rw [aw_facts.2.2.2]; rfl)
/-- A slice of so many elements comes back. -/
def GivesLen (m : Nat) (w : World) (e : Ending) (w' : World) : Prop := ∃ A c, e = .returned (.slice A m c) ∧ Ext w w'
theorem Holds1.slice {w : World} {b : Nat} {v : Value} {L : List Int} (h : Holds1 w b v L) : ∃ A c, v = .slice A L.length c := by
  obtain ⟨⟨a, h⟩, h2⟩ := h
  rcases h with ⟨h, hl⟩ | ⟨g, cap, cur, hv, hg, r⟩
  · subst h
    have : L = [] := h2.1 rfl
    subst this
    exact ⟨none, 0, rfl⟩
  · exact ⟨_, _, hv⟩
theorem lines_len {S W L : Int} (p : Option Nat) (n : Nat) (f : FM) (w : World) (h : MB w W n f p) (hn : n ≤ 1000000) (m : Nat) (hm : ∀ K, Dom f K → K.length = m) :
    Calls Try.prog 28 #[.agg #[.int .i64 S, .int .i64 W, .int .i64 L, .map p]] w (GivesLen m w) :=
  (must_lines S W L p n f w h.1 hn).mono fun e w' ⟨v, K, ⟨he, hd, _⟩, hh, hb⟩ => by
    obtain ⟨A, c, hv⟩ := hh.slice
    exact ⟨A, c, by rw [he, hv, hm K hd], hb⟩
theorem awake_lines1 (p : Option Nat) (n : Nat) (w : World) (h : MB w 2 n AW2 p) (hn : n ≤ 1000000) :
    Calls Try.prog 28 #[.agg #[.int .i64 1, .int .i64 2, .int .i64 1, .map p]] w (GivesLen 2 w) := lines_len p n _ w h hn 2 fun K h => aw2_len h
theorem awake_lines2 (p : Option Nat) (n : Nat) (w : World) (h : MB w 2 n AW3 p) (hn : n ≤ 1000000) :
    Calls Try.prog 28 #[.agg #[.int .i64 1, .int .i64 2, .int .i64 1, .map p]] w (GivesLen 1 w) := lines_len p n _ w h hn 1 fun K h => aw3_len h

set_option maxHeartbeats 1000000 in
theorem awake_yes (w : World) : Calls Try.prog 11 #[] w fun e w' => e = .returned (.bool true) ∧ Ext w w' := by
  go_enter Try.func11, Try.ntmps11
  go_wp2_with (first
    | (have g := hb8; clear g; go_at_call 28; refine Calls.mono (awake_lines2 _ (0 + 1 + 1 + 1) _ (by repeat (first | (with_reducible assumption) | (with_reducible refine MB.set ?_) | (with_reducible refine MB.alloc ?_ _) | (refine MB.ext ?_ (by with_reducible assumption)))) (by omega)) ?_; rintro e w9 ⟨A9, c9, rfl, hb9⟩)
    | (have g := hb7; clear g; go_at_call 28; refine Calls.mono (awake_lines1 _ (0 + 1 + 1) _ (by repeat (first | (with_reducible assumption) | (with_reducible refine MB.set ?_) | (with_reducible refine MB.alloc ?_ _) | (refine MB.ext ?_ (by with_reducible assumption)))) (by omega)) ?_; rintro e w8 ⟨A8, c8, rfl, hb8⟩; obtain ⟨e0, e1, e2, e3⟩ := Blk.c4 (w := w8) (B := w4.heap.size) (by repeat (first | (with_reducible assumption) | ((with_reducible refine Blk.new ?_); (first | (focus rfl) | (focus (simp; done)) | (focus omega))) | (with_reducible apply Blk.put4) | (with_reducible apply Blk.put1) | ((with_reducible refine Blk.far4 ?_ ?_); (focus omega)) | ((with_reducible refine Blk.set1 ?_ ?_); (focus omega)) | (with_reducible refine Blk.alloc ?_) | (with_reducible refine Blk.drew ?_) | (refine Blk.ext ?_ (by with_reducible assumption)))))
    | (have g := hb6; clear g; go_at_call 25; refine Calls.mono (awake_age3 _ (0 + 1 + 1 + 1) _ (by repeat (first | (with_reducible assumption) | (with_reducible refine MB.set ?_) | (with_reducible refine MB.alloc ?_ _) | (refine MB.ext ?_ (by with_reducible assumption))))) ?_; rintro e w7 ⟨rfl, hb7⟩; obtain ⟨e0, e1, e2, e3⟩ := Blk.c4 (w := w7) (B := w3.heap.size) (by repeat (first | (with_reducible assumption) | ((with_reducible refine Blk.new ?_); (first | (focus rfl) | (focus (simp; done)) | (focus omega))) | (with_reducible apply Blk.put4) | (with_reducible apply Blk.put1) | ((with_reducible refine Blk.far4 ?_ ?_); (focus omega)) | ((with_reducible refine Blk.set1 ?_ ?_); (focus omega)) | (with_reducible refine Blk.alloc ?_) | (with_reducible refine Blk.drew ?_) | (refine Blk.ext ?_ (by with_reducible assumption)))))
    | (have g := hb5; clear g; go_at_call 25; refine Calls.mono (awake_age2 _ (0 + 1 + 1 + 1) _ (by repeat (first | (with_reducible assumption) | (with_reducible refine MB.set ?_) | (with_reducible refine MB.alloc ?_ _) | (refine MB.ext ?_ (by with_reducible assumption))))) ?_; rintro e w6 ⟨rfl, hb6⟩; obtain ⟨d0, d1, d2, d3⟩ := Blk.c4 (w := w6) (B := w4.heap.size) (by repeat (first | (with_reducible assumption) | ((with_reducible refine Blk.new ?_); (first | (focus rfl) | (focus (simp; done)) | (focus omega))) | (with_reducible apply Blk.put4) | (with_reducible apply Blk.put1) | ((with_reducible refine Blk.far4 ?_ ?_); (focus omega)) | ((with_reducible refine Blk.set1 ?_ ?_); (focus omega)) | (with_reducible refine Blk.alloc ?_) | (with_reducible refine Blk.drew ?_) | (refine Blk.ext ?_ (by with_reducible assumption)))))
    | (have g := hb4; clear g; go_at_call 25; refine Calls.mono (awake_age1 _ (0 + 1 + 1) _ (by repeat (first | (with_reducible assumption) | (with_reducible refine MB.set ?_) | (with_reducible refine MB.alloc ?_ _) | (refine MB.ext ?_ (by with_reducible assumption))))) ?_; rintro e w5 ⟨rfl, hb5⟩; obtain ⟨c0, c1, c2, c3⟩ := Blk.c4 (w := w5) (B := w4.heap.size) (by repeat (first | (with_reducible assumption) | ((with_reducible refine Blk.new ?_); (first | (focus rfl) | (focus (simp; done)) | (focus omega))) | (with_reducible apply Blk.put4) | (with_reducible apply Blk.put1) | ((with_reducible refine Blk.far4 ?_ ?_); (focus omega)) | ((with_reducible refine Blk.set1 ?_ ?_); (focus omega)) | (with_reducible refine Blk.alloc ?_) | (with_reducible refine Blk.drew ?_) | (refine Blk.ext ?_ (by with_reducible assumption)))))
    | (have g := hb3; clear g; go_at_call 32; refine Calls.mono (awake_rng _ (0 + 1 + 1) _ (by repeat (first | (with_reducible assumption) | (with_reducible refine MB.set ?_) | (with_reducible refine MB.alloc ?_ _) | (refine MB.ext ?_ (by with_reducible assumption)))) (by omega)) ?_; rintro e w4 ⟨p4, rfl, h4, hb4⟩; obtain ⟨b0, b1, b2, b3⟩ := Blk.c4 (w := w4) (B := w3.heap.size) (by repeat (first | (with_reducible assumption) | ((with_reducible refine Blk.new ?_); (first | (focus rfl) | (focus (simp; done)) | (focus omega))) | (with_reducible apply Blk.put4) | (with_reducible apply Blk.put1) | ((with_reducible refine Blk.far4 ?_ ?_); (focus omega)) | ((with_reducible refine Blk.set1 ?_ ?_); (focus omega)) | (with_reducible refine Blk.alloc ?_) | (with_reducible refine Blk.drew ?_) | (refine Blk.ext ?_ (by with_reducible assumption)))); have q4 : w3.heap.size < w4.heap.size := (by have := hb4.size; simp at this; omega))
    | (have g := hb2; clear g; go_at_call 27; refine Calls.mono (awake_acc2 _ _ _ h2 (by omega)) ?_; rintro e w3 ⟨p3, rfl, h3, hb3⟩)
    | (have g := hb1; clear g; go_at_call 27; refine Calls.mono (awake_acc1 _ 0 _ (MB.nil _ _ _) (by omega)) ?_; rintro e w2 ⟨p2, rfl, h2, hb2⟩)
    | (go_at_call 21; refine Calls.mono (must_new_yes g121 _) ?_; rintro e w1 ⟨rfl, hb1⟩))
  go_ret
  exact ⟨rfl, (by repeat (first | ((with_reducible refine Ext.set1 ?_ ?_); (first | (focus (simp; done)) | (focus (simp; omega)) | (focus omega))) | (with_reducible refine Ext.alloc ?_ _) | (with_reducible exact Ext.refl _) | (refine Ext.trans ?_ (by with_reducible assumption))))⟩
end Go.Proofs.Ytaekkfgggmighaa
