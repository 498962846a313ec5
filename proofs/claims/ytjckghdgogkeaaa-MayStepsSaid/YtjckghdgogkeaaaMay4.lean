/- A may state, known or not, under one word; Access, AccessRange over it. -/
import Derived.Test.YtjckghdgogkeaaaMay3
namespace Go.Proofs.Ytjckghdgogkeaaa
open Go.RowKit Go.Maps
set_option linter.unusedVariables false

/-- The fields u and p of a may state (unknown, bounds) read as the state st. -/
def StB (w : World) (W : Int) (n : Nat) (st : St) (u : Bool) (p : Option Nat) : Prop :=
  (u = true ∧ p = none ∧ st = none) ∨ (u = false ∧ ∃ f, st = some f ∧ IMapO w p n f ∧ Fit W f)
theorem StB.ext {w w' : World} {W : Int} {n : Nat} {st : St} {u : Bool} {p : Option Nat} (h : StB w W n st u p) (e : Ext w w') : StB w' W n st u p := by
  rcases h with h | ⟨h1, f, h2, h3, h4⟩
  · exact .inl h
  · exact .inr ⟨h1, f, h2, h3.ext e, h4⟩
theorem StB.set {w : World} {W : Int} {n : Nat} {st : St} {u : Bool} {p : Option Nat} {a : Addr} {v : Value} (h : StB w W n st u p) : StB (w.setCell a v) W n st u p := by
  rcases h with h | ⟨h1, f, h2, h3, h4⟩
  · exact .inl h
  · exact .inr ⟨h1, f, h2, h3.set, h4⟩
theorem StB.alloc {w : World} {W : Int} {n : Nat} {st : St} {u : Bool} {p : Option Nat} (h : StB w W n st u p) (o : Obj) : StB (w.alloc o) W n st u p := by
  rcases h with h | ⟨h1, f, h2, h3, h4⟩
  · exact .inl h
  · exact .inr ⟨h1, f, h2, h3.alloc o, h4⟩
theorem StB.mono {w : World} {W : Int} {n n' : Nat} {st : St} {u : Bool} {p : Option Nat} (h : StB w W n st u p) (hn : n ≤ n') : StB w W n' st u p := by
  rcases h with h | ⟨h1, f, h2, h3, h4⟩
  · exact .inl h
  · exact .inr ⟨h1, f, h2, h3.mono hn, h4⟩
theorem StB.mk {w : World} {W : Int} {n : Nat} {f : FM} {b : Nat} (h : IMap w b n f) (hf : Fit W f) : StB w W n (some f) false (some b) := .inr ⟨rfl, f, rfl, .inr ⟨b, rfl, h⟩, hf⟩
theorem StB.nil (w : World) (W : Int) (n : Nat) : StB w W n (some noF) false none := .inr ⟨rfl, noF, rfl, .inl ⟨rfl, fun _ => rfl⟩, fit_no W⟩
theorem StB.unk (w : World) (W : Int) (n : Nat) : StB w W n none true none := .inl ⟨rfl, rfl, rfl⟩

/-- A call that hands back a may state. -/
def Gives (S W L : Int) (n : Nat) (st : St) (w : World) (e : Ending) (w' : World) : Prop :=
  ∃ u p, e = .returned (.agg #[.int .i64 S, .int .i64 W, .int .i64 L, .bool u, .map p]) ∧ StB w' W n st u p ∧ Ext w w'

theorem acc_st {S W L : Int} (g : Geo S W L) (x : Int) (hx2 : x ≤ 1000000) (u : Bool) (p : Option Nat) (n : Nat) (st : St) (w : World) (h : StB w W n st u p) (hn : n ≤ 1000000) :
    Calls Try.prog 32 #[.agg #[.int .i64 S, .int .i64 W, .int .i64 L, .bool u, .map p], .int .i64 x] w (Gives S W L (n + 64) (sAcc S W st x) w) := by
  have hw := g.w1
  rcases h with ⟨rfl, rfl, rfl⟩ | ⟨rfl, f, rfl, him, hf⟩
  · exact (may_access_unknown S W L x none w).mono fun e w' ⟨he, hb⟩ => ⟨_, _, he, .unk _ _ _, hb⟩
  · by_cases hx : x < 0
    · refine (may_access_neg S W L x p w hx).mono fun e w' ⟨he, hb⟩ => ⟨_, _, he, ?_, hb⟩
      simp only [sAcc, if_pos hx]
      exact .inr ⟨rfl, f, rfl, (him.ext hb).mono (by omega), hf⟩
    · refine (may_access g x (by omega) hx2 p n f w him hn hf).mono fun e w' ⟨b, ⟨he, _⟩, hi, hb⟩ => ⟨_, _, he, ?_, hb⟩
      simp only [sAcc, if_neg hx]
      exact StB.mk (hi.mono (by omega)) (fit_acc hf hw (by omega))

theorem range_st {S W L : Int} (g : Geo S W L) (lo hi : Int) (hx2 : hi ≤ 1000000) (u : Bool) (p : Option Nat) (n : Nat) (st : St) (w : World) (h : StB w W n st u p) (hn : n ≤ 1000000) :
    Calls Try.prog 31 #[.agg #[.int .i64 S, .int .i64 W, .int .i64 L, .bool u, .map p], .int .i64 lo, .int .i64 hi] w (Gives S W L (n + 64) (sRange S W st lo hi) w) := by
  have hw := g.w1
  rcases h with ⟨rfl, rfl, rfl⟩ | ⟨rfl, f, rfl, him, hf⟩
  · rcases Int.lt_or_le lo 0 with hl | hl
    · exact (may_range_unknown_neg S W L lo hi none w hl).mono fun e w' ⟨he, hb⟩ => ⟨_, _, he, .unk _ _ _, hb⟩
    · exact (may_range_unknown_pos S W L lo hi none w hl).mono fun e w' ⟨he, hb⟩ => ⟨_, _, he, .unk _ _ _, hb⟩
  · rcases Int.lt_or_le lo 0 with hl | hl
    · have em : max lo 0 = 0 := by omega
      simp only [sRange, em]
      by_cases h1 : hi < 0
      · refine (may_range_empty_neg S W L lo hi p w hl h1).mono fun e w' ⟨he, hb⟩ => ⟨_, _, he, ?_, hb⟩
        rw [if_pos h1]
        exact .inr ⟨rfl, f, rfl, (him.ext hb).mono (by omega), hf⟩
      rw [if_neg h1]
      by_cases h2 : 0 = hi
      · subst h2
        refine (may_range_one_neg g lo 0 p n f w hl rfl (by omega) him hn hf).mono fun e w' ⟨b, ⟨he, _⟩, hi, hb⟩ => ⟨_, _, he, ?_, hb⟩
        rw [if_pos rfl]
        exact StB.mk (hi.mono (by omega)) (fit_acc hf hw (by omega))
      rw [if_neg h2]
      by_cases h3 : 64 ≤ hi - 0
      · refine (may_range_wide_neg g lo hi p w hl (by omega) hx2).mono fun e w' ⟨he, hb⟩ => ⟨_, _, he, ?_, hb⟩
        rw [if_pos h3]
        exact .unk _ _ _
      rw [if_neg h3]
      exact (may_range_some_neg g lo hi p n f w hl (by omega) (by omega) hx2 him hn).mono fun e w' ⟨b, ⟨he, _⟩, hi, hb⟩ => ⟨_, _, he, StB.mk hi (fit_puts hf hw (by omega)), hb⟩
    · have em : max lo 0 = lo := by omega
      simp only [sRange, em]
      by_cases h1 : hi < lo
      · refine (may_range_empty_pos S W L lo hi p w hl h1).mono fun e w' ⟨he, hb⟩ => ⟨_, _, he, ?_, hb⟩
        rw [if_pos h1]
        exact .inr ⟨rfl, f, rfl, (him.ext hb).mono (by omega), hf⟩
      rw [if_neg h1]
      by_cases h2 : lo = hi
      · subst h2
        refine (may_range_one_pos g lo lo p n f w hl rfl (by omega) him hn hf).mono fun e w' ⟨b, ⟨he, _⟩, hi, hb⟩ => ⟨_, _, he, ?_, hb⟩
        rw [if_pos rfl]
        exact StB.mk (hi.mono (by omega)) (fit_acc hf hw (by omega))
      rw [if_neg h2]
      by_cases h3 : 64 ≤ hi - lo
      · refine (may_range_wide_pos g lo hi p w hl (by omega) hx2).mono fun e w' ⟨he, hb⟩ => ⟨_, _, he, ?_, hb⟩
        rw [if_pos h3]
        exact .unk _ _ _
      rw [if_neg h3]
      exact (may_range_some_pos g lo hi p n f w hl (by omega) (by omega) hx2 him hn).mono fun e w' ⟨b, ⟨he, _⟩, hi, hb⟩ => ⟨_, _, he, StB.mk hi (fit_puts hf hw (by omega)), hb⟩
end Go.Proofs.Ytjckghdgogkeaaa
