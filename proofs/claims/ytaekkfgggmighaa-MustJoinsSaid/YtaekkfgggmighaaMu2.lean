/- The contracts of the function literals in (must.State).Access and .AccessRange. -/
import Derived.Test.YtaekkfgggmighaaMu1
import Derived.Deep.QuietTactic
namespace Go.Proofs.Ytaekkfgggmighaa
open Go.RowKit Go.Maps
set_option linter.unusedVariables false

theorem wp_region_m {id : Nat} {Q : Exit → Act → World → Prop} {a : Act} {w : World} {l : List Oper} (hB : Region.lexB .any l.toArray = true)
    (h : wpQuiet Try.prog l.toArray (Ext w) (fun a' => ∀ w', Ext w w' → Q .normal a' w') l a) : (Code.region id l.toArray true).wp Try.prog Q a w :=
  wp_region_quiet (C := Ext w) (by kernel_rfl) hB (Ext.drew (Ext.refl w)) (by simpa using h)

/-- Which lines grow older at an access of x, whose bound is h. -/
def accM (S x h : Int) (n c : Int) : Bool := !decide (n = x) && (decide (n % S = x % S) && decide (c < h))
/-- .. of a range. -/
def rngM (S lo hi : Int) (n _c : Int) : Bool := decide ((n - lo) % S ≤ hi - lo)

set_option maxHeartbeats 1000000 in
theorem clo_acc {S W L : Int} (g : Geo S W L) (n c x h : Int) (hn : 0 ≤ n) (bl bs bt bo : Nat) (p : Option Nat) (w : World) (k1 : Blk w bl (.cells #[.int .i64 x] 3)) (k2 : Blk w bs (.cells #[.int .i64 S, .int .i64 W, .int .i64 L, .map p] 28))
    (k3 : Blk w bt (.cells #[.int .i64 (x % S)] 3)) (k4 : Blk w bo (.cells #[.int .i64 h] 3)) :
    Calls Try.prog 47 #[.int .i64 n, .int .i64 c, .pointer (some ⟨bl, 0, none⟩), .pointer (some ⟨bs, 0, none⟩), .pointer (some ⟨bt, 0, none⟩), .pointer (some ⟨bo, 0, none⟩)] w fun e w' => e = .returned (.bool (accM S x h n c)) ∧ Ext w w' := by
  obtain ⟨xs, hxs⟩ : ∃ xs, x % S = xs := ⟨_, rfl⟩
  obtain ⟨ns, hns⟩ : ∃ ns, n % S = ns := ⟨_, rfl⟩
  have hset : ∀ w', Calls Try.prog 29 #[.agg #[.int .i64 S, .int .i64 W, .int .i64 L], .int .i64 n] w' fun e w'' => e = .returned (.int .i64 ns) ∧ Ext w' w'' := fun w' => by
    have := set_yes g n hn w'
    rwa [hns] at this
  have hm : Hid (accM S x h n c = (!decide (n = x) && (decide (ns = xs) && decide (c < h)))) := by
    show accM S x h n c = _
    unfold accM
    rw [hxs, hns]
  rw [hxs] at k3
  clear hxs hns hn
  by_cases h1 : n = x
  · have h2 : (n != x) = false := by simpa using h1
    have hres : Hid (accM S x h n c = false) := by show accM S x h n c = false; rw [hm.out]; simp [h1]
    clear h1
    go_enter Try.func47, Try.ntmps47
    go_wp2
    refine wp_region_m (by kernel_rfl) ?_
    repeat (
      refine wpQuiet_step (fun K hK => ?_)
      go_simp
      first
        | (refine hK _ ?_; clear hK K)
        | (refine ⟨_, fun w' hw' => rfl, hK _ ?_⟩; clear hK K)
        | (apply Exists.intro
           refine ⟨fun w' hw' => ?_, hK _ ?_⟩
           (first
             | (go_at_call 29; refine Calls.mono (hset w') ?_; rintro e w'' ⟨rfl, hx⟩; exact ⟨rfl, hw'.trans hx⟩)
             | (obtain ⟨q0, q1⟩ := (k1.ext hw').c1; obtain ⟨r0, r1, r2, r3⟩ := (k2.ext hw').c4; obtain ⟨s0, s1⟩ := (k3.ext hw').c1; obtain ⟨t0, t1⟩ := (k4.ext hw').c1; go_simp; rfl))
           clear hK K))
    refine wpQuiet_nil ?_
    intro w7 hb7
    go_wp2
    go_ret
    exact ⟨by rw [hres.out]; rfl, hb7⟩
  · have h2 : (n != x) = true := by simpa using h1
    by_cases h3 : ns = xs
    · have h4 : (ns == xs) = true := by simpa using h3
      have hres : Hid (accM S x h n c = decide (c < h)) := by show accM S x h n c = _; rw [hm.out]; simp [h1, h3]
      clear h1 h3
      go_enter Try.func47, Try.ntmps47
      go_wp2
      refine wp_region_m (by kernel_rfl) ?_
      repeat (
        refine wpQuiet_step (fun K hK => ?_)
        go_simp
        first
          | (refine hK _ ?_; clear hK K)
          | (refine ⟨_, fun w' hw' => rfl, hK _ ?_⟩; clear hK K)
          | (apply Exists.intro
             refine ⟨fun w' hw' => ?_, hK _ ?_⟩
             (first
               | (go_at_call 29; refine Calls.mono (hset w') ?_; rintro e w'' ⟨rfl, hx⟩; exact ⟨rfl, hw'.trans hx⟩)
               | (obtain ⟨q0, q1⟩ := (k1.ext hw').c1; obtain ⟨r0, r1, r2, r3⟩ := (k2.ext hw').c4; obtain ⟨s0, s1⟩ := (k3.ext hw').c1; obtain ⟨t0, t1⟩ := (k4.ext hw').c1; go_simp; rfl))
             clear hK K))
      refine wpQuiet_nil ?_
      intro w7 hb7
      go_wp2
      go_ret
      exact ⟨by rw [hres.out]; rfl, hb7⟩
    · have h4 : (ns == xs) = false := by simpa using h3
      have hres : Hid (accM S x h n c = false) := by show accM S x h n c = _; rw [hm.out]; simp [h1, h3]
      clear h1 h3
      go_enter Try.func47, Try.ntmps47
      go_wp2
      refine wp_region_m (by kernel_rfl) ?_
      repeat (
        refine wpQuiet_step (fun K hK => ?_)
        go_simp
        first
          | (refine hK _ ?_; clear hK K)
          | (refine ⟨_, fun w' hw' => rfl, hK _ ?_⟩; clear hK K)
          | (apply Exists.intro
             refine ⟨fun w' hw' => ?_, hK _ ?_⟩
             (first
               | (go_at_call 29; refine Calls.mono (hset w') ?_; rintro e w'' ⟨rfl, hx⟩; exact ⟨rfl, hw'.trans hx⟩)
               | (obtain ⟨q0, q1⟩ := (k1.ext hw').c1; obtain ⟨r0, r1, r2, r3⟩ := (k2.ext hw').c4; obtain ⟨s0, s1⟩ := (k3.ext hw').c1; obtain ⟨t0, t1⟩ := (k4.ext hw').c1; go_simp; rfl))
             clear hK K))
      refine wpQuiet_nil ?_
      intro w7 hb7
      go_wp2
      go_ret
      exact ⟨by rw [hres.out]; rfl, hb7⟩

set_option maxHeartbeats 1000000 in
theorem clo_rng {S W L : Int} (g : Geo S W L) (n c lo hi : Int) (hn : 0 ≤ n) (hn2 : n ≤ 9223372036854775807) (hlo : 0 ≤ lo) (hlo2 : lo ≤ 1000000) (hhi : 0 ≤ hi) (hhi2 : hi ≤ 1000000) (bl bs bh : Nat) (p : Option Nat) (w : World) (k1 : Blk w bl (.cells #[.int .i64 lo] 3)) (k2 : Blk w bs (.cells #[.int .i64 S, .int .i64 W, .int .i64 L, .map p] 28))
    (k3 : Blk w bh (.cells #[.int .i64 hi] 3)) :
    Calls Try.prog 51 #[.int .i64 n, .int .i64 c, .pointer (some ⟨bl, 0, none⟩), .pointer (some ⟨bs, 0, none⟩), .pointer (some ⟨bh, 0, none⟩)] w fun e w' => e = .returned (.bool (rngM S lo hi n c)) ∧ Ext w w' := by
  have hs1 := g.s1
  have hs6 := g.s64
  have hs0 : (S == 0) = false := by simp; omega
  have hm : Hid (rngM S lo hi n c = decide ((n - lo).tmod S % S ≤ hi - lo)) := by
    show rngM S lo hi n c = _
    unfold rngM
    congr 2
    have h1 := Int.tmod_add_mul_tdiv (n - lo) S
    conv => lhs; rw [← h1]
    rw [Int.add_mul_emod_self_left]
  have h2 := Int.tmod_lt_of_pos (n - lo) (show 0 < S by omega)
  have h3 : -S < (n - lo).tmod S := Int.lt_tmod_of_pos _ (by omega)
  obtain ⟨d, hd⟩ : ∃ d, (n - lo).tmod S = d := ⟨_, rfl⟩
  rw [hd] at h2 h3 hm
  go_enter Try.func51, Try.ntmps51
  go_wp2
  obtain ⟨q0, q1⟩ := k1.c1
  obtain ⟨r0, r1, r2, r3⟩ := k2.c4
  obtain ⟨s0, s1⟩ := k3.c1
  have hS0 : S ≠ 0 := by omega
  go_region
  go_wp2
  go_ret
  exact ⟨by rw [hm.out]; rfl, (by repeat (first | (with_reducible assumption) | ((with_reducible refine Ext.set1 ?_ ?_); (focus omega)) | (with_reducible refine Ext.alloc ?_ _) | (with_reducible exact Ext.refl _) | (with_reducible refine Ext.drew ?_) | (refine Ext.trans ?_ (by with_reducible assumption))))⟩
end Go.Proofs.Ytaekkfgggmighaa
