/- The contract of (must.State).AccessRange. -/
import Derived.Test.YtaekkfgggmighaaMu4
namespace Go.Proofs.Ytaekkfgggmighaa
open Go.RowKit Go.Maps
set_option linter.unusedVariables false

theorem older_rng' {S W L : Int} (g : Geo S W L) (lo hi : Int) (hlo : 0 ≤ lo) (hlo2 : lo ≤ 1000000) (hhi : 0 ≤ hi) (hhi2 : hi ≤ 1000000) (bl bs bt : Nat) (p : Option Nat) (n : Nat) (f : FM) (w : World) (h : MB w W n f p) (hn : n ≤ 1000000)
    (k1 : Blk w bl (.cells #[.int .i64 lo] 3)) (k2 : Blk w bs (.cells #[.int .i64 S, .int .i64 W, .int .i64 L, .map p] 28)) (k3 : Blk w bt (.cells #[.int .i64 hi] 3)) :
    Calls Try.prog 46 #[.agg #[.int .i64 S, .int .i64 W, .int .i64 L, .map p], .func (.func 51) #[] #[.pointer (some ⟨bl, 0, none⟩), .pointer (some ⟨bs, 0, none⟩), .pointer (some ⟨bt, 0, none⟩)]] w fun e w' => ∃ b', (e = .returned (.agg #[.int .i64 S, .int .i64 W, .int .i64 L, .map (some b')]) ∧ w.heap.size ≤ b') ∧ IMap w' b' n (mUp W (rngM S lo hi) f) ∧ Ext w w' :=
  older_rng S W L p n f w h hn g.w8 bl bs bt (rngM S lo hi) fun wr y c he hy => clo_rng g y c lo hi (h.2 y c hy).1 (h.1.dom hy).1.lo.2 hlo hlo2 hhi hhi2 bl bs bt p wr (k1.ext he) (k2.ext he) (k3.ext he)

/-- An access of one of the lines lo to hi. -/
def uRange (S W : Int) (f : FM) (lo hi : Int) : FM := if hi < max lo 0 then f else if max lo 0 = hi then uAcc S W f hi else mUp W (rngM S (max lo 0) hi) f
theorem fit_uRange {S W : Int} {f : FM} (hf : Fit W f) (hw : 1 ≤ W) {lo hi : Int} : Fit W (uRange S W f lo hi) := by
  unfold uRange
  split
  · exact hf
  · split
    · exact fit_uAcc hf hw (by omega)
    · exact fit_mUp hf

set_option maxHeartbeats 400000 in
theorem must_range_zero (lo hi : Int) (p : Option Nat) (w : World) :
    Calls Try.prog 32 #[.agg #[.int .i64 0, .int .i64 0, .int .i64 0, .map p], .int .i64 lo, .int .i64 hi] w fun e w' => e = .returned (.agg #[.int .i64 0, .int .i64 0, .int .i64 0, .map p]) ∧ Ext w w' := by
  go_enter Try.func32, Try.ntmps32
  go_wp2_with (go_at_call 41; refine Calls.mono (must_zero_yes p _) ?_; rintro e w1 ⟨rfl, hb1⟩; have hz1 := hb1.size; simp at hz1; have q1 : w.heap.size < w1.heap.size := (by omega); have s1 : w.heap.size + 1 + 1 + 1 < w1.heap.size := (by omega); obtain ⟨a10, a11, a12, a13⟩ := Blk.c4 (w := w1) (B := w.heap.size) (by repeat (first | (with_reducible assumption) | ((with_reducible refine Blk.new ?_); (first | (focus rfl) | (focus (simp; done)) | (focus omega))) | (with_reducible apply Blk.put4) | (with_reducible apply Blk.put1) | ((with_reducible refine Blk.far4 ?_ ?_); (focus omega)) | ((with_reducible refine Blk.set1 ?_ ?_); (focus omega)) | (with_reducible refine Blk.alloc ?_) | (with_reducible refine Blk.drew ?_) | (refine Blk.ext ?_ (by with_reducible assumption)))); have k2 : Blk w1 (w.heap.size + 1 + 1 + 1) (.cells #[.int .i64 0, .int .i64 0, .int .i64 0, .map none] 28) := (by exact (by repeat (first | (with_reducible assumption) | ((with_reducible refine Blk.new ?_); (first | (focus rfl) | (focus (simp; done)) | (focus omega))) | (with_reducible apply Blk.put4) | (with_reducible apply Blk.put1) | ((with_reducible refine Blk.far4 ?_ ?_); (focus omega)) | ((with_reducible refine Blk.set1 ?_ ?_); (focus omega)) | (with_reducible refine Blk.alloc ?_) | (with_reducible refine Blk.drew ?_) | (refine Blk.ext ?_ (by with_reducible assumption))))); obtain ⟨e0, e1, e2, e3⟩ := k2.c4; obtain ⟨f0, f1, f2, f3⟩ := k2.f4)
  refine bodyPost_ret (v := .agg #[.int .i64 0, .int .i64 0, .int .i64 0, .map p]) ?_ rfl ⟨rfl, (by repeat (first | ((with_reducible refine Ext.set1 ?_ ?_); (first | (focus (simp; done)) | (focus (simp; omega)) | (focus omega))) | (with_reducible refine Ext.alloc ?_ _) | (with_reducible exact Ext.refl _) | (refine Ext.trans ?_ (by with_reducible assumption))))⟩
  simp [results, Try.results32, go_sem, e0, e1, e2, e3]

set_option maxHeartbeats 400000 in
theorem must_range_empty {S W L : Int} (g : Geo S W L) (lo hi m : Int) (hm : max lo 0 = m) (hi1 : hi < m) (p : Option Nat) (n : Nat) (f : FM) (w : World) (h : MB w W n f p) :
    Calls Try.prog 32 #[.agg #[.int .i64 S, .int .i64 W, .int .i64 L, .map p], .int .i64 lo, .int .i64 hi] w (GivesM S W L n f w) := by
  go_enter Try.func32, Try.ntmps32
  go_wp2_with (first
    | (go_at_call 41; refine Calls.mono (must_zero_no g p _) ?_; rintro e w1 ⟨rfl, hb1⟩; have hz1 := hb1.size; simp at hz1
       have q1 : w.heap.size < w1.heap.size := (by omega); have q1b : w.heap.size + 1 < w1.heap.size := (by omega); have q1c : w.heap.size + 1 + 1 < w1.heap.size := (by omega); have q1d : w.heap.size + 1 + 1 + 1 < w1.heap.size := (by omega)
       have ks : Blk w1 w.heap.size (.cells #[.int .i64 S, .int .i64 W, .int .i64 L, .map p] 28) := (by exact (by repeat (first | (with_reducible assumption) | ((with_reducible refine Blk.new ?_); (first | (focus rfl) | (focus (simp; done)) | (focus omega))) | (with_reducible apply Blk.put4) | (with_reducible apply Blk.put1) | ((with_reducible refine Blk.far4 ?_ ?_); (focus omega)) | ((with_reducible refine Blk.set1 ?_ ?_); (focus omega)) | (with_reducible refine Blk.alloc ?_) | (with_reducible refine Blk.drew ?_) | (refine Blk.ext ?_ (by with_reducible assumption)))))
       have kl : Blk w1 (w.heap.size + 1) (.cells #[.int .i64 m] 3) := (by exact (by repeat (first | (with_reducible assumption) | ((with_reducible refine Blk.new ?_); (first | (focus rfl) | (focus (simp; done)) | (focus omega))) | (with_reducible apply Blk.put4) | (with_reducible apply Blk.put1) | ((with_reducible refine Blk.far4 ?_ ?_); (focus omega)) | ((with_reducible refine Blk.set1 ?_ ?_); (focus omega)) | (with_reducible refine Blk.alloc ?_) | (with_reducible refine Blk.drew ?_) | (refine Blk.ext ?_ (by with_reducible assumption)))))
       have kh : Blk w1 (w.heap.size + 1 + 1) (.cells #[.int .i64 hi] 3) := (by exact (by repeat (first | (with_reducible assumption) | ((with_reducible refine Blk.new ?_); (first | (focus rfl) | (focus (simp; done)) | (focus omega))) | (with_reducible apply Blk.put4) | (with_reducible apply Blk.put1) | ((with_reducible refine Blk.far4 ?_ ?_); (focus omega)) | ((with_reducible refine Blk.set1 ?_ ?_); (focus omega)) | (with_reducible refine Blk.alloc ?_) | (with_reducible refine Blk.drew ?_) | (refine Blk.ext ?_ (by with_reducible assumption)))))
       have kr : Blk w1 (w.heap.size + 1 + 1 + 1) (.cells #[.int .i64 0, .int .i64 0, .int .i64 0, .map none] 28) := (by exact (by repeat (first | (with_reducible assumption) | ((with_reducible refine Blk.new ?_); (first | (focus rfl) | (focus (simp; done)) | (focus omega))) | (with_reducible apply Blk.put4) | (with_reducible apply Blk.put1) | ((with_reducible refine Blk.far4 ?_ ?_); (focus omega)) | ((with_reducible refine Blk.set1 ?_ ?_); (focus omega)) | (with_reducible refine Blk.alloc ?_) | (with_reducible refine Blk.drew ?_) | (refine Blk.ext ?_ (by with_reducible assumption)))))
       have hx1 : Ext w w1 := (by exact (by repeat (first | ((with_reducible refine Ext.set1 ?_ ?_); (first | (focus (simp; done)) | (focus (simp; omega)) | (focus omega))) | (with_reducible refine Ext.alloc ?_ _) | (with_reducible exact Ext.refl _) | (refine Ext.trans ?_ (by with_reducible assumption)))))
       have hbb : MB w1 W n f p := h.ext hx1
       obtain ⟨a0, a1, a2, a3⟩ := ks.c4; obtain ⟨b0, b1⟩ := kl.c1; obtain ⟨c0, c1⟩ := kh.c1; obtain ⟨e0, e1, e2, e3⟩ := kr.c4; obtain ⟨f0, f1, f2, f3⟩ := kr.f4))
  refine bodyPost_ret (v := .agg #[.int .i64 S, .int .i64 W, .int .i64 L, .map p]) ?_ rfl ⟨p, rfl, (by repeat (first | (with_reducible assumption) | (with_reducible refine MB.set ?_) | (with_reducible refine MB.alloc ?_ _) | (refine MB.ext ?_ (by with_reducible assumption)))), (by repeat (first | ((with_reducible refine Ext.set1 ?_ ?_); (first | (focus (simp; done)) | (focus (simp; omega)) | (focus omega))) | (with_reducible refine Ext.alloc ?_ _) | (with_reducible exact Ext.refl _) | (refine Ext.trans ?_ (by with_reducible assumption))))⟩
  simp [results, Try.results32, go_sem, e0, e1, e2, e3]

set_option maxHeartbeats 400000 in
theorem must_range_one {S W L : Int} (g : Geo S W L) (lo hi : Int) (hm : max lo 0 = hi) (hh : hi ≤ 1000000) (p : Option Nat) (n : Nat) (f : FM) (w : World) (h : MB w W n f p) (hn : n ≤ 1000000) :
    Calls Try.prog 32 #[.agg #[.int .i64 S, .int .i64 W, .int .i64 L, .map p], .int .i64 lo, .int .i64 hi] w (GivesM S W L (n + 1) (uAcc S W f hi) w) := by
  have hi0 : 0 ≤ hi := by omega
  go_enter Try.func32, Try.ntmps32
  go_wp2_with (first
    | (go_at_call 27; refine Calls.mono (must_access g hi (by omega) (by omega) p n f _ (by repeat (first | (with_reducible assumption) | (with_reducible refine MB.set ?_) | (with_reducible refine MB.alloc ?_ _) | (refine MB.ext ?_ (by with_reducible assumption)))) hn) ?_; rintro e w2 ⟨p2, rfl, hm2, hb2⟩; have hz2 := hb2.size
       have q2 : w.heap.size + 1 + 1 + 1 < w2.heap.size := (by omega)
       have kr2 : Blk w2 (w.heap.size + 1 + 1 + 1) (.cells #[.int .i64 0, .int .i64 0, .int .i64 0, .map none] 28) := (by exact (by repeat (first | (with_reducible assumption) | ((with_reducible refine Blk.new ?_); (first | (focus rfl) | (focus (simp; done)) | (focus omega))) | (with_reducible apply Blk.put4) | (with_reducible apply Blk.put1) | ((with_reducible refine Blk.far4 ?_ ?_); (focus omega)) | ((with_reducible refine Blk.set1 ?_ ?_); (focus omega)) | (with_reducible refine Blk.alloc ?_) | (with_reducible refine Blk.drew ?_) | (refine Blk.ext ?_ (by with_reducible assumption)))))
       obtain ⟨e0, e1, e2, e3⟩ := kr2.c4; obtain ⟨f0, f1, f2, f3⟩ := kr2.f4)
    | (go_at_call 41; refine Calls.mono (must_zero_no g p _) ?_; rintro e w1 ⟨rfl, hb1⟩; have hz1 := hb1.size; simp at hz1
       have q1 : w.heap.size < w1.heap.size := (by omega); have q1b : w.heap.size + 1 < w1.heap.size := (by omega); have q1c : w.heap.size + 1 + 1 < w1.heap.size := (by omega); have q1d : w.heap.size + 1 + 1 + 1 < w1.heap.size := (by omega)
       have ks : Blk w1 w.heap.size (.cells #[.int .i64 S, .int .i64 W, .int .i64 L, .map p] 28) := (by exact (by repeat (first | (with_reducible assumption) | ((with_reducible refine Blk.new ?_); (first | (focus rfl) | (focus (simp; done)) | (focus omega))) | (with_reducible apply Blk.put4) | (with_reducible apply Blk.put1) | ((with_reducible refine Blk.far4 ?_ ?_); (focus omega)) | ((with_reducible refine Blk.set1 ?_ ?_); (focus omega)) | (with_reducible refine Blk.alloc ?_) | (with_reducible refine Blk.drew ?_) | (refine Blk.ext ?_ (by with_reducible assumption)))))
       have kl : Blk w1 (w.heap.size + 1) (.cells #[.int .i64 hi] 3) := (by exact (by repeat (first | (with_reducible assumption) | ((with_reducible refine Blk.new ?_); (first | (focus rfl) | (focus (simp; done)) | (focus omega))) | (with_reducible apply Blk.put4) | (with_reducible apply Blk.put1) | ((with_reducible refine Blk.far4 ?_ ?_); (focus omega)) | ((with_reducible refine Blk.set1 ?_ ?_); (focus omega)) | (with_reducible refine Blk.alloc ?_) | (with_reducible refine Blk.drew ?_) | (refine Blk.ext ?_ (by with_reducible assumption)))))
       have kh : Blk w1 (w.heap.size + 1 + 1) (.cells #[.int .i64 hi] 3) := (by exact (by repeat (first | (with_reducible assumption) | ((with_reducible refine Blk.new ?_); (first | (focus rfl) | (focus (simp; done)) | (focus omega))) | (with_reducible apply Blk.put4) | (with_reducible apply Blk.put1) | ((with_reducible refine Blk.far4 ?_ ?_); (focus omega)) | ((with_reducible refine Blk.set1 ?_ ?_); (focus omega)) | (with_reducible refine Blk.alloc ?_) | (with_reducible refine Blk.drew ?_) | (refine Blk.ext ?_ (by with_reducible assumption)))))
       have kr : Blk w1 (w.heap.size + 1 + 1 + 1) (.cells #[.int .i64 0, .int .i64 0, .int .i64 0, .map none] 28) := (by exact (by repeat (first | (with_reducible assumption) | ((with_reducible refine Blk.new ?_); (first | (focus rfl) | (focus (simp; done)) | (focus omega))) | (with_reducible apply Blk.put4) | (with_reducible apply Blk.put1) | ((with_reducible refine Blk.far4 ?_ ?_); (focus omega)) | ((with_reducible refine Blk.set1 ?_ ?_); (focus omega)) | (with_reducible refine Blk.alloc ?_) | (with_reducible refine Blk.drew ?_) | (refine Blk.ext ?_ (by with_reducible assumption)))))
       have hx1 : Ext w w1 := (by exact (by repeat (first | ((with_reducible refine Ext.set1 ?_ ?_); (first | (focus (simp; done)) | (focus (simp; omega)) | (focus omega))) | (with_reducible refine Ext.alloc ?_ _) | (with_reducible exact Ext.refl _) | (refine Ext.trans ?_ (by with_reducible assumption)))))
       have hbb : MB w1 W n f p := h.ext hx1
       obtain ⟨a0, a1, a2, a3⟩ := ks.c4; obtain ⟨b0, b1⟩ := kl.c1; obtain ⟨c0, c1⟩ := kh.c1; obtain ⟨e0, e1, e2, e3⟩ := kr.c4; obtain ⟨f0, f1, f2, f3⟩ := kr.f4))
  refine bodyPost_ret (v := .agg #[.int .i64 S, .int .i64 W, .int .i64 L, .map p2]) ?_ rfl ⟨p2, rfl, ?_, (by repeat (first | ((with_reducible refine Ext.set1 ?_ ?_); (first | (focus (simp; done)) | (focus (simp; omega)) | (focus omega))) | (with_reducible refine Ext.alloc ?_ _) | (with_reducible exact Ext.refl _) | (refine Ext.trans ?_ (by with_reducible assumption))))⟩
  · simp [results, Try.results32, go_sem, e0, e1, e2, e3]
  · exact (by repeat (first | (with_reducible assumption) | (with_reducible refine MB.set ?_) | (with_reducible refine MB.alloc ?_ _) | (refine MB.ext ?_ (by with_reducible assumption))))

set_option maxHeartbeats 400000 in
theorem must_range_many {S W L : Int} (g : Geo S W L) (lo hi m : Int) (hm : max lo 0 = m) (hi1 : m < hi) (hh : hi ≤ 1000000) (p : Option Nat) (n : Nat) (f : FM) (w : World) (h : MB w W n f p) (hn : n ≤ 1000000) :
    Calls Try.prog 32 #[.agg #[.int .i64 S, .int .i64 W, .int .i64 L, .map p], .int .i64 lo, .int .i64 hi] w (GivesM S W L n (mUp W (rngM S m hi) f) w) := by
  have hi2 : (m == hi) = false := by simp; omega
  have hi3 : ¬ hi < m := by omega
  have hmf : ∀ (fn : Fn) (first cap : Array Value) (w : World), (Instr.makeFunc fn first cap).run Try.prog w = .ok (.func fn first cap) w := fun _ _ _ _ => rfl
  have hfit := fit_mUp (m := rngM S m hi) h.2
  go_enter Try.func32, Try.ntmps32
  go_wp2_with (first
    | (go_at_call 46; refine Calls.mono (older_rng' g m hi (by omega) (by omega) (by omega) (by omega) (w.heap.size + 1) w.heap.size (w.heap.size + 1 + 1) p n f _ (by repeat (first | (with_reducible assumption) | (with_reducible refine MB.set ?_) | (with_reducible refine MB.alloc ?_ _) | (refine MB.ext ?_ (by with_reducible assumption)))) hn (by repeat (first | (with_reducible assumption) | ((with_reducible refine Blk.new ?_); (first | (focus rfl) | (focus (simp; done)) | (focus omega))) | (with_reducible apply Blk.put4) | (with_reducible apply Blk.put1) | ((with_reducible refine Blk.far4 ?_ ?_); (focus omega)) | ((with_reducible refine Blk.set1 ?_ ?_); (focus omega)) | (with_reducible refine Blk.alloc ?_) | (with_reducible refine Blk.drew ?_) | (refine Blk.ext ?_ (by with_reducible assumption)))) (by repeat (first | (with_reducible assumption) | ((with_reducible refine Blk.new ?_); (first | (focus rfl) | (focus (simp; done)) | (focus omega))) | (with_reducible apply Blk.put4) | (with_reducible apply Blk.put1) | ((with_reducible refine Blk.far4 ?_ ?_); (focus omega)) | ((with_reducible refine Blk.set1 ?_ ?_); (focus omega)) | (with_reducible refine Blk.alloc ?_) | (with_reducible refine Blk.drew ?_) | (refine Blk.ext ?_ (by with_reducible assumption)))) (by repeat (first | (with_reducible assumption) | ((with_reducible refine Blk.new ?_); (first | (focus rfl) | (focus (simp; done)) | (focus omega))) | (with_reducible apply Blk.put4) | (with_reducible apply Blk.put1) | ((with_reducible refine Blk.far4 ?_ ?_); (focus omega)) | ((with_reducible refine Blk.set1 ?_ ?_); (focus omega)) | (with_reducible refine Blk.alloc ?_) | (with_reducible refine Blk.drew ?_) | (refine Blk.ext ?_ (by with_reducible assumption))))) ?_; rintro e w2 ⟨bo, ⟨rfl, hbo⟩, him2, hb2⟩; have hz2 := hb2.size
       have q2 : w.heap.size + 1 + 1 + 1 < w2.heap.size := (by omega)
       have kr2 : Blk w2 (w.heap.size + 1 + 1 + 1) (.cells #[.int .i64 0, .int .i64 0, .int .i64 0, .map none] 28) := (by exact (by repeat (first | (with_reducible assumption) | ((with_reducible refine Blk.new ?_); (first | (focus rfl) | (focus (simp; done)) | (focus omega))) | (with_reducible apply Blk.put4) | (with_reducible apply Blk.put1) | ((with_reducible refine Blk.far4 ?_ ?_); (focus omega)) | ((with_reducible refine Blk.set1 ?_ ?_); (focus omega)) | (with_reducible refine Blk.alloc ?_) | (with_reducible refine Blk.drew ?_) | (refine Blk.ext ?_ (by with_reducible assumption)))))
       obtain ⟨e0, e1, e2, e3⟩ := kr2.c4; obtain ⟨f0, f1, f2, f3⟩ := kr2.f4)
    | (go_at_call 41; refine Calls.mono (must_zero_no g p _) ?_; rintro e w1 ⟨rfl, hb1⟩; have hz1 := hb1.size; simp at hz1
       have q1 : w.heap.size < w1.heap.size := (by omega); have q1b : w.heap.size + 1 < w1.heap.size := (by omega); have q1c : w.heap.size + 1 + 1 < w1.heap.size := (by omega); have q1d : w.heap.size + 1 + 1 + 1 < w1.heap.size := (by omega)
       have ks : Blk w1 w.heap.size (.cells #[.int .i64 S, .int .i64 W, .int .i64 L, .map p] 28) := (by exact (by repeat (first | (with_reducible assumption) | ((with_reducible refine Blk.new ?_); (first | (focus rfl) | (focus (simp; done)) | (focus omega))) | (with_reducible apply Blk.put4) | (with_reducible apply Blk.put1) | ((with_reducible refine Blk.far4 ?_ ?_); (focus omega)) | ((with_reducible refine Blk.set1 ?_ ?_); (focus omega)) | (with_reducible refine Blk.alloc ?_) | (with_reducible refine Blk.drew ?_) | (refine Blk.ext ?_ (by with_reducible assumption)))))
       have kl : Blk w1 (w.heap.size + 1) (.cells #[.int .i64 m] 3) := (by exact (by repeat (first | (with_reducible assumption) | ((with_reducible refine Blk.new ?_); (first | (focus rfl) | (focus (simp; done)) | (focus omega))) | (with_reducible apply Blk.put4) | (with_reducible apply Blk.put1) | ((with_reducible refine Blk.far4 ?_ ?_); (focus omega)) | ((with_reducible refine Blk.set1 ?_ ?_); (focus omega)) | (with_reducible refine Blk.alloc ?_) | (with_reducible refine Blk.drew ?_) | (refine Blk.ext ?_ (by with_reducible assumption)))))
       have kh : Blk w1 (w.heap.size + 1 + 1) (.cells #[.int .i64 hi] 3) := (by exact (by repeat (first | (with_reducible assumption) | ((with_reducible refine Blk.new ?_); (first | (focus rfl) | (focus (simp; done)) | (focus omega))) | (with_reducible apply Blk.put4) | (with_reducible apply Blk.put1) | ((with_reducible refine Blk.far4 ?_ ?_); (focus omega)) | ((with_reducible refine Blk.set1 ?_ ?_); (focus omega)) | (with_reducible refine Blk.alloc ?_) | (with_reducible refine Blk.drew ?_) | (refine Blk.ext ?_ (by with_reducible assumption)))))
       have kr : Blk w1 (w.heap.size + 1 + 1 + 1) (.cells #[.int .i64 0, .int .i64 0, .int .i64 0, .map none] 28) := (by exact (by repeat (first | (with_reducible assumption) | ((with_reducible refine Blk.new ?_); (first | (focus rfl) | (focus (simp; done)) | (focus omega))) | (with_reducible apply Blk.put4) | (with_reducible apply Blk.put1) | ((with_reducible refine Blk.far4 ?_ ?_); (focus omega)) | ((with_reducible refine Blk.set1 ?_ ?_); (focus omega)) | (with_reducible refine Blk.alloc ?_) | (with_reducible refine Blk.drew ?_) | (refine Blk.ext ?_ (by with_reducible assumption)))))
       have hx1 : Ext w w1 := (by exact (by repeat (first | ((with_reducible refine Ext.set1 ?_ ?_); (first | (focus (simp; done)) | (focus (simp; omega)) | (focus omega))) | (with_reducible refine Ext.alloc ?_ _) | (with_reducible exact Ext.refl _) | (refine Ext.trans ?_ (by with_reducible assumption)))))
       have hbb : MB w1 W n f p := h.ext hx1
       obtain ⟨a0, a1, a2, a3⟩ := ks.c4; obtain ⟨b0, b1⟩ := kl.c1; obtain ⟨c0, c1⟩ := kh.c1; obtain ⟨e0, e1, e2, e3⟩ := kr.c4; obtain ⟨f0, f1, f2, f3⟩ := kr.f4))
  refine bodyPost_ret (v := .agg #[.int .i64 S, .int .i64 W, .int .i64 L, .map (some bo)]) ?_ rfl ⟨some bo, rfl, ⟨.inr ⟨bo, rfl, ?_⟩, hfit⟩, (by repeat (first | ((with_reducible refine Ext.set1 ?_ ?_); (first | (focus (simp; done)) | (focus (simp; omega)) | (focus omega))) | (with_reducible refine Ext.alloc ?_ _) | (with_reducible exact Ext.refl _) | (refine Ext.trans ?_ (by with_reducible assumption))))⟩
  · simp [results, Try.results32, go_sem, e0, e1, e2, e3]
  · exact (by repeat (first | (with_reducible assumption) | (with_reducible refine IMap.set ?_) | (with_reducible refine IMap.alloc ?_ _) | (refine IMap.ext ?_ (by with_reducible assumption))))

theorem GivesM.mono {S W L : Int} {n m : Nat} {f : FM} {w w' : World} {e : Ending} (h : GivesM S W L n f w e w') (hn : n ≤ m) : GivesM S W L m f w e w' := by
  obtain ⟨p, h1, h2, h3⟩ := h
  exact ⟨p, h1, h2.mono hn, h3⟩
theorem must_range {S W L : Int} (g : Geo S W L) (lo hi : Int) (hh : hi ≤ 1000000) (p : Option Nat) (n : Nat) (f : FM) (w : World) (h : MB w W n f p) (hn : n ≤ 1000000) :
    Calls Try.prog 32 #[.agg #[.int .i64 S, .int .i64 W, .int .i64 L, .map p], .int .i64 lo, .int .i64 hi] w (GivesM S W L (n + 1) (uRange S W f lo hi) w) := by
  unfold uRange
  by_cases h1 : hi < max lo 0
  · rw [if_pos h1]
    exact (must_range_empty g lo hi _ rfl h1 p n f w h).mono fun e w' h => h.mono (by omega)
  rw [if_neg h1]
  by_cases h2 : max lo 0 = hi
  · rw [if_pos h2]
    exact must_range_one g lo hi h2 hh p n f w h hn
  rw [if_neg h2]
  exact (must_range_many g lo hi _ rfl (by omega) hh p n f w h hn).mono fun e w' h => h.mono (by omega)
end Go.Proofs.Ytaekkfgggmighaa
