/- The contracts of cache.New, Age, Probe, Lines. -/
import Derived.Test.YtdbgnniedcibeaaCacheC
import Derived.Test.YtdbgnniedcibeaaRows2
import Derived.Deep.OwnRows
namespace Go.Proofs.Ytdbgnniedcibeaa
open Go.RowKit
set_option linter.unusedVariables false

theorem Blk.drew' {w : World} {B : Nat} {o : Obj} (h : Blk w B o) : Blk w.drew B o := h
theorem madeCells_one (z : Value) (n : Nat) : madeCells #[z] n = (List.replicate n z).toArray := by
  refine Array.ext_getElem? fun i => ?_
  by_cases h : i < n
  · simp [madeCells, h, Nat.mod_one]
  · simp [madeCells, h]

theorem CaP.fresh {w : World} {base q g : Nat} {S W L : Int} (hs : 0 ≤ S) (hq : base ≤ q) (hg : base ≤ g) (kq : Blk w q (cachO S W L g)) (kg : Blk w g (.cells (List.replicate S.toNat (Value.slice none 0 0)).toArray 29)) :
    CaB w base q S W L (fun k => k = g) (List.replicate S.toNat []) := by
  refine ⟨g, _, hq, kq, kg, rfl, by simp, by simp, ?_, ?_, ?_⟩
  · intro i v r hv hr
    rw [List.getElem?_replicate] at hv hr
    split at hv
    · rename_i hi
      rw [if_pos hi] at hr
      cases hv; cases hr
      exact ⟨RowB.nil _ _, fun k hk => by cases hk⟩
    · cases hv
  · intro i j k v v' hv hv' hk hk'
    rw [List.getElem?_replicate] at hv
    split at hv
    · cases hv; cases hk
    · cases hv
  · rintro k rfl
    exact ⟨hg, kg.lt, _, _, kg, .inr rfl⟩

set_option maxHeartbeats 1000000 in
theorem cache_new {S W L : Int} (g : Geo S W L) (w : World) :
    Calls Try.prog 25 #[.agg #[.int .i64 S, .int .i64 W, .int .i64 L]] w fun e w' => ∃ q F, e = .returned (.tuple #[.pointer (some ⟨q, 0, none⟩), .int .i64 0]) ∧ CaB w' w.heap.size q S W L F (List.replicate S.toNat []) ∧ Ext w w' := by
  have hs1 := g.s1
  have hs64 := g.s64
  obtain ⟨n, rfl⟩ : ∃ n : Nat, S = n := ⟨S.toNat, by omega⟩
  have hmk := run_make_row' (P := Try.prog) 62 29 (.slice none 0 0) 24 Try.underlying62 (by kernel_rfl) rfl .i64 .i64 n (by omega) (by omega)
  go_enter Try.func25, Try.ntmps25
  go_wp2_with (first
    | (go_at_call 17; refine Calls.mono (valid_yes g _) ?_; rintro e w1 ⟨rfl, hb1⟩; obtain ⟨a0, a1, a2⟩ := Blk.c3 (w := w1) (B := w.heap.size) (by repeat (first | (with_reducible assumption) | ((with_reducible refine Blk.new ?_); (first | (focus rfl) | (focus (simp; done)) | (focus omega))) | ((with_reducible refine Blk.set1 ?_ ?_); (focus omega)) | (with_reducible refine Blk.alloc ?_) | (refine Blk.ext ?_ (by with_reducible assumption)))); have hq : w.heap.size < w1.heap.size := (by have := hb1.size; simp at this; omega)))
  go_region
  all_goals
    go_wp2
    refine bodyPost_ret (v := .tuple #[.pointer (some ⟨w1.heap.size + 1, 0, none⟩), .int .i64 0]) ?_ rfl ⟨_, _, rfl, CaP.fresh (g := w1.heap.size) (by omega) ?_ ?_ ?_ ?_, ?_⟩
  · simp [results, Try.results25, go_sem]
  · omega
  · omega
  · exact Blk.drew' (Blk.new (by simp))
  · rw [Int.toNat_natCast, ← madeCells_one]
    exact Blk.drew' (Blk.alloc (Blk.new rfl))
  · exact Ext.drew (by repeat (first | ((with_reducible refine Ext.set1 ?_ ?_); (first | (focus (simp; done)) | (focus (simp; omega)) | (focus omega))) | (with_reducible refine Ext.alloc ?_ _) | (with_reducible exact Ext.refl _) | (refine Ext.trans ?_ (by with_reducible assumption))))

/-- Where the line x stands in its row. -/
def cAge (S : Int) (rows : List (List Int)) (x : Int) : Int := Lib.idxOf (rows.getD (x % S).toNat []) x
set_option maxHeartbeats 1000000 in
theorem cache_age {w : World} {base q : Nat} {S W L : Int} {F : Nat → Prop} {rows : List (List Int)} (g : Geo S W L) (h : CaB w base q S W L F rows) (hr : Rows S W rows) (y : Int) (hy0 : 0 ≤ y) :
    Calls Try.prog 40 #[.pointer (some ⟨q, 0, none⟩), .int .i64 y] w fun e w' => e = .returned (.int .i64 (cAge S rows y)) ∧ Ext w w' := by
  obtain ⟨gb, vs, h⟩ := h
  have hs1 := g.s1
  have hw8 := g.w8
  obtain ⟨m, rfl⟩ : ∃ m : Nat, S = m := ⟨S.toNat, by omega⟩
  have hm1 := Int.emod_nonneg y (show (m : Int) ≠ 0 by omega)
  obtain ⟨i, hi⟩ : ∃ i : Nat, y % (m : Int) = i := ⟨(y % (m : Int)).toNat, by omega⟩
  unfold cAge
  rw [hi, Int.toNat_natCast]
  have him : i < m := by have := Int.emod_lt_of_pos y (show 0 < (m : Int) by omega); omega
  obtain ⟨v, hv, hrow, hvF, hvg⟩ := h.at_ (i := i) (by omega)
  have hle := hr.short i
  obtain ⟨r, hrr⟩ : ∃ r, rows.getD i [] = r := ⟨_, rfl⟩
  rw [hrr] at hrow hle ⊢
  obtain ⟨A, c, rfl, hrc⟩ := hrow.slice
  have kq := h.cells m
  have kg := h.kg
  go_enter Try.func40, Try.ntmps40
  go_wp2
  refine wp_region_e (by kernel_rfl) ?_
  repeat (
    refine wpQuiet_step (fun K hK => ?_)
    go_simp
    first
      | (refine hK _ ?_; clear hK K)
      | (refine ⟨_, fun w' hw' => rfl, hK _ ?_⟩; clear hK K)
      | (apply Exists.intro
         refine ⟨fun w' hw' => ?_, hK _ ?_⟩
         (first
           | (go_at_call 32; refine Calls.mono (set_at g y hy0 hi w') ?_; rintro e w'' ⟨rfl, hx⟩; exact ⟨rfl, hw'.trans hx⟩)
           | (go_at_call 37; refine Calls.mono (row_index (hrow.ext hw') y (by omega)) ?_; rintro e w'' ⟨rfl, rfl⟩; exact ⟨rfl, hw'⟩)
           | (obtain ⟨q0, q1, q2, q3⟩ := (kq.ext hw').c4; obtain ⟨r0, r1⟩ := vs_cell (kg.ext hw') hv; go_simp; rfl))
         clear hK K))
  refine wpQuiet_nil ?_
  intro w7 hb7
  go_wp2
  go_ret
  exact ⟨rfl, hb7⟩

set_option maxHeartbeats 1000000 in
theorem cache_probe {w : World} {base q : Nat} {S W L : Int} {F : Nat → Prop} {rows : List (List Int)} (g : Geo S W L) (h : CaB w base q S W L F rows) (hr : Rows S W rows) (x : Int) (hx : 0 ≤ x) (hx2 : x ≤ 2000000) :
    Calls Try.prog 29 #[.pointer (some ⟨q, 0, none⟩), .int .i64 x] w fun e w' => e = .returned (.bool (decide (0 ≤ cAge S rows (x / L)))) ∧ Ext w w' := by
  have hl1 := g.l1
  have hy0 : 0 ≤ x / L := Int.ediv_nonneg hx (by omega)
  obtain ⟨y, hy⟩ : ∃ y, x / L = y := ⟨_, rfl⟩
  rw [hy] at hy0 ⊢
  have h0 := h
  obtain ⟨gb, vs, h1⟩ := h0
  obtain ⟨a0, a1, a2, a3⟩ := h1.kq.c4
  clear h1
  have hage : ∀ w' : World, Ext w w' → Calls Try.prog 40 #[.pointer (some ⟨q, 0, none⟩), .int .i64 y] w' fun e w'' => e = .returned (.int .i64 (cAge S rows y)) ∧ Ext w' w'' := fun w' hw' => cache_age g (h.ext hw') hr y hy0
  generalize cAge S rows y = a at hage ⊢
  clear h hr
  go_enter Try.func29, Try.ntmps29
  go_wp2_with (first
    | (go_at_call 40; refine Calls.mono (hage _ hb1) ?_; rintro e w2 ⟨rfl, hb2⟩)
    | (go_at_call 36; refine Calls.mono (line_yes g x hx hx2 _) ?_; rintro e w1 ⟨rfl, hb1⟩; rw [hy]))
  go_ret
  exact ⟨rfl, (by repeat (first | ((with_reducible refine Ext.set1 ?_ ?_); (first | (focus (simp; done)) | (focus (simp; omega)) | (focus omega))) | (with_reducible refine Ext.alloc ?_ _) | (with_reducible exact Ext.refl _) | (refine Ext.trans ?_ (by with_reducible assumption))))⟩
end Go.Proofs.Ytdbgnniedcibeaa
