/- The walk of ontimelaw30.MustZero. -/
import Derived.Test.YtaekkfgggmighaaOpenM
namespace Go.Proofs.Ytaekkfgggmighaa
open Go.RowKit Go.Maps Go.Proofs.YtaekkfgggmighaaW.PrintWords
set_option linter.unusedVariables false

set_option maxHeartbeats 400000 in
theorem must_descr_zero (p : Option Nat) (A : Option Addr) (n c : Nat) (w : World) :
    Calls Try.prog 18 #[.agg #[.int .i64 0, .int .i64 0, .int .i64 0, .map p], .slice A n c] w fun e w' => e = .returned (.bool false) ∧ Ext w w' := by
  go_enter Try.func18, Try.ntmps18
  go_wp2_with (go_at_call 41; refine Calls.mono (must_zero_yes p _) ?_; rintro e w1 ⟨rfl, hb1⟩)
  go_ret
  exact ⟨rfl, (by repeat (first | ((with_reducible refine Ext.set1 ?_ ?_); (first | (focus (simp; done)) | (focus (simp; omega)) | (focus omega))) | (with_reducible refine Ext.alloc ?_ _) | (with_reducible exact Ext.refl _) | (refine Ext.trans ?_ (by with_reducible assumption))))⟩
theorem dom_noF {K : List Int} (h : Dom noF K) : K = [] := h.unique ⟨List.Pairwise.nil, fun x => by simp [noF]⟩
theorem zero_lines (S W L : Int) (w : World) :
    Calls Try.prog 28 #[.agg #[.int .i64 S, .int .i64 W, .int .i64 L, .map none]] w fun e w' => e = .returned (.slice none 0 0) ∧ Ext w w' :=
  (must_lines S W L none 0 noF w (.inl ⟨rfl, fun _ => rfl⟩) (by omega)).mono fun e w' ⟨v, K, ⟨he, hd, _⟩, hh, hb⟩ => by
    have hK := dom_noF hd
    have := hh.2.2 hK
    exact ⟨by rw [he, this], hb⟩
theorem zero_equal (S W L : Int) (w : World) :
    Calls Try.prog 31 #[.agg #[.int .i64 S, .int .i64 W, .int .i64 L, .map none], .agg #[.int .i64 S, .int .i64 W, .int .i64 L, .map none]] w fun e w' => e = .returned (.bool true) ∧ Ext w w' :=
  (must_equal none none 0 0 noF noF w (.inl ⟨rfl, fun _ => rfl⟩) (.inl ⟨rfl, fun _ => rfl⟩)).mono fun e w' h => h.yes fun _ => rfl

set_option maxHeartbeats 1000000 in
theorem zero_walk (x y : Int) (A : Option Addr) (c : Nat) (ls : List (List Int)) (w : World) (hx : I64 x) (hy : I64 y) (hr : KL.C w A ls.length ls) (hc : ls.length ≤ c) (hw : ∀ l ∈ ls, ∀ x ∈ l, I64 x) :
    Calls Try.prog 8 #[.int .i64 x, .int .i64 y, .slice A ls.length c] w fun e w' => e = .returned (.bool true) ∧ Ext w w' := by
  clear hr hc hw
  obtain ⟨n, hn⟩ : ∃ n, ls.length = n := ⟨_, rfl⟩
  rw [hn]
  clear hn
  go_enter Try.func8, Try.ntmps8
  go_wp2_with (first
    | (go_at_call 25; refine Calls.mono (must_age 0 0 0 x none 0 noF _ (.inl ⟨rfl, fun _ => rfl⟩) hx 0 false rfl rfl) ?_; rintro e w2 ⟨rfl, hb2⟩)
    | (go_at_call 11; refine Calls.mono (awake_yes _) ?_; rintro e w1 ⟨rfl, hb1⟩))
  have kz : Blk w2 w1.heap.size zMust := (by repeat (first | (with_reducible assumption) | ((with_reducible refine Blk.new ?_); (first | (focus rfl) | (focus (simp; done)) | (focus omega))) | (with_reducible apply Blk.put4) | (with_reducible apply Blk.put1) | ((with_reducible refine Blk.far4 ?_ ?_); (focus omega)) | ((with_reducible refine Blk.set1 ?_ ?_); (focus omega)) | (with_reducible refine Blk.alloc ?_) | (with_reducible refine Blk.drew ?_) | (refine Blk.ext ?_ (by with_reducible assumption))))
  have hext : Ext w w2 := (by repeat (first | ((with_reducible refine Ext.set1 ?_ ?_); (first | (focus (simp; done)) | (focus (simp; omega)) | (focus omega))) | (with_reducible refine Ext.alloc ?_ _) | (with_reducible exact Ext.refl _) | (refine Ext.trans ?_ (by with_reducible assumption))))
  refine wp_region_m (by kernel_rfl) ?_
  repeat (
    refine wpQuiet_step (fun K hK => ?_)
    go_simp
    first
      | (refine hK _ ?_; clear hK K)
      | (refine ⟨_, fun w' hw' => rfl, hK _ ?_⟩; clear hK K)
      | (apply Exists.intro
         refine ⟨fun w' hw' => ?_, hK _ ?_⟩
         (first
           | (go_at_call 28; refine Calls.mono (zero_lines 0 0 0 w') ?_; rintro e w'' ⟨rfl, hx⟩; exact ⟨rfl, hw'.trans hx⟩)
           | (go_at_call 27; refine Calls.mono (must_access_zero x none w') ?_; rintro e w'' ⟨rfl, hx⟩; exact ⟨rfl, hw'.trans hx⟩)
           | (go_at_call 32; refine Calls.mono (must_range_zero x y none w') ?_; rintro e w'' ⟨rfl, hx⟩; exact ⟨rfl, hw'.trans hx⟩)
           | (go_at_call 30; refine Calls.mono (must_forget 0 0 0 none w') ?_; rintro e w'' ⟨rfl, hx⟩; exact ⟨rfl, hw'.trans hx⟩)
           | (go_at_call 18; refine Calls.mono (must_descr_zero none A n c w') ?_; rintro e w'' ⟨rfl, hx⟩; exact ⟨rfl, hw'.trans hx⟩)
           | (go_at_call 31; refine Calls.mono (zero_equal 0 0 0 w') ?_; rintro e w'' ⟨rfl, hx⟩; exact ⟨rfl, hw'.trans hx⟩)
           | (obtain ⟨q0, q1, q2, q3⟩ := (kz.ext hw').c4; go_simp; rfl))
         clear hK K))
  refine wpQuiet_nil ?_
  intro w7 hb7
  go_wp2
  go_ret
  exact ⟨rfl, hext.trans hb7⟩
end Go.Proofs.Ytaekkfgggmighaa
