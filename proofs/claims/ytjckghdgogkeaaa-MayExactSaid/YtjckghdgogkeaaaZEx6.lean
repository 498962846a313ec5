/- The contract of may.Describes. -/
import Derived.Test.YtjckghdgogkeaaaZEx4
import Derived.Test.YtjckghdgogkeaaaZEx2
namespace Go.Proofs.Ytjckghdgogkeaaa
open Go.RowKit Go.Maps Go.Proofs.YtjckghdgogkeaaaW.PrintWords
set_option linter.unusedVariables false

/-- The bound of the line at place j is no more than j. -/
def OkAt (f : FM) (l : List Int) (j : Nat) : Prop := ∃ b, f (l.getD j 0) = some b ∧ b ≤ j
def OkRow (f : FM) (l : List Int) : Prop := ∀ j, j < l.length → OkAt f l j
def AllOk (f : FM) (n : Nat) (ls : List (List Int)) : Prop := ∀ k, k < n → OkRow f (ls.getD k [])
/-- st describes the lists. -/
def Descr (S : Int) (st : St) (ls : List (List Int)) : Prop := (ls.length : Int) = S ∧ ∀ f, st = some f → ∀ k, k < ls.length → OkRow f (ls.getD k [])

set_option maxHeartbeats 400000 in
theorem may_descr_len (S W L : Int) (u : Bool) (p : Option Nat) (A : Option Addr) (n c : Nat) (w : World) (hn : (n : Int) ≠ S) :
    Calls Try.prog 15 #[.agg #[.int .i64 S, .int .i64 W, .int .i64 L, .bool u, .map p], .slice A n c] w fun e w' => e = .returned (.bool false) ∧ Ext w w' := by
  have hn2 : ((n : Int) != S) = true := by simpa using hn
  go_enter Try.func15, Try.ntmps15
  go_wp2
  go_ret
  exact ⟨rfl, (by repeat (first | ((with_reducible refine Ext.set1 ?_ ?_); (first | (focus (simp; done)) | (focus (simp; omega)) | (focus omega))) | (with_reducible refine Ext.alloc ?_ _) | (with_reducible exact Ext.refl _) | (refine Ext.trans ?_ (by with_reducible assumption))))⟩
set_option maxHeartbeats 400000 in
theorem may_descr_unknown (S W L : Int) (p : Option Nat) (A : Option Addr) (n c : Nat) (w : World) (hn : (n : Int) = S) :
    Calls Try.prog 15 #[.agg #[.int .i64 S, .int .i64 W, .int .i64 L, .bool true, .map p], .slice A n c] w fun e w' => e = .returned (.bool true) ∧ Ext w w' := by
  have hn2 : ((n : Int) != S) = false := by simpa using hn
  clear hn
  go_enter Try.func15, Try.ntmps15
  go_wp2
  go_ret
  exact ⟨rfl, (by repeat (first | ((with_reducible refine Ext.set1 ?_ ?_); (first | (focus (simp; done)) | (focus (simp; omega)) | (focus omega))) | (with_reducible refine Ext.alloc ?_ _) | (with_reducible exact Ext.refl _) | (refine Ext.trans ?_ (by with_reducible assumption))))⟩

set_option maxHeartbeats 1000000 in
theorem may_descr_some (S W L : Int) (p : Option Nat) (m : Nat) (f : FM) (A : Option Addr) (n c : Nat) (ls : List (List Int)) (w : World) (hn : (n : Int) = S) (h : IMapO w p m f) (hf : Fit W f) (hw8 : W ≤ 8) (hr : KL.C w A n ls) (hw : ∀ l ∈ ls, ∀ x ∈ l, I64 x) :
    Calls Try.prog 15 #[.agg #[.int .i64 S, .int .i64 W, .int .i64 L, .bool false, .map p], .slice A n c] w (Says (AllOk f n ls) w) := by
  have hn2 : ((n : Int) != S) = false := by simpa using hn
  have HW := Lib.hid hw; clear hw
  have HFIT := Lib.hid hf; clear hf
  have hlen := C_len hr
  have HLEN := Lib.hid hlen; clear hlen
  have hmax := C_max hr
  clear hn
  have h1 := h.ext ((Ext.refl w).alloc (.cells #[.int .i64 S, .int .i64 W, .int .i64 L, .bool false, .map p] 31))
  have hr1 := C_ext hr ((Ext.refl w).alloc (.cells #[.int .i64 S, .int .i64 W, .int .i64 L, .bool false, .map p] 31))
  clear h hr
  go_enter Try.func15, Try.ntmps15
  go_wp2
  go_loop [21] (fun i => ∃ k : Nat, i = .int .i64 k ∧ k ≤ n ∧ Hid (∀ r, r < k → OkRow f (ls.getD r []))) (fun i => n - (Go.RowKit.intOf i).toNat)
  case atStart => exact ⟨0, rfl, Nat.zero_le _, fun r hr => absurd hr (Nat.not_lt_zero _)⟩
  case round =>
    obtain ⟨k, rfl, hk, HK⟩ := hrel
    by_cases hlt : k < n
    · obtain ⟨ad, A0, c0, rfl, hcell, hl0, hrow⟩ := at_row hr1 k hlt
      have HX : Hid (∀ x ∈ ls.getD k [], I64 x) := by
        intro x hx
        have hkl : k < ls.length := by rw [HLEN.out]; exact hlt
        rw [List.getD_eq_getElem?_getD, List.getElem?_eq_getElem hkl] at hx
        exact HW.out _ (List.getElem_mem hkl) x hx
      obtain ⟨l, hl⟩ : ∃ l, l = ls.getD k [] := ⟨_, rfl⟩
      rw [← hl] at hcell hl0 hrow HX
      have HL := Lib.hid hl; clear hl
      have hmax2 := C_max hrow
      obtain ⟨m0, hm0⟩ : ∃ m0, m0 = l.length := ⟨_, rfl⟩
      rw [← hm0] at hcell hl0 hrow hmax2
      have HM0 := Lib.hid hm0; clear hm0
      go_wp2
      go_loop [27] (fun i => ∃ j : Nat, i = .int .i64 j ∧ j ≤ m0 ∧ Hid (∀ r, r < j → OkAt f l r)) (fun i => m0 - (Go.RowKit.intOf i).toNat)
      case atStart => exact ⟨0, rfl, Nat.zero_le _, fun r hr => absurd hr (Nat.not_lt_zero _)⟩
      case round =>
        obtain ⟨j, rfl, hj, HJ⟩ := hrel
        by_cases hjt : j < m0
        · obtain ⟨ad2, rfl, hcell2⟩ := at_num hrow j hjt
          have hx : I64 (l.getD j 0) := by
            have hjl : j < l.length := by rw [← HM0.out]; exact hjt
            rw [List.getD_eq_getElem?_getD, List.getElem?_eq_getElem hjl]
            exact HX.out _ (List.getElem_mem hjl)
          obtain ⟨x, hxe⟩ : ∃ x, x = l.getD j 0 := ⟨_, rfl⟩
          rw [← hxe] at hcell2 hx
          have HXE := Lib.hid hxe; clear hxe
          cases hfx : f x with
          | none =>
            have HF := Lib.hid hfx; clear hfx
            go_wp2_with (at_lookup; refine wpList_look_none _ rfl _ _ rfl p m f rfl h1 x rfl hx HF.out ?_)
            go_ret
            refine ⟨false, ⟨rfl, ?_⟩, (by repeat (first | ((with_reducible refine Ext.set1 ?_ ?_); (first | (focus (simp; done)) | (focus (simp; omega)) | (focus omega))) | (with_reducible refine Ext.alloc ?_ _) | (with_reducible exact Ext.refl _) | (refine Ext.trans ?_ (by with_reducible assumption))))⟩
            simp only [Bool.false_eq_true, false_iff]
            intro hall
            obtain ⟨b, hb, _⟩ := hall k hlt j (by rw [← HL.out, ← HM0.out]; exact hjt)
            rw [← HL.out, ← HXE.out, HF.out] at hb
            cases hb
          | some b =>
            have HF := Lib.hid hfx; clear hfx
            obtain ⟨_, hb0, hb1⟩ := HFIT.out x b HF.out
            by_cases hbj : (j : Int) < b
            · go_wp2_with (at_lookup; refine wpList_look_some _ rfl _ _ rfl p m f rfl h1 x rfl hx b HF.out ?_)
              go_ret
              refine ⟨false, ⟨rfl, ?_⟩, (by repeat (first | ((with_reducible refine Ext.set1 ?_ ?_); (first | (focus (simp; done)) | (focus (simp; omega)) | (focus omega))) | (with_reducible refine Ext.alloc ?_ _) | (with_reducible exact Ext.refl _) | (refine Ext.trans ?_ (by with_reducible assumption))))⟩
              simp only [Bool.false_eq_true, false_iff]
              intro hall
              obtain ⟨b', hb', hle⟩ := hall k hlt j (by rw [← HL.out, ← HM0.out]; exact hjt)
              rw [← HL.out, ← HXE.out, HF.out] at hb'
              cases hb'
              omega
            · go_wp2_with (at_lookup; refine wpList_look_some _ rfl _ _ rfl p m f rfl h1 x rfl hx b HF.out ?_)
              go_round
              case rel =>
                refine ⟨j + 1, by go_num, by omega, ?_⟩
                intro r hr
                by_cases e : r = j
                · subst e
                  exact ⟨b, by rw [← HXE.out]; exact HF.out, by omega⟩
                · exact HJ.out r (by omega)
              case measure => simp [Go.RowKit.intOf]; omega
        · go_wp2
          go_round
          case rel =>
            refine ⟨k + 1, by go_num, by omega, ?_⟩
            intro r hr
            by_cases e : r = k
            · subst e
              intro i hi
              rw [← HL.out] at hi ⊢
              exact HJ.out i (by rw [← HM0.out] at hi; omega)
            · exact HK.out r (by omega)
          case measure => simp [Go.RowKit.intOf]; omega
    · go_wp2
      go_ret
      exact ⟨true, ⟨rfl, ⟨fun _ r hr => HK.out r (by omega), fun _ => rfl⟩⟩, (by repeat (first | ((with_reducible refine Ext.set1 ?_ ?_); (first | (focus (simp; done)) | (focus (simp; omega)) | (focus omega))) | (with_reducible refine Ext.alloc ?_ _) | (with_reducible exact Ext.refl _) | (refine Ext.trans ?_ (by with_reducible assumption))))⟩

theorem descr_st {S W L : Int} (g : Geo S W L) (u : Bool) (p : Option Nat) (m : Nat) (st : St) (A : Option Addr) (c : Nat) (ls : List (List Int)) (w : World) (h : StB w W m st u p) (hr : KL.C w A ls.length ls) (hw : ∀ l ∈ ls, ∀ x ∈ l, I64 x) :
    Calls Try.prog 15 #[.agg #[.int .i64 S, .int .i64 W, .int .i64 L, .bool u, .map p], .slice A ls.length c] w (Says (Descr S st ls) w) := by
  by_cases hn : (ls.length : Int) = S
  · rcases h with ⟨rfl, rfl, rfl⟩ | ⟨rfl, f, rfl, him, hf⟩
    · exact (may_descr_unknown S W L none A ls.length c w hn).mono fun e w' ⟨he, hb⟩ => ⟨true, ⟨he, by simp [Descr, hn]⟩, hb⟩
    · refine (may_descr_some S W L p m f A ls.length c ls w hn him hf g.w8 hr hw).mono fun e w' ⟨r, ⟨he, hq⟩, hb⟩ => ⟨r, ⟨he, hq.trans ⟨fun h => ⟨hn, fun f' e k hk => ?_⟩, fun h => h.2 f rfl⟩⟩, hb⟩
      cases e
      exact h k hk
  · exact (may_descr_len S W L u p A ls.length c w hn).mono fun e w' ⟨he, hb⟩ => ⟨false, ⟨he, by simp [Descr, hn]⟩, hb⟩
end Go.Proofs.Ytjckghdgogkeaaa
