/- The walk of ontimelaw31.MayDescribes. -/
import Derived.Test.YtjckghdgogkeaaaOpen
import Derived.Deep.QuietTactic
namespace Go.Proofs.Ytjckghdgogkeaaa
open Go.RowKit Go.Maps Go.Proofs.YtjckghdgogkeaaaW.PrintWords Go.Proofs.Ytjckghdgogkeaaa.PMayDescribes
set_option linter.unusedVariables false

/-- A region that draws its order, whose operations read what lies in w and call what leaves that as it is: one walk, in the text's order. -/
theorem wp_region_ext {id : Nat} {Q : Exit → Act → World → Prop} {a : Act} {w : World} {l : List Oper} (hB : Region.lexB .any l.toArray = true)
    (h : wpQuiet Try.prog l.toArray (Ext w) (fun a' => ∀ w', Ext w w' → Q .normal a' w') l a) : (Code.region id l.toArray true).wp Try.prog Q a w :=
  wp_region_quiet (C := Ext w) (by kernel_rfl) hB (Ext.drew (Ext.refl w)) (by simpa using h)

theorem says_any {Q : Prop} {w w' : World} {e : Ending} (h : Says Q w e w') {b : Bool} (hb : b = true ↔ Q) : e = .returned (.bool b) ∧ Ext w w' := by
  obtain ⟨r, ⟨rfl, hr⟩, he⟩ := h
  have : r = b := by
    cases r <;> cases b <;> simp_all
  exact ⟨by rw [this], he⟩

set_option maxHeartbeats 1000000 in
theorem descr_walk (S W L : Int) (A : Option Addr) (c : Nat) (l : List S45) (B : Option Addr) (d : Nat) (ls : List (List Int)) (w : World) (hr : k45.C w A l.length l) (hc : l.length ≤ c) (hr2 : KL.C w B ls.length ls) (hd : ls.length ≤ d) (hw : ∀ l ∈ ls, ∀ x ∈ l, I64 x) :
    Calls Try.prog 3 #[.agg #[.int .i64 S, .int .i64 W, .int .i64 L], .slice A l.length c, .slice B ls.length d] w fun e w' => e = .returned (.bool true) ∧ Ext w w' := by
  have HW := Lib.hid hw; clear hw
  cases hs : smallB S W L l with
  | false =>
    have HS := Lib.hid hs; clear hs
    go_enter Try.func3, Try.ntmps3
    go_wp2_with (first
      | (go_at_call 12; refine Calls.mono (small_any S W L A c l _ (C_ext hr (by exact (by repeat (first | ((with_reducible refine Ext.set1 ?_ ?_); (first | (focus (simp; done)) | (focus (simp; omega)) | (focus omega))) | (with_reducible refine Ext.alloc ?_ _) | (with_reducible exact Ext.refl _) | (refine Ext.trans ?_ (by with_reducible assumption)))))) hc) ?_; rintro e w2 ⟨rfl, hb2⟩; rw [HS.out])
      | (have gq := hb2; clear gq; go_at_call 11; refine Calls.mono (awake_yes _) ?_; rintro e w3 ⟨rfl, hb3⟩)
      | (go_at_call 11; refine Calls.mono (awake_yes _) ?_; rintro e w1 ⟨rfl, hb1⟩; obtain ⟨a0, a1, a2⟩ := Blk.c3 (w := w1) (B := w.heap.size) (by repeat (first | (with_reducible assumption) | ((with_reducible refine Blk.new ?_); (first | (focus rfl) | (focus (simp; done)) | (focus omega))) | ((with_reducible refine Blk.set1 ?_ ?_); (focus omega)) | (with_reducible refine Blk.alloc ?_) | (refine Blk.ext ?_ (by with_reducible assumption))))))
    go_ret
    exact ⟨rfl, (by repeat (first | ((with_reducible refine Ext.set1 ?_ ?_); (first | (focus (simp; done)) | (focus (simp; omega)) | (focus omega))) | (with_reducible refine Ext.alloc ?_ _) | (with_reducible exact Ext.refl _) | (refine Ext.trans ?_ (by with_reducible assumption))))⟩
  | true =>
    have sm := small_is hs
    have HS := Lib.hid hs; clear hs
    by_cases h32 : 32 < ls.length
    · go_enter Try.func3, Try.ntmps3
      go_wp2_with (first
        | (go_at_call 12; refine Calls.mono (small_any S W L A c l _ (C_ext hr (by exact (by repeat (first | ((with_reducible refine Ext.set1 ?_ ?_); (first | (focus (simp; done)) | (focus (simp; omega)) | (focus omega))) | (with_reducible refine Ext.alloc ?_ _) | (with_reducible exact Ext.refl _) | (refine Ext.trans ?_ (by with_reducible assumption)))))) hc) ?_; rintro e w2 ⟨rfl, hb2⟩; rw [HS.out])
        | (have gq := hb2; clear gq; go_at_call 11; refine Calls.mono (awake_yes _) ?_; rintro e w3 ⟨rfl, hb3⟩)
        | (go_at_call 11; refine Calls.mono (awake_yes _) ?_; rintro e w1 ⟨rfl, hb1⟩; obtain ⟨a0, a1, a2⟩ := Blk.c3 (w := w1) (B := w.heap.size) (by repeat (first | (with_reducible assumption) | ((with_reducible refine Blk.new ?_); (first | (focus rfl) | (focus (simp; done)) | (focus omega))) | ((with_reducible refine Blk.set1 ?_ ?_); (focus omega)) | (with_reducible refine Blk.alloc ?_) | (refine Blk.ext ?_ (by with_reducible assumption))))))
      go_ret
      exact ⟨rfl, (by repeat (first | ((with_reducible refine Ext.set1 ?_ ?_); (first | (focus (simp; done)) | (focus (simp; omega)) | (focus omega))) | (with_reducible refine Ext.alloc ?_ _) | (with_reducible exact Ext.refl _) | (refine Ext.trans ?_ (by with_reducible assumption))))⟩
    · obtain ⟨n, hn⟩ : ∃ n, n = ls.length := ⟨_, rfl⟩
      rw [← hn] at hr2 hd h32 ⊢
      have HN := Lib.hid hn; clear hn
      go_enter Try.func3, Try.ntmps3
      go_wp2_with (first
        | (go_at_call 12; refine Calls.mono (small_any S W L A c l _ (C_ext hr (by exact (by repeat (first | ((with_reducible refine Ext.set1 ?_ ?_); (first | (focus (simp; done)) | (focus (simp; omega)) | (focus omega))) | (with_reducible refine Ext.alloc ?_ _) | (with_reducible exact Ext.refl _) | (refine Ext.trans ?_ (by with_reducible assumption)))))) hc) ?_; rintro e w2 ⟨rfl, hb2⟩; rw [HS.out])
        | (go_at_call 11; refine Calls.mono (awake_yes _) ?_; rintro e w1 ⟨rfl, hb1⟩; obtain ⟨a0, a1, a2⟩ := Blk.c3 (w := w1) (B := w.heap.size) (by repeat (first | (with_reducible assumption) | ((with_reducible refine Blk.new ?_); (first | (focus rfl) | (focus (simp; done)) | (focus omega))) | ((with_reducible refine Blk.set1 ?_ ?_); (focus omega)) | (with_reducible refine Blk.alloc ?_) | (refine Blk.ext ?_ (by with_reducible assumption))))))
      have kc : Blk w2 w.heap.size (.cells #[.int .i64 S, .int .i64 W, .int .i64 L] 23) := (by repeat (first | (with_reducible assumption) | ((with_reducible refine Blk.new ?_); (first | (focus rfl) | (focus (simp; done)) | (focus omega))) | ((with_reducible refine Blk.set1 ?_ ?_); (focus omega)) | (with_reducible refine Blk.alloc ?_) | (refine Blk.ext ?_ (by with_reducible assumption))))
      have hext : Ext w w2 := (by repeat (first | ((with_reducible refine Ext.set1 ?_ ?_); (first | (focus (simp; done)) | (focus (simp; omega)) | (focus omega))) | (with_reducible refine Ext.alloc ?_ _) | (with_reducible exact Ext.refl _) | (refine Ext.trans ?_ (by with_reducible assumption))))
      have hr3 := C_ext hr2 hext
      have hlc := kc.lt
      clear a0 a1 a2 hb1 hb2
      go_loop [29] (fun i => ∃ k : Nat, i = .int .i64 k ∧ k ≤ n ∧ Hid (∀ r, r < k → (ls.getD r []).length ≤ 32)) (fun i => n - (Go.RowKit.intOf i).toNat)
      case atStart => exact ⟨0, rfl, Nat.zero_le _, fun r hr => absurd hr (Nat.not_lt_zero _)⟩
      case round =>
        obtain ⟨k, rfl, hk, HK⟩ := hrel
        by_cases hlt : k < n
        · obtain ⟨ad, A0, c0, rfl, hcell, hl0, hrow⟩ := at_row hr3 k hlt
          by_cases hbig : 32 < (ls.getD k []).length
          · obtain ⟨m0, hm0⟩ : ∃ m0, m0 = (ls.getD k []).length := ⟨_, rfl⟩
            rw [← hm0] at hcell hl0 hrow hbig
            clear hm0
            have hmax2 := C_max hrow
            go_wp2
            go_ret
            exact ⟨rfl, (by repeat (first | ((with_reducible refine Ext.set1 ?_ ?_); (first | (focus (simp; done)) | (focus (simp; omega)) | (focus omega))) | (with_reducible refine Ext.alloc ?_ _) | (with_reducible exact Ext.refl _) | (refine Ext.trans ?_ (by with_reducible assumption))))⟩
          · obtain ⟨m0, hm0⟩ : ∃ m0, m0 = (ls.getD k []).length := ⟨_, rfl⟩
            rw [← hm0] at hcell hl0 hrow hbig
            have HM0 := Lib.hid hm0; clear hm0
            go_wp2
            go_round
            case rel =>
              refine ⟨k + 1, by go_num, by omega, ?_⟩
              intro r hr
              by_cases e : r = k
              · subst e
                rw [← HM0.out]
                omega
              · exact HK.out r (by omega)
            case measure => simp [Go.RowKit.intOf]; omega
        · obtain rfl : k = n := by omega
          obtain rfl : k = ls.length := HN.out
          clear HN
          have hrows : ∀ r ∈ ls, r.length < 100000 := by
            intro r hr
            obtain ⟨j, hj, rfl⟩ := List.getElem_of_mem hr
            have := HK.out j (by exact hj)
            rw [List.getD_eq_getElem?_getD, List.getElem?_eq_getElem hj] at this
            simp at this
            omega
          obtain ⟨b0, b1, b2⟩ := kc.c3
          go_wp2_with (first
            | (go_at_call 13; refine Calls.mono (after_st sm.geo A c l _ (C_ext hr (by repeat (first | ((with_reducible refine Ext.set1 ?_ ?_); (first | (focus (simp; done)) | (focus (simp; omega)) | (focus omega))) | (with_reducible refine Ext.alloc ?_ _) | (with_reducible exact Ext.refl _) | (refine Ext.trans ?_ (by with_reducible assumption))))) (by have := sm.len; omega) sm.step) ?_; rintro e w4 ⟨u4, p4, v4, rfl, hst4, hrf4, hb4⟩; obtain ⟨A4, cc4, rfl⟩ := Kd.R_slice hrf4; obtain ⟨d0, d1, d2⟩ := Blk.c3 (w := w4) (B := w.heap.size) (by repeat (first | (with_reducible assumption) | ((with_reducible refine Blk.new ?_); (first | (focus rfl) | (focus (simp; done)) | (focus omega))) | ((with_reducible refine Blk.set1 ?_ ?_); (focus omega)) | (with_reducible refine Blk.alloc ?_) | (refine Blk.ext ?_ (by with_reducible assumption)))); have hlc4 : w.heap.size < w4.heap.size := (by have := hb4.size; omega))
            | (go_at_call 14; refine Calls.mono (may_unknown_yes sm.geo _) ?_; rintro e w5 ⟨rfl, hb5⟩))
          have e9 : Blk (w5.alloc (mayO S W L true none)) w4.heap.size (mayO S W L u4 p4) := (by repeat (first | (with_reducible assumption) | ((with_reducible refine Blk.new ?_); (first | (focus rfl) | (focus (simp; done)) | (focus omega))) | ((with_reducible refine Blk.set1 ?_ ?_); (focus omega)) | (with_reducible refine Blk.alloc ?_) | (refine Blk.ext ?_ (by with_reducible assumption))))
          have e10 : Blk (w5.alloc (mayO S W L true none)) (w4.heap.size + 1) (refO S W L (rSteps S W (false, []) l).1 (.slice A4 (rSteps S W (false, []) l).2.length cc4)) := (by repeat (first | (with_reducible assumption) | ((with_reducible refine Blk.new ?_); (first | (focus rfl) | (focus (simp; done)) | (focus omega))) | ((with_reducible refine Blk.set1 ?_ ?_); (focus omega)) | (with_reducible refine Blk.alloc ?_) | (refine Blk.ext ?_ (by with_reducible assumption))))
          have e11 : Blk (w5.alloc (mayO S W L true none)) w5.heap.size (mayO S W L true none) := (by repeat (first | (with_reducible assumption) | ((with_reducible refine Blk.new ?_); (first | (focus rfl) | (focus (simp; done)) | (focus omega))) | ((with_reducible refine Blk.set1 ?_ ?_); (focus omega)) | (with_reducible refine Blk.alloc ?_) | (refine Blk.ext ?_ (by with_reducible assumption))))
          have e3 : Blk (w5.alloc (mayO S W L true none)) w.heap.size (.cells #[.int .i64 S, .int .i64 W, .int .i64 L] 23) := (by repeat (first | (with_reducible assumption) | ((with_reducible refine Blk.new ?_); (first | (focus rfl) | (focus (simp; done)) | (focus omega))) | ((with_reducible refine Blk.set1 ?_ ?_); (focus omega)) | (with_reducible refine Blk.alloc ?_) | (refine Blk.ext ?_ (by with_reducible assumption))))
          have est : StB (w5.alloc (mayO S W L true none)) W (64 * l.length) (sSteps S W (some noF) l) u4 p4 := (by repeat (first | (with_reducible assumption) | (with_reducible refine StB.set ?_) | (with_reducible refine StB.alloc ?_ _) | (refine StB.ext ?_ (by with_reducible assumption))))
          have erf : RfB (w5.alloc (mayO S W L true none)) w2.heap.size (.slice A4 (rSteps S W (false, []) l).2.length cc4) (rSteps S W (false, []) l).2 := (((hrf4.alloc _).alloc _).ext hb5).alloc _
          have eext : Ext w (w5.alloc (mayO S W L true none)) := (by repeat (first | ((with_reducible refine Ext.set1 ?_ ?_); (first | (focus (simp; done)) | (focus (simp; omega)) | (focus omega))) | (with_reducible refine Ext.alloc ?_ _) | (with_reducible exact Ext.refl _) | (refine Ext.trans ?_ (by with_reducible assumption))))
          obtain ⟨w6, hw6⟩ : ∃ w6, w6 = w5.alloc (mayO S W L true none) := ⟨_, rfl⟩
          rw [← hw6] at e9 e10 e11 e3 est erf eext ⊢
          clear hw6
          have hrel := Rel.steps (S := S) (by have := sm.geo.s1; omega) sm.geo.w1 l (Rel.start W)
          obtain ⟨bD, hbD⟩ : ∃ b, b = (decide ((ls.length : Int) = S) && rowsOk (rSteps S W (false, []) l) ls) := ⟨_, rfl⟩
          have hD : bD = true ↔ Descr S (sSteps S W (some noF) l) ls := by rw [hbD]; exact descr_iff hrel ls
          have hlen : (rSteps S W (false, []) l).2.length < 100000 := by
            have h1 := rSteps_len S W l (false, [])
            have h2 := sm.len
            simp only [List.length_nil] at h1
            omega
          obtain ⟨fk, hfk⟩ := descr_f S W L (rSteps S W (false, []) l) hlen ls (by omega) hrows
          rw [← hbD] at hfk
          obtain ⟨bU, hbU⟩ : ∃ b, ((ls.length : Int) == S) = b := ⟨_, rfl⟩
          have hU : bU = true ↔ Descr S none ls := by rw [← hbU]; simp [Descr]
          have HD := Lib.hid hD
          have HU := Lib.hid hU
          have HFK := Lib.hid hfk
          clear hD hU hfk hbD hrel hrows
          obtain ⟨A5, cc5, e5, hcc5, hC5⟩ := Kd.R_reads erf
          cases e5
          have hrw : KL.C w6 B ls.length ls := C_ext hr2 eext
          clear hr3 hst4 hrf4 b0 b1 b2 d0 d1 d2
          refine wp_region_ext (by kernel_rfl) ?_
          repeat (
            refine wpQuiet_step (fun K hK => ?_)
            go_simp
            first
              | (refine hK _ ?_; clear hK K)
              | (refine ⟨_, fun w' hw' => rfl, hK _ ?_⟩; clear hK K)
              | (apply Exists.intro
                 refine ⟨fun w' hw' => ?_, hK _ ?_⟩
                 (first
                   | (go_at_call 15; with_reducible refine Calls.mono (descr_st sm.geo true none 0 none B d ls w' (.unk _ _ _) (C_ext hrw hw') HW.out) ?_; intro e w'' hh; obtain ⟨he, hx⟩ := says_any hh HU.out; exact ⟨he, hw'.trans hx⟩)
                   | (go_at_call 15; with_reducible refine Calls.mono (descr_st sm.geo u4 p4 (64 * l.length) _ B d ls w' (est.ext hw') (C_ext hrw hw') HW.out) ?_; intro e w'' hh; obtain ⟨he, hx⟩ := says_any hh HD.out; exact ⟨he, hw'.trans hx⟩)
                   | (go_at_call 16; refine Calls.mono (ontimeref31_Describes.calls fk S W L _ _ _ _ B d ls bD w' (C_ext hC5 hw') hcc5 (C_ext hrw hw') hd HFK.out) ?_; intro e w'' hh; exact ⟨hh.1, hw'.trans hh.2⟩)
                   | (obtain ⟨q0, q1, q2, q3, q4⟩ := (e9.ext hw').c5; obtain ⟨r0, r1, r2, r3, r4⟩ := (e10.ext hw').c5; obtain ⟨s0, s1, s2, s3, s4⟩ := (e11.ext hw').c5; obtain ⟨t0, t1, t2⟩ := (e3.ext hw').c3; go_simp; rfl))
                 clear hK K))
          refine wpQuiet_nil ?_
          intro w7 hb7
          go_wp2
          go_ret
          exact ⟨rfl, eext.trans hb7⟩
end Go.Proofs.Ytjckghdgogkeaaa
