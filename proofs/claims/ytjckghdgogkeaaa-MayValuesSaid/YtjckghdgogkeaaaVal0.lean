/- The walk of ontimelaw31.MayValues. -/
import Derived.Test.YtjckghdgogkeaaaSame
namespace Go.Proofs.Ytjckghdgogkeaaa
open Go.RowKit Go.Maps Go.Proofs.YtjckghdgogkeaaaW.PrintWords Go.Proofs.Ytjckghdgogkeaaa.PMayDescribes
set_option linter.unusedVariables false

theorem Blk.far5v {w : World} {B g : Nat} {o : Obj} {a b c d e : Value} (hne : B ≠ g) (h : Blk w B o) : Blk (((((w.setCell ⟨g, 0, none⟩ a).setCell ⟨g, 1, none⟩ b).setCell ⟨g, 2, none⟩ c).setCell ⟨g, 3, none⟩ d).setCell ⟨g, 4, none⟩ e) B o :=
  Blk.set1 hne (Blk.set1 hne (Blk.set1 hne (Blk.set1 hne (Blk.set1 hne h))))
/-- The slice's n cells may be written: they lie in a block from base on. -/
def RowW (w : World) (base : Nat) (A : Option Addr) (n : Nat) : Prop := 0 < n → ∃ g cur, A = some ⟨g, 0, none⟩ ∧ base ≤ g ∧ Blk w g (.cells cur 3) ∧ n ≤ cur.size
theorem Holds1.W {w : World} {base : Nat} {A : Option Addr} {n c : Nat} {K : List Int} (h : Holds1 w base (.slice A n c) K) : RowW w base A K.length := by
  intro hn
  rcases h.1.2 with ⟨e, h0⟩ | ⟨g, cap, cur, e, hb, hg, hle, _, hsz, _⟩
  · omega
  · cases e
    exact ⟨g, cur, rfl, hb, hg, by omega⟩
theorem RowW.put {w : World} {base g n k : Nat} {cur : Array Value} {u : Value} (hb : base ≤ g) (h : Blk w g (.cells cur 3)) (hn : n ≤ cur.size) : RowW (w.setCell ⟨g, k, none⟩ u) base (some ⟨g, 0, none⟩) n :=
  fun _ => ⟨g, _, rfl, hb, h.put, by simpa using hn⟩

set_option maxHeartbeats 1000000 in
theorem val_small (S W L : Int) (A : Option Addr) (c : Nat) (l : List S45) (B : Option Addr) (d : Nat) (m : List S45) (w : World) (hr : k45.C w A l.length l) (hc : l.length ≤ c) (hr2 : k45.C w B m.length m) (hc2 : m.length ≤ d)
    (hno : ¬ (smallB S W L l = true ∧ smallB S W L m = true)) :
    Calls Try.prog 7 #[.agg #[.int .i64 S, .int .i64 W, .int .i64 L], .slice A l.length c, .slice B m.length d] w fun e w' => e = .returned (.bool true) ∧ Ext w w' := by
  cases h1 : smallB S W L l with
  | false =>
    have H1 := Lib.hid h1; clear h1 hno
    go_enter Try.func7, Try.ntmps7
    go_wp2_with (first
      | (go_at_call 12; refine Calls.mono (small_any S W L A c l _ (C_ext hr (by exact (by repeat (first | ((with_reducible refine Ext.set1 ?_ ?_); (first | (focus (simp; done)) | (focus (simp; omega)) | (focus omega))) | (with_reducible refine Ext.alloc ?_ _) | (with_reducible exact Ext.refl _) | (refine Ext.trans ?_ (by with_reducible assumption)))))) hc) ?_; rintro e w2 ⟨rfl, hb2⟩; rw [H1.out])
      | (have gq := hb2; clear gq; go_at_call 11; refine Calls.mono (awake_yes _) ?_; rintro e w9 ⟨rfl, hb9⟩)
      | (go_at_call 11; refine Calls.mono (awake_yes _) ?_; rintro e w1 ⟨rfl, hb1⟩; obtain ⟨a0, a1, a2⟩ := Blk.c3 (w := w1) (B := w.heap.size) (by repeat (first | (with_reducible assumption) | ((with_reducible refine Blk.new ?_); (first | (focus rfl) | (focus (simp; done)) | (focus omega))) | ((with_reducible refine Blk.set1 ?_ ?_); (focus omega)) | (with_reducible refine Blk.alloc ?_) | (refine Blk.ext ?_ (by with_reducible assumption))))))
    go_ret
    exact ⟨rfl, (by repeat (first | ((with_reducible refine Ext.set1 ?_ ?_); (first | (focus (simp; done)) | (focus (simp; omega)) | (focus omega))) | (with_reducible refine Ext.alloc ?_ _) | (with_reducible exact Ext.refl _) | (refine Ext.trans ?_ (by with_reducible assumption))))⟩
  | true =>
    have h2 : smallB S W L m = false := by
      cases h : smallB S W L m with
      | false => rfl
      | true => exact absurd ⟨h1, h⟩ hno
    have H1 := Lib.hid h1; have H2 := Lib.hid h2; clear h1 h2 hno
    go_enter Try.func7, Try.ntmps7
    go_wp2_with (first
      | (have gq := hb2; clear gq; go_at_call 12; refine Calls.mono (small_any S W L B d m _ (C_ext hr2 (by exact (by repeat (first | ((with_reducible refine Ext.set1 ?_ ?_); (first | (focus (simp; done)) | (focus (simp; omega)) | (focus omega))) | (with_reducible refine Ext.alloc ?_ _) | (with_reducible exact Ext.refl _) | (refine Ext.trans ?_ (by with_reducible assumption)))))) hc2) ?_; rintro e w3 ⟨rfl, hb3⟩; rw [H2.out])
      | (go_at_call 12; refine Calls.mono (small_any S W L A c l _ (C_ext hr (by exact (by repeat (first | ((with_reducible refine Ext.set1 ?_ ?_); (first | (focus (simp; done)) | (focus (simp; omega)) | (focus omega))) | (with_reducible refine Ext.alloc ?_ _) | (with_reducible exact Ext.refl _) | (refine Ext.trans ?_ (by with_reducible assumption)))))) hc) ?_; rintro e w2 ⟨rfl, hb2⟩; rw [H1.out]; obtain ⟨d0, d1, d2⟩ := Blk.c3 (w := w2) (B := w.heap.size) (by repeat (first | (with_reducible assumption) | ((with_reducible refine Blk.new ?_); (first | (focus rfl) | (focus (simp; done)) | (focus omega))) | ((with_reducible refine Blk.set1 ?_ ?_); (focus omega)) | (with_reducible refine Blk.alloc ?_) | (refine Blk.ext ?_ (by with_reducible assumption)))))
      | (have gq := hb2; clear gq; go_at_call 11; refine Calls.mono (awake_yes _) ?_; rintro e w9 ⟨rfl, hb9⟩)
      | (go_at_call 11; refine Calls.mono (awake_yes _) ?_; rintro e w1 ⟨rfl, hb1⟩; obtain ⟨a0, a1, a2⟩ := Blk.c3 (w := w1) (B := w.heap.size) (by repeat (first | (with_reducible assumption) | ((with_reducible refine Blk.new ?_); (first | (focus rfl) | (focus (simp; done)) | (focus omega))) | ((with_reducible refine Blk.set1 ?_ ?_); (focus omega)) | (with_reducible refine Blk.alloc ?_) | (refine Blk.ext ?_ (by with_reducible assumption))))))
    go_ret
    exact ⟨rfl, (by repeat (first | ((with_reducible refine Ext.set1 ?_ ?_); (first | (focus (simp; done)) | (focus (simp; omega)) | (focus omega))) | (with_reducible refine Ext.alloc ?_ _) | (with_reducible exact Ext.refl _) | (refine Ext.trans ?_ (by with_reducible assumption))))⟩

set_option maxHeartbeats 800000 in
theorem val_walk (S W L : Int) (A : Option Addr) (c : Nat) (l : List S45) (B : Option Addr) (d : Nat) (m : List S45) (w : World) (hr : k45.C w A l.length l) (hc : l.length ≤ c) (hr2 : k45.C w B m.length m) (hc2 : m.length ≤ d) :
    Calls Try.prog 7 #[.agg #[.int .i64 S, .int .i64 W, .int .i64 L], .slice A l.length c, .slice B m.length d] w fun e w' => e = .returned (.bool true) ∧ Ext w w' := by
  by_cases hall : smallB S W L l = true ∧ smallB S W L m = true
  case neg => exact val_small S W L A c l B d m w hr hc hr2 hc2 hall
  case pos =>
    obtain ⟨h1, h2⟩ := hall
    have sl := small_is h1
    have sm := small_is h2
    have H1 := Lib.hid h1; have H2 := Lib.hid h2; clear h1 h2
    have g := sl.geo
    have gw := g.w1
    have gs := g.s1
    have hml : m.length ≤ 40 := sm.len
    have hll : l.length ≤ 40 := sl.len
    go_enter Try.func7, Try.ntmps7
    go_wp2_with (first
      | (go_at_call 13; refine Calls.mono (after_st g A c l _ (C_ext hr (by repeat (first | ((with_reducible refine Ext.set1 ?_ ?_); (first | (focus (simp; done)) | (focus (simp; omega)) | (focus omega))) | (with_reducible refine Ext.alloc ?_ _) | (with_reducible exact Ext.refl _) | (refine Ext.trans ?_ (by with_reducible assumption))))) (by omega) sl.step) ?_; rintro e w5 ⟨u5, p5, v5, rfl, h5, hrf5, hb5⟩; obtain ⟨A5, cc5, e5, hcc5, hC5⟩ := Kd.R_reads hrf5; subst e5; have q5 : w.heap.size < w5.heap.size := (by have := hb5.size; have := hb3.size; have := hb2.size; have := hb1.size; simp at this; omega))
      | (have gq := hb2; clear gq; go_at_call 12; refine Calls.mono (small_any S W L B d m _ (C_ext hr2 (by exact (by repeat (first | ((with_reducible refine Ext.set1 ?_ ?_); (first | (focus (simp; done)) | (focus (simp; omega)) | (focus omega))) | (with_reducible refine Ext.alloc ?_ _) | (with_reducible exact Ext.refl _) | (refine Ext.trans ?_ (by with_reducible assumption)))))) hc2) ?_; rintro e w3 ⟨rfl, hb3⟩; rw [H2.out]; obtain ⟨i0, i1, i2⟩ := Blk.c3 (w := w3) (B := w.heap.size) (by repeat (first | (with_reducible assumption) | ((with_reducible refine Blk.new ?_); (first | (focus rfl) | (focus (simp; done)) | (focus omega))) | ((with_reducible refine Blk.set1 ?_ ?_); (focus omega)) | (with_reducible refine Blk.alloc ?_) | (refine Blk.ext ?_ (by with_reducible assumption)))))
      | (go_at_call 12; refine Calls.mono (small_any S W L A c l _ (C_ext hr (by exact (by repeat (first | ((with_reducible refine Ext.set1 ?_ ?_); (first | (focus (simp; done)) | (focus (simp; omega)) | (focus omega))) | (with_reducible refine Ext.alloc ?_ _) | (with_reducible exact Ext.refl _) | (refine Ext.trans ?_ (by with_reducible assumption)))))) hc) ?_; rintro e w2 ⟨rfl, hb2⟩; rw [H1.out]; obtain ⟨d0, d1, d2⟩ := Blk.c3 (w := w2) (B := w.heap.size) (by repeat (first | (with_reducible assumption) | ((with_reducible refine Blk.new ?_); (first | (focus rfl) | (focus (simp; done)) | (focus omega))) | ((with_reducible refine Blk.set1 ?_ ?_); (focus omega)) | (with_reducible refine Blk.alloc ?_) | (refine Blk.ext ?_ (by with_reducible assumption)))))
      | (go_at_call 11; refine Calls.mono (awake_yes _) ?_; rintro e w1 ⟨rfl, hb1⟩; obtain ⟨a0, a1, a2⟩ := Blk.c3 (w := w1) (B := w.heap.size) (by repeat (first | (with_reducible assumption) | ((with_reducible refine Blk.new ?_); (first | (focus rfl) | (focus (simp; done)) | (focus omega))) | ((with_reducible refine Blk.set1 ?_ ?_); (focus omega)) | (with_reducible refine Blk.alloc ?_) | (refine Blk.ext ?_ (by with_reducible assumption))))))
    have hx5 : Ext w w5 := (by repeat (first | ((with_reducible refine Ext.set1 ?_ ?_); (first | (focus (simp; done)) | (focus (simp; omega)) | (focus omega))) | (with_reducible refine Ext.alloc ?_ _) | (with_reducible exact Ext.refl _) | (refine Ext.trans ?_ (by with_reducible assumption))))
    have hrel := Rel.steps (S := S) (by omega) gw l (Rel.start W)
    have hup : Upto 1000000 (rSteps S W (false, []) l).2 := by
      have h := Upto.steps (M := 4000) (S := S) (W := W) l (s := (false, [])) (fun _ h => by cases h) (fun x hx => (sl.step x hx).2.2.2)
      intro a ha
      have := h a ha
      omega
    have hlen : (rSteps S W (false, []) l).2.length < 100000 := by
      have h1 := rSteps_len S W l (false, [])
      simp only [List.length_nil] at h1
      omega
    obtain ⟨s, hs⟩ : ∃ s, s = rSteps S W (false, []) l := ⟨_, rfl⟩
    rw [← hs] at hrel hup hlen hcc5 hC5 ⊢
    obtain ⟨st, hst⟩ : ∃ st, st = sSteps S W (some noF) l := ⟨_, rfl⟩
    rw [← hst] at hrel h5
    have HREL := Lib.hid hrel; have HUP := Lib.hid hup
    clear hrel hup hrf5 hs hst hb1 hb2 hb3 hb5 a0 a1 a2 d0 d1 d2 i0 i1 i2
    go_loopw [39] (fun i wr => ∃ (j : Nat) (u' : Bool) (p' : Option Nat) (st' : St), i = .int .i64 j ∧ j ≤ m.length ∧ (Blk wr w5.heap.size (mayO S W L u5 p5) ∧ Blk wr (w5.heap.size + 1) (refO S W L s.1 (.slice A5 s.2.length cc5)) ∧ Blk wr (w5.heap.size + 1 + 1) (mayO S W L u' p') ∧
        StB wr W (64 * l.length + j * (64 + 64 * l.length)) st' u' p' ∧ Ext w5 wr)) (fun i _ => m.length - (Go.RowKit.intOf i).toNat)
    case atStart =>
      refine ⟨0, u5, p5, st, rfl, Nat.zero_le _, (by repeat (first | (with_reducible assumption) | ((with_reducible refine Blk.new ?_); (first | (focus rfl) | (focus (simp; done)) | (focus omega))) | ((with_reducible refine Blk.set1 ?_ ?_); (focus omega)) | (with_reducible refine Blk.alloc ?_) | (refine Blk.ext ?_ (by with_reducible assumption)))), (by repeat (first | (with_reducible assumption) | ((with_reducible refine Blk.new ?_); (first | (focus rfl) | (focus (simp; done)) | (focus omega))) | ((with_reducible refine Blk.set1 ?_ ?_); (focus omega)) | (with_reducible refine Blk.alloc ?_) | (refine Blk.ext ?_ (by with_reducible assumption)))), (by repeat (first | (with_reducible assumption) | ((with_reducible refine Blk.new ?_); (first | (focus rfl) | (focus (simp; done)) | (focus omega))) | ((with_reducible refine Blk.set1 ?_ ?_); (focus omega)) | (with_reducible refine Blk.alloc ?_) | (refine Blk.ext ?_ (by with_reducible assumption)))), ?_, (by repeat (first | ((with_reducible refine Ext.set1 ?_ ?_); (first | (focus (simp; done)) | (focus (simp; omega)) | (focus omega))) | (with_reducible refine Ext.alloc ?_ _) | (with_reducible exact Ext.refl _) | (refine Ext.trans ?_ (by with_reducible assumption))))⟩
      have h5' := h5.mono (n' := 64 * l.length + 0 * (64 + 64 * l.length)) (by omega)
      clear h5
      exact (by repeat (first | (with_reducible assumption) | (with_reducible refine StB.set ?_) | (with_reducible refine StB.alloc ?_ _) | (refine StB.ext ?_ (by with_reducible assumption))))
    case round =>
      obtain ⟨j, u', p', st', rfl, hj, k7, k8, k9, hst', hb⟩ := hrel
      have hl7 := k7.lt
      have hl8 := k8.lt
      have hl9 := k9.lt
      obtain ⟨a0, a1, a2, a3, a4⟩ := k9.c5
      have hxr := hx5.trans hb
      have hjn : j * (64 + 64 * l.length) ≤ 40 * (64 + 64 * 40) := Nat.mul_le_mul (by omega) (by omega)
      by_cases hlt : j < m.length
      · obtain ⟨ad, hB, c0, c1, c2⟩ := at_step (C_ext hr2 hxr) j hlt
        subst hB
        clear hxr
        have hxm : m.getD j z45 ∈ m := by
          rw [List.getD_eq_getElem?_getD, List.getElem?_eq_getElem hlt]
          exact List.getElem_mem hlt
        have hbx := sm.step _ hxm
        clear hxm
        obtain ⟨⟨x0, x1, x2⟩, hx⟩ : ∃ x, x = m.getD j z45 := ⟨_, rfl⟩
        rw [← hx] at c0 c1 c2 hbx
        dsimp only at c0 c1 c2 hbx
        clear hx
        obtain ⟨b0, b1, b2, b3⟩ := hbx
        go_wp2_with (first
          | (have gq := hb6; clear gq; go_at_call 17; refine Calls.mono (join_st (S := S) (W := W) (L := L) u6 u5 p6 p5 (64 * l.length + j * (64 + 64 * l.length) + 64) (64 * l.length) (sStep S W st' x0 x1) st _ h6.set.set.set.set.set h56.set.set.set.set.set (by omega) (by omega)) ?_; rintro e w7 ⟨u7, p7, rfl, h7, hb7⟩; have n7 := (Blk.far5v (by omega) m7).ext hb7; have n8 := (Blk.far5v (by omega) m8).ext hb7; have n9 := (Blk.put5 m9).ext hb7; obtain ⟨q0, q1, q2, q3, q4⟩ := n9.c5; obtain ⟨r0, r1, r2, r3, r4⟩ := n9.f5)
          | (go_at_call 18; refine Calls.mono (step_st g x0 x1 x2 (by omega) u' p' (64 * l.length + j * (64 + 64 * l.length)) st' _ (hst'.alloc _) (by omega)) ?_; rintro e w6 ⟨u6, p6, rfl, h6, hb6⟩; have m7 : Blk w6 w5.heap.size (mayO S W L u5 p5) := (by repeat (first | (with_reducible assumption) | ((with_reducible refine Blk.new ?_); (first | (focus rfl) | (focus (simp; done)) | (focus omega))) | ((with_reducible refine Blk.set1 ?_ ?_); (focus omega)) | (with_reducible refine Blk.alloc ?_) | (refine Blk.ext ?_ (by with_reducible assumption)))); have m8 : Blk w6 (w5.heap.size + 1) (refO S W L s.1 (.slice A5 s.2.length cc5)) := (by repeat (first | (with_reducible assumption) | ((with_reducible refine Blk.new ?_); (first | (focus rfl) | (focus (simp; done)) | (focus omega))) | ((with_reducible refine Blk.set1 ?_ ?_); (focus omega)) | (with_reducible refine Blk.alloc ?_) | (refine Blk.ext ?_ (by with_reducible assumption)))); have m9 : Blk w6 (w5.heap.size + 1 + 1) (mayO S W L u' p') := (by repeat (first | (with_reducible assumption) | ((with_reducible refine Blk.new ?_); (first | (focus rfl) | (focus (simp; done)) | (focus omega))) | ((with_reducible refine Blk.set1 ?_ ?_); (focus omega)) | (with_reducible refine Blk.alloc ?_) | (refine Blk.ext ?_ (by with_reducible assumption)))); have h56 : StB w6 W (64 * l.length) st u5 p5 := (h5.ext hb).ext ((Ext.refl wr).alloc _ |>.trans hb6); obtain ⟨d0, d1, d2, d3, d4⟩ := m7.c5; obtain ⟨i0, i1, i2, i3, i4⟩ := m9.c5; obtain ⟨f0, f1, f2, f3, f4⟩ := m9.f5))
        go_roundw
        case rel =>
          refine ⟨j + 1, u7, p7, sJoin (sStep S W st' x0 x1) st, by go_num, by omega, Blk.far5v (by omega) n7, Blk.far5v (by omega) n8, Blk.put5 n9, ?_, (by repeat (first | ((with_reducible refine Ext.set1 ?_ ?_); (first | (focus (simp; done)) | (focus (simp; omega)) | (focus omega))) | (with_reducible refine Ext.alloc ?_ _) | (with_reducible exact Ext.refl _) | (refine Ext.trans ?_ (by with_reducible assumption))))⟩
          have h7' := h7.mono (n' := 64 * l.length + (j + 1) * (64 + 64 * l.length)) (by rw [Nat.add_mul]; omega)
          exact h7'.set.set.set.set.set
        case measure => simp [Go.RowKit.intOf]; omega
      · obtain rfl : j = m.length := by omega
        have h5r := h5.ext hb
        obtain ⟨d0, d1, d2, d3, d4⟩ := k7.c5
        obtain ⟨i0, i1, i2, i3, i4⟩ := k8.c5
        have hC6 := C_ext hC5 hb
        clear a0 a1 a2 a3 a4 k9 hst' h5
        rcases h5r with ⟨rfl, rfl, rfl⟩ | ⟨rfl, f, rfl, him, hf⟩
        · go_wp2_with (first
            | (go_at_call 27; refine Calls.mono (same_yes true none 0 none s A5 cc5 _ (.unk _ _ _) (by omega) HREL.out HUP.out (C_ext hC6 hb8) hcc5 hlen) ?_; rintro e w9 ⟨rfl, hb9⟩)
            | (go_at_call 29; refine Calls.mono (may_lines_unknown S W L none _) ?_; rintro e w8 ⟨rfl, hb8⟩; obtain ⟨a0, a1, a2, a3, a4⟩ := (k7.ext hb8).c5; obtain ⟨b0, b1, b2, b3, b4⟩ := (k8.ext hb8).c5))
          go_ret
          exact ⟨rfl, hxr.trans (hb8.trans hb9)⟩
        · obtain ⟨wp, hwp⟩ : ∃ wp, wp = wr := ⟨wr, rfl⟩
          subst hwp
          go_wp2_with (go_at_call 29; refine Calls.mono (may_lines S W L p5 (64 * l.length) f _ him (by omega)) ?_; rintro e w8 ⟨v, K, ⟨rfl, hdom, hKn⟩, hh, hb8⟩; obtain ⟨Bv, cB, rfl, hcB, hmB, hK⟩ := hh.C; have hW := hh.W; clear hh hdom hK)
          have hmB2 : cB ≤ 9223372036854775807 := by unfold maxLen at hmB; omega
          go_loopw [58] (fun i wz => ∃ j : Nat, i = .int .i64 j ∧ j ≤ K.length ∧ RowW wz wp.heap.size Bv K.length ∧ Ext wp wz) (fun i _ => K.length - (Go.RowKit.intOf i).toNat)
          case atStart => exact ⟨0, rfl, Nat.zero_le _, hW, hb8⟩
          case round =>
            obtain ⟨j, rfl, hj, hWz, hbz⟩ := hrel
            by_cases hlt : j < K.length
            · obtain ⟨gv, cur, hBv, hgv, hblk, hcs⟩ := hWz (by omega)
              subst hBv
              have hsome : ∃ u, wr.cell? ⟨gv, j, none⟩ = some u := ⟨_, (hblk.cell j).trans (Array.getElem?_eq_getElem (by omega))⟩
              obtain ⟨uo, hu⟩ := hsome
              have hfz : wr.frozen? ⟨gv, j, none⟩ = false := hblk.free j
              go_wp2
              go_roundw
              case rel => exact ⟨j + 1, by go_num, by omega, RowW.put hgv hblk hcs, hbz.set1 hgv⟩
              case measure => simp [Go.RowKit.intOf]; omega
            · obtain rfl : j = K.length := by omega
              obtain ⟨a0, a1, a2, a3, a4⟩ := (k7.ext hbz).c5
              obtain ⟨b0, b1, b2, b3, b4⟩ := (k8.ext hbz).c5
              go_wp2_with (go_at_call 27; refine Calls.mono (same_yes false p5 (64 * l.length) (some f) s A5 cc5 _ (.inr ⟨rfl, f, rfl, him.ext hbz, hf⟩) (by omega) HREL.out HUP.out (C_ext hC6 hbz) hcc5 hlen) ?_; rintro e w9 ⟨rfl, hb9⟩)
              go_ret
              exact ⟨rfl, hxr.trans (hbz.trans hb9)⟩
end Go.Proofs.Ytjckghdgogkeaaa
