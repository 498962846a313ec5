/- The contract of ontimelaw31.same; what lines a state may have. -/
import Derived.Test.YtjckghdgogkeaaaDescr0
namespace Go.Proofs.Ytjckghdgogkeaaa
open Go.RowKit Go.Maps Go.Proofs.YtjckghdgogkeaaaW.PrintWords Go.Proofs.Ytjckghdgogkeaaa.PMayDescribes
set_option linter.unusedVariables false

theorem StB.none_inv' {w : World} {W : Int} {n : Nat} {u : Bool} {p : Option Nat} (h : StB w W n none u p) : u = true ∧ p = none := by
  rcases h with ⟨h1, h2, _⟩ | ⟨_, f, h, _⟩
  · exact ⟨h1, h2⟩
  · cases h

/-! ### no line beyond M -/
def Upto (M : Int) (l : List S81) : Prop := ∀ a ∈ l, a.f0 ≤ M
theorem Upto.put {M : Int} {l : List S81} (h : Upto M l) {x v : Int} (hx : x ≤ M) : Upto M (rPut l x v) := fun a ha => by
  rcases mem_put ha with rfl | ha
  · exact hx
  · exact h a ha.1
theorem Upto.aged {M S W k x : Int} {l : List S81} (h : Upto M l) : Upto M (agedR S W k x l) := fun b hb => by
  obtain ⟨a, ha, he, _⟩ := mem_aged hb
  have := h a ha
  omega
theorem Upto.puts {M : Int} : ∀ (n : Nat) {l : List S81} (x : Int), Upto M l → x + n - 1 ≤ M → Upto M (rPuts n l x)
  | 0, l, x, h, _ => h
  | n + 1, l, x, h, hx => Upto.puts n (x + 1) (h.put (by omega)) (by omega)
theorem Upto.acc {M S W : Int} {s : RS} (h : Upto M s.2) {x : Int} (hx : x ≤ M) : Upto M (rAcc S W s x).2 := by
  unfold rAcc
  split
  · exact h
  · split
    · exact h
    · exact h.aged.put hx
theorem Upto.range {M S W : Int} {s : RS} (h : Upto M s.2) {lo hi : Int} (hx : hi ≤ M) : Upto M (rRange S W s lo hi).2 := by
  unfold rRange
  split
  · exact h
  · split
    · exact h
    · split
      · exact h.acc (by omega)
      · split
        · intro a ha; cases ha
        · exact h.puts _ _ (by omega)
theorem Upto.step {M S W : Int} {s : RS} (h : Upto M s.2) {lo hi : Int} (hx : hi ≤ M) : Upto M (rStep S W s lo hi).2 := by
  unfold rStep
  split
  · exact h.acc (by omega)
  · exact h.range hx
theorem Upto.steps {M S W : Int} : ∀ (l : List S45) {s : RS}, Upto M s.2 → (∀ x ∈ l, x.f1 ≤ M) → Upto M (rSteps S W s l).2
  | [], _, h, _ => h
  | x :: t, _, h, hx => Upto.steps t (h.step (hx x (by simp))) fun y hy => hx y (by simp [hy])

/-! ### the lines of a list, as the keys of its map -/
theorem dom_rep {W : Int} {l : List S81} {f : FM} (h : Rep W l f) : Dom f (l.map S81.f0) := by
  constructor
  · have key : ∀ l : List S81, Srt l → (l.map S81.f0).Pairwise (· < ·) := by
      intro l
      induction l with
      | nil => intro _; exact List.Pairwise.nil
      | cons a t ih =>
        intro hs
        refine List.Pairwise.cons ?_ (ih hs.2)
        intro b hb
        obtain ⟨c, hc, rfl⟩ := List.mem_map.1 hb
        exact hs.1 c hc
    exact key l h.srt
  · intro x
    rw [← h.look]
    have key : ∀ l : List S81, x ∈ l.map S81.f0 ↔ (look l x).isSome = true := by
      intro l
      induction l with
      | nil => simp [look]
      | cons a t ih =>
        simp only [List.map_cons, List.mem_cons, look, ih]
        by_cases c : a.f0 = x
        · simp [c]
        · rw [if_neg c]
          constructor
          · rintro (e | e)
            · exact absurd e.symm c
            · exact e
          · exact .inr
    exact key l
theorem look_mem : ∀ {l : List S81}, Srt l → ∀ {a : S81}, a ∈ l → look l a.f0 = some a.f1
  | b :: t, hs, a, h => by
    simp only [look]
    rcases List.mem_cons.1 h with rfl | h
    · rw [if_pos rfl]
    · have := hs.1 a h
      rw [if_neg (by omega)]
      exact look_mem hs.2 h
theorem at_line {w : World} {A : Option Addr} {n : Nat} {xs : List S81} (h : k81.C w A n xs) (k : Nat) (hk : k < n) : ∃ ad, A = some ad ∧ w.cell? (ad.add (k * 2)) = some (.int .i64 (xs.getD k z81).f0) ∧ w.cell? ⟨(ad.add (k * 2)).block, (ad.add (k * 2)).off + 1, none⟩ = some (.int .i64 (xs.getD k z81).f1) := by
  have := at_T81 h (k : Int) (by omega) (by omega)
  simpa [rd_T81] using this
theorem Holds1.C {w : World} {base : Nat} {v : Value} {K : List Int} (h : Holds1 w base v K) : ∃ A c, v = .slice A K.length c ∧ K.length ≤ c ∧ c ≤ maxLen ∧ KI.C w A K.length K := by
  rcases h.1.2 with ⟨rfl, h0⟩ | ⟨g, cap, cur, rfl, _, hg, hle, hm, _, _⟩
  · obtain rfl : K = [] := List.eq_nil_of_length_eq_zero h0
    exact ⟨none, 0, rfl, Nat.le_refl _, Nat.zero_le _, Kd.C_nil _ _⟩
  · refine ⟨some ⟨g, 0, none⟩, cap, rfl, hle, hm, rfl, by unfold maxLen at hm; omega, fun _ => ⟨_, rfl, fun j q hj => ⟨[.int .i64 q], rfl, rfl, fun i u hu => ?_⟩⟩⟩
    cases i with
    | succ _ => cases hu
    | zero =>
      cases hu
      have hjl : j < K.length := (List.getElem?_eq_some_iff.1 hj).1
      have := h.1.cells (g := g) rfl j (.int .i64 q) (by rw [List.getElem?_map, hj]; rfl)
      show w.cell? (Addr.add ⟨g, 0, none⟩ (j * 1 + 0)) = _
      rw [Nat.mul_one, Nat.add_zero]
      exact this

set_option maxHeartbeats 1000000 in
theorem same_unk (S W L : Int) (A : Option Addr) (c : Nat) (w : World) :
    Calls Try.prog 27 #[.agg #[.int .i64 S, .int .i64 W, .int .i64 L, .bool true, .map none], .agg #[.int .i64 S, .int .i64 W, .int .i64 L, .bool true, .slice A 0 c]] w fun e w' => e = .returned (.bool true) ∧ Ext w w' := by
  go_enter Try.func27, Try.ntmps27
  go_wp2_with (first
    | (have gq := hb2; clear gq; go_at_call 23; refine Calls.mono (may_age_unknown S W L (-1) none _) ?_; rintro e w3 ⟨rfl, hb3⟩)
    | (go_at_call 23; refine Calls.mono (may_age_unknown S W L 3 none _) ?_; rintro e w2 ⟨rfl, hb2⟩; obtain ⟨d0, d1, d2, d3, d4⟩ := Blk.c5 (w := w2) (B := w.heap.size) (by repeat (first | (with_reducible assumption) | ((with_reducible refine Blk.new ?_); (first | (focus rfl) | (focus (simp; done)) | (focus omega))) | ((with_reducible refine Blk.set1 ?_ ?_); (focus omega)) | (with_reducible refine Blk.alloc ?_) | (refine Blk.ext ?_ (by with_reducible assumption)))))
    | (go_at_call 29; refine Calls.mono (may_lines_unknown S W L none _) ?_; rintro e w1 ⟨rfl, hb1⟩; obtain ⟨a0, a1, a2, a3, a4⟩ := Blk.c5 (w := w1) (B := w.heap.size) (by repeat (first | (with_reducible assumption) | ((with_reducible refine Blk.new ?_); (first | (focus rfl) | (focus (simp; done)) | (focus omega))) | ((with_reducible refine Blk.set1 ?_ ?_); (focus omega)) | (with_reducible refine Blk.alloc ?_) | (refine Blk.ext ?_ (by with_reducible assumption)))); obtain ⟨b0, b1, b2, b3, b4⟩ := Blk.c5 (w := w1) (B := w.heap.size + 1) (by repeat (first | (with_reducible assumption) | ((with_reducible refine Blk.new ?_); (first | (focus rfl) | (focus (simp; done)) | (focus omega))) | ((with_reducible refine Blk.set1 ?_ ?_); (focus omega)) | (with_reducible refine Blk.alloc ?_) | (refine Blk.ext ?_ (by with_reducible assumption))))))
  go_ret
  exact ⟨rfl, (by repeat (first | ((with_reducible refine Ext.set1 ?_ ?_); (first | (focus (simp; done)) | (focus (simp; omega)) | (focus omega))) | (with_reducible refine Ext.alloc ?_ _) | (with_reducible exact Ext.refl _) | (refine Ext.trans ?_ (by with_reducible assumption))))⟩

set_option maxHeartbeats 2000000 in
theorem same_some {S W L : Int} (p : Option Nat) (n : Nat) (f : FM) (l : List S81) (A : Option Addr) (c : Nat) (w : World) (him : IMapO w p n f) (hn : n ≤ 1000000) (hrep : Rep W l f) (hup : Upto 1000000 l) (hC : k81.C w A l.length l) (hc : l.length ≤ c) (hlen : l.length < 100000) :
    Calls Try.prog 27 #[.agg #[.int .i64 S, .int .i64 W, .int .i64 L, .bool false, .map p], .agg #[.int .i64 S, .int .i64 W, .int .i64 L, .bool false, .slice A l.length c]] w fun e w' => e = .returned (.bool true) ∧ Ext w w' := by
  have HREP := Lib.hid hrep; clear hrep
  have HUP := Lib.hid hup; clear hup
  go_enter Try.func27, Try.ntmps27
  go_wp2_with (go_at_call 29; refine Calls.mono (may_lines S W L p n f _ (him.ext (by repeat (first | ((with_reducible refine Ext.set1 ?_ ?_); (first | (focus (simp; done)) | (focus (simp; omega)) | (focus omega))) | (with_reducible refine Ext.alloc ?_ _) | (with_reducible exact Ext.refl _) | (refine Ext.trans ?_ (by with_reducible assumption))))) hn) ?_; rintro e w1 ⟨v, K, ⟨rfl, hdom, hKn⟩, hh, hb1⟩; obtain rfl : K = l.map S81.f0 := hdom.unique (dom_rep HREP.out); obtain ⟨B, cB, rfl, hcB, hmB, hK⟩ := hh.C; have hml : (l.map S81.f0).length = l.length := List.length_map _; rw [hml] at hcB hK ⊢; clear hh hdom hKn; obtain ⟨a0, a1, a2, a3, a4⟩ := Blk.c5 (w := w1) (B := w.heap.size) (by repeat (first | (with_reducible assumption) | ((with_reducible refine Blk.new ?_); (first | (focus rfl) | (focus (simp; done)) | (focus omega))) | ((with_reducible refine Blk.set1 ?_ ?_); (focus omega)) | (with_reducible refine Blk.alloc ?_) | (refine Blk.ext ?_ (by with_reducible assumption)))); obtain ⟨b0, b1, b2, b3, b4⟩ := Blk.c5 (w := w1) (B := w.heap.size + 1) (by repeat (first | (with_reducible assumption) | ((with_reducible refine Blk.new ?_); (first | (focus rfl) | (focus (simp; done)) | (focus omega))) | ((with_reducible refine Blk.set1 ?_ ?_); (focus omega)) | (with_reducible refine Blk.alloc ?_) | (refine Blk.ext ?_ (by with_reducible assumption)))))
  have k2 : Blk w1 w.heap.size (mayO S W L false p) := (by repeat (first | (with_reducible assumption) | ((with_reducible refine Blk.new ?_); (first | (focus rfl) | (focus (simp; done)) | (focus omega))) | ((with_reducible refine Blk.set1 ?_ ?_); (focus omega)) | (with_reducible refine Blk.alloc ?_) | (refine Blk.ext ?_ (by with_reducible assumption))))
  have k3 : Blk w1 (w.heap.size + 1) (refO S W L false (.slice A l.length c)) := (by repeat (first | (with_reducible assumption) | ((with_reducible refine Blk.new ?_); (first | (focus rfl) | (focus (simp; done)) | (focus omega))) | ((with_reducible refine Blk.set1 ?_ ?_); (focus omega)) | (with_reducible refine Blk.alloc ?_) | (refine Blk.ext ?_ (by with_reducible assumption))))
  have hx1 : Ext w w1 := (by repeat (first | ((with_reducible refine Ext.set1 ?_ ?_); (first | (focus (simp; done)) | (focus (simp; omega)) | (focus omega))) | (with_reducible refine Ext.alloc ?_ _) | (with_reducible exact Ext.refl _) | (refine Ext.trans ?_ (by with_reducible assumption))))
  clear a0 a1 a2 a3 a4 b0 b1 b2 b3 b4 hb1
  go_loopw [61] (fun i wr => ∃ j : Nat, i = .int .i64 j ∧ j ≤ l.length ∧ Blk wr w.heap.size (mayO S W L false p) ∧ Blk wr (w.heap.size + 1) (refO S W L false (.slice A l.length c)) ∧ Ext w1 wr) (fun i _ => l.length - (Go.RowKit.intOf i).toNat)
  case atStart => exact ⟨0, rfl, Nat.zero_le _, k2, k3, Ext.refl _⟩
  case round =>
    clear k2 k3
    obtain ⟨j, rfl, hj, k2, k3, hb⟩ := hrel
    have hl2 := k2.lt
    have hl3 := k3.lt
    have hxr := hx1.trans hb
    obtain ⟨a0, a1, a2, a3, a4⟩ := k2.c5
    obtain ⟨b0, b1, b2, b3, b4⟩ := k3.c5
    by_cases hlt : j < l.length
    · obtain ⟨ad, hA, c0, c1⟩ := at_line (C_ext hC hxr) j hlt
      subst hA
      have ham : l.getD j z81 ∈ l := by
        rw [List.getD_eq_getElem?_getD, List.getElem?_eq_getElem hlt]
        exact List.getElem_mem hlt
      have ek : (l.map S81.f0).getD j 0 = (l.getD j z81).f0 := by
        simp [List.getD_eq_getElem?_getD, List.getElem?_map, List.getElem?_eq_getElem hlt]
      have hup := HUP.out _ ham
      have hfit := HREP.out.fit _ ham
      have hlk := (HREP.out.look _).symm.trans (look_mem HREP.out.srt ham)
      obtain ⟨⟨x0, x1⟩, hx⟩ : ∃ x, x = l.getD j z81 := ⟨_, rfl⟩
      rw [← hx] at c0 c1 ek hup hfit hlk
      dsimp only at c0 c1 ek hup hfit hlk
      clear hx ham
      obtain ⟨f0, f1, f2⟩ := hfit
      have hi0 : I64 x0 := .of (by omega) (by omega)
      have hi1 : I64 (x0 + 1) := .of (by omega) (by omega)
      have hg0 : (f x0).getD 0 = x1 := by rw [hlk]; rfl
      have hs0 : (f x0).isSome = true := by rw [hlk]; rfl
      obtain ⟨cc, hcc⟩ : ∃ cc, (f (x0 + 1)).getD 0 = cc := ⟨_, rfl⟩
      obtain ⟨ok, hok⟩ : ∃ ok, (f (x0 + 1)).isSome = ok := ⟨_, rfl⟩
      obtain ⟨rr, hrr⟩ : ∃ rr, (look l (x0 + 1)).getD (-1) = rr := ⟨_, rfl⟩
      have hro : decide (0 ≤ rr) = ok := by
        rw [← hrr, ← hok, HREP.out.look]
        cases hf1 : f (x0 + 1) with
        | none => rfl
        | some b =>
          have := (look_fit HREP.out.fit ((HREP.out.look _).trans hf1)).2.1
          simpa using this
      have hage := age_f (x0 + 1) S W L false l (by omega) (l.length + 1) (Nat.le_refl _)
      rw [hrr] at hage
      have HG0 := Lib.hid hg0; have HS0 := Lib.hid hs0; have HCC := Lib.hid hcc; have HOK := Lib.hid hok; have HRO := Lib.hid hro; have HAGE := Lib.hid hage; have EK := Lib.hid ek
      clear hg0 hs0 hcc hok hro hage ek hlk hrr
      go_wp2_with (go_at_call 23; refine Calls.mono (may_age S W L x0 p n f _ (him.ext (by repeat (first | ((with_reducible refine Ext.set1 ?_ ?_); (first | (focus (simp; done)) | (focus (simp; omega)) | (focus omega))) | (with_reducible refine Ext.alloc ?_ _) | (with_reducible exact Ext.refl _) | (refine Ext.trans ?_ (by with_reducible assumption))))) hi0 x1 true HG0.out HS0.out) ?_; rintro e w2 ⟨rfl, hb2⟩)
      have y2 : Blk w2 w.heap.size (mayO S W L false p) := (by repeat (first | (with_reducible assumption) | ((with_reducible refine Blk.new ?_); (first | (focus rfl) | (focus (simp; done)) | (focus omega))) | ((with_reducible refine Blk.set1 ?_ ?_); (focus omega)) | (with_reducible refine Blk.alloc ?_) | (refine Blk.ext ?_ (by with_reducible assumption))))
      have y3 : Blk w2 (w.heap.size + 1) (refO S W L false (.slice (some ad) l.length c)) := (by repeat (first | (with_reducible assumption) | ((with_reducible refine Blk.new ?_); (first | (focus rfl) | (focus (simp; done)) | (focus omega))) | ((with_reducible refine Blk.set1 ?_ ?_); (focus omega)) | (with_reducible refine Blk.alloc ?_) | (refine Blk.ext ?_ (by with_reducible assumption))))
      have y12 : Blk w2 wr.heap.size (.cells #[.int .i64 x0, .int .i64 x1] 81) := (by repeat (first | (with_reducible assumption) | ((with_reducible refine Blk.new ?_); (first | (focus rfl) | (focus (simp; done)) | (focus omega))) | ((with_reducible refine Blk.set1 ?_ ?_); (focus omega)) | (with_reducible refine Blk.alloc ?_) | (refine Blk.ext ?_ (by with_reducible assumption))))
      have hE2 : Ext w1 w2 := (hb.alloc _).trans hb2
      clear hb2 a0 a1 a2 a3 a4 b0 b1 b2 b3 b4 c0 c1 k2 k3
      obtain ⟨bd, hB, q0⟩ := at_num (C_ext hK hE2) j hlt
      subst hB
      refine wp_region_ext (by kernel_rfl) ?_
      repeat (
        refine wpQuiet_step (fun K hK2 => ?_)
        go_simp
        first
          | (refine hK2 _ ?_; clear hK2 K)
          | (refine ⟨_, fun w' hw' => rfl, hK2 _ ?_⟩; clear hK2 K)
          | (apply Exists.intro
             refine ⟨fun w' hw' => ?_, hK2 _ ?_⟩
             (obtain ⟨s0, s1⟩ : w'.cell? ⟨wr.heap.size, 0, none⟩ = some (.int .i64 x0) ∧ w'.cell? ⟨wr.heap.size, 1, none⟩ = some (.int .i64 x1) := ⟨(y12.ext hw').cell 0, (y12.ext hw').cell 1⟩
              obtain ⟨bd', e', qk⟩ := at_num (C_ext hK (hE2.trans hw')) j hlt
              cases e'
              rw [EK.out] at qk
              go_simp
              first | rfl | (rw [qk]; rfl))
             clear hK2 K))
      refine wpQuiet_nil ?_
      intro w3 hb3
      have hE3 := hE2.trans hb3
      have z2 := y2.ext hb3
      have z3 := y3.ext hb3
      have z12 := y12.ext hb3
      clear y2 y3 y12 hE2 hb3 q0
      obtain ⟨a0, a1, a2, a3, a4⟩ := z2.c5
      have b0 : w3.cell? ⟨wr.heap.size, 0, none⟩ = some (.int .i64 x0) := z12.cell 0
      have hro := HRO.out
      go_wp2_with (first
        | (go_at_call 23; refine Calls.mono (may_age S W L (x0 + 1) p n f _ (him.ext (hx1.trans hE3)) hi1 cc ok HCC.out HOK.out) ?_; rintro e w4 ⟨rfl, hb4⟩; obtain ⟨d0, d1, d2, d3, d4⟩ := (z3.ext hb4).c5; have d5 : w4.cell? ⟨wr.heap.size, 0, none⟩ = some (.int .i64 x0) := (z12.ext hb4).cell 0)
        | (go_at_call 35; refine Calls.mono (ontimeref31_State_Age.calls (l.length + 1) S W L false (some ad) c l (x0 + 1) rr _ (C_ext hC ((hx1.trans hE3).trans hb4)) hc HAGE.out) ?_; rintro e w5 ⟨rfl, hb5'⟩; have hb5 : Ext w4 w5 := hb5'; clear hb5'))
      go_roundw
      case rel => exact ⟨j + 1, by go_num, by omega, z2.ext (hb4.trans hb5), z3.ext (hb4.trans hb5), hE3.trans (hb4.trans hb5)⟩
      case measure => simp [Go.RowKit.intOf]; omega
    · obtain rfl : j = l.length := by omega
      go_wp2
      go_ret
      exact ⟨rfl, hxr⟩
/-- A state, and the reference's that says the same. -/
theorem same_yes {S W L : Int} (u : Bool) (p : Option Nat) (n : Nat) (st : St) (s : RS) (A : Option Addr) (c : Nat) (w : World) (h : StB w W n st u p) (hn : n ≤ 1000000) (hrel : Rel W st s) (hup : Upto 1000000 s.2) (hC : k81.C w A s.2.length s.2) (hc : s.2.length ≤ c) (hlen : s.2.length < 100000) :
    Calls Try.prog 27 #[.agg #[.int .i64 S, .int .i64 W, .int .i64 L, .bool u, .map p], .agg #[.int .i64 S, .int .i64 W, .int .i64 L, .bool s.1, .slice A s.2.length c]] w fun e w' => e = .returned (.bool true) ∧ Ext w w' := by
  rcases hrel with ⟨rfl, rfl⟩ | ⟨f, rfl, hu, hrep⟩
  · obtain ⟨rfl, rfl⟩ := h.none_inv'
    exact same_unk S W L A c w
  · rcases h with ⟨_, _, h⟩ | ⟨rfl, f', he, him, _⟩
    · cases h
    · cases he
      rw [hu]
      exact same_some p n f s.2 A c w him hn hrep hup hC hc hlen
end Go.Proofs.Ytjckghdgogkeaaa
