/- The contract of cache.Lines. -/
import Derived.Test.YtdbgnniedcibeaaCacheD
namespace Go.Proofs.Ytdbgnniedcibeaa
open Go.RowKit Go.Proofs.YtdbgnniedcibeaaW.PrintWords
set_option linter.unusedVariables false

theorem RowB.C {w : World} {base : Nat} {v : Value} {r : List Int} (h : RowB w base v r) : ∃ A c, v = .slice A r.length c ∧ r.length ≤ c ∧ KI.C w A r.length r := by
  rcases h.cases with ⟨rfl, rfl⟩ | ⟨g, cap, cur, rfl, _, hB, hn, hm, _, ht⟩
  · exact ⟨none, 0, rfl, Nat.le_refl _, Kd.C_nil _ _⟩
  · refine ⟨some ⟨g, 0, none⟩, cap, rfl, hn, rfl, by omega, fun _ => ⟨_, rfl, fun j q hj => ⟨[.int .i64 q], rfl, rfl, fun i u hu => ?_⟩⟩⟩
    cases i with
    | succ _ => cases hu
    | zero =>
      cases hu
      have hjl : j < r.length := (List.getElem?_eq_some_iff.1 hj).1
      show w.cell? (Addr.add ⟨g, 0, none⟩ (j * 1 + 0)) = _
      have e : Addr.add ⟨g, 0, none⟩ (j * 1 + 0) = ⟨g, j, none⟩ := by rw [Addr.add_lit, Nat.zero_add, Nat.mul_one, Nat.add_zero]
      rw [e, hB.cell, ht j hjl, List.getD, hj]
      rfl

/-- Block g holds m slices, each a row of its own. -/
structure RsP (w : World) (base g m : Nat) (vs : List Value) (R : Nat → List Int) : Prop where
  hg : base ≤ g
  kg : Blk w g (.cells vs.toArray 29)
  lenv : vs.length = m
  row : ∀ (i : Nat) (v : Value), vs[i]? = some v → RowB w base v (R i)
  apart : ∀ (i j k : Nat) (v v' : Value), vs[i]? = some v → vs[j]? = some v' → v.ownBlock = some k → v'.ownBlock = some k → i = j
theorem RsP.ext {w w' : World} {base g m : Nat} {vs : List Value} {R : Nat → List Int} (h : RsP w base g m vs R) (e : Ext w w') : RsP w' base g m vs R :=
  ⟨h.hg, h.kg.ext e, h.lenv, fun i v hv => (h.row i v hv).ext e, h.apart⟩
theorem RsP.lower {w : World} {base base' g m : Nat} {vs : List Value} {R : Nat → List Int} (h : RsP w base g m vs R) (e : base' ≤ base) : RsP w base' g m vs R :=
  ⟨Nat.le_trans e h.hg, h.kg, h.lenv, fun i v hv => (h.row i v hv).lower e, h.apart⟩
theorem RsP.start {w : World} {base g m : Nat} {R : Nat → List Int} (hg : base ≤ g) (kg : Blk w g (.cells (List.replicate m (Value.slice none 0 0)).toArray 29)) (hR : ∀ i, R i = []) : RsP w base g m (List.replicate m (Value.slice none 0 0)) R := by
  refine ⟨hg, kg, by simp, fun i v hv => ?_, fun i j k v v' hv hv' hk hk' => ?_⟩
  · rw [List.getElem?_replicate] at hv
    split at hv
    · cases hv; rw [hR]; exact RowB.nil _ _
    · cases hv
  · rw [List.getElem?_replicate] at hv
    split at hv
    · cases hv; cases hk
    · cases hv
theorem RsP.put {w w' : World} {base g m i : Nat} {vs : List Value} {R R' : Nat → List Int} {v' : Value} (h : RsP w base g m vs R) (hbw : base ≤ w.heap.size) (e : Ext w w') (hv : RowB w' w.heap.size v' (R' i)) (hR : ∀ j, j ≠ i → R' j = R j) : RsP (w'.setCell ⟨g, i, none⟩ v') base g m (vs.set i v') R' := by
  have hne : ∀ k v2 r2, RowB w' base v2 r2 → v2.ownBlock = some k → k ≠ g := fun k v2 r2 h2 hk e2 => by
    subst e2
    obtain ⟨cs, hb⟩ := h2.kind k hk
    have := Blk.agree (h.kg.ext e) hb
    injection this with _ e _
    exact absurd e (by decide)
  refine ⟨h.hg, (h.kg.ext e).putL, by rw [List.length_set]; exact h.lenv, fun j v2 hj => ?_, fun j1 j2 k u1 u2 h1 h2 hk1 hk2 => ?_⟩
  · rw [List.getElem?_set] at hj
    by_cases c : i = j
    · subst c
      rw [if_pos rfl] at hj
      split at hj
      · cases hj
        have hv2 := hv.lower hbw
        exact hv2.store fun k hk => hne k _ _ hv2 hk
      · cases hj
    · rw [if_neg c] at hj
      rw [hR j (Ne.symm c)]
      have := (h.row j v2 hj).ext e
      exact this.store fun k hk => hne k _ _ this hk
  · rw [List.getElem?_set] at h1 h2
    have key : ∀ (j : Nat) (u : Value), vs[j]? = some u → u.ownBlock = some k → v'.ownBlock = some k → False := fun j u hj hk hk' => by
      have := ((h.row j u hj).lt k hk).2
      have := (hv.lt k hk').1
      omega
    by_cases e1 : i = j1
    · by_cases e2 : i = j2
      · omega
      · rw [if_pos e1] at h1
        rw [if_neg e2] at h2
        split at h1
        · cases h1
          exact (key j2 u2 h2 hk2 hk1).elim
        · cases h1
    · by_cases e2 : i = j2
      · rw [if_neg e1] at h1
        rw [if_pos e2] at h2
        split at h2
        · cases h2
          exact (key j1 u1 h1 hk1 hk2).elim
        · cases h2
      · rw [if_neg e1] at h1
        rw [if_neg e2] at h2
        exact h.apart j1 j2 k u1 u2 h1 h2 hk1 hk2
theorem RsP.C {w : World} {base g m : Nat} {vs : List Value} {R : Nat → List Int} (h : RsP w base g m vs R) {rows : List (List Int)} (hl : rows.length = m) (hm : m ≤ 1000) (hR : ∀ i, i < m → R i = rows.getD i []) : KL.C w (some ⟨g, 0, none⟩) m rows := by
  refine ⟨hl, by omega, fun _ => ⟨_, rfl, fun j q hj => ?_⟩⟩
  have hjl : j < rows.length := (List.getElem?_eq_some_iff.1 hj).1
  have hjv : j < vs.length := by have := h.lenv; omega
  have hq : rows.getD j [] = q := by rw [List.getD, hj]; rfl
  have hrow := h.row j _ (List.getElem?_eq_getElem hjv)
  rw [hR j (by omega), hq] at hrow
  obtain ⟨A, c, e, hc, hC⟩ := hrow.C
  refine ⟨[vs[j]], rfl, ⟨A, c, by rw [e], hc, hC⟩, fun i u hu => ?_⟩
  cases i with
  | succ _ => cases hu
  | zero =>
    cases hu
    show w.cell? (Addr.add ⟨g, 0, none⟩ (j * 1 + 0)) = _
    have e : Addr.add ⟨g, 0, none⟩ (j * 1 + 0) = ⟨g, j, none⟩ := by rw [Addr.add_lit, Nat.zero_add, Nat.mul_one, Nat.add_zero]
    rw [e, h.kg.cell]
    simp [hjv]

set_option maxHeartbeats 1000000 in
theorem cache_lines {w : World} {base q : Nat} {S W L : Int} {F : Nat → Prop} {rows : List (List Int)} (g : Geo S W L) (h : CaB w base q S W L F rows) (hr : Rows S W rows) :
    Calls Try.prog 41 #[.pointer (some ⟨q, 0, none⟩)] w fun e w' => ∃ g' vs, e = .returned (.slice (some ⟨g', 0, none⟩) rows.length rows.length) ∧ RsP w' w.heap.size g' rows.length vs (fun i => rows.getD i []) ∧ Ext w w' := by
  obtain ⟨gb, us, h⟩ := h
  have hs1 := g.s1
  have hs64 := g.s64
  have hw8 := g.w8
  obtain ⟨m, rfl⟩ : ∃ m : Nat, S = m := ⟨S.toNat, by omega⟩
  have hlen : rows.length = m := by have := hr.len; omega
  rw [hlen]
  have kq := h.cells m
  have kg := h.kg
  obtain ⟨a0, a1, a2, a3⟩ := kq.c4
  have hql := kq.lt
  have hgl := kg.lt
  have hmk := run_make_row' (P := Try.prog) 62 29 (.slice none 0 0) 24 Try.underlying62 (by kernel_rfl) rfl .i64 .i64 m (by omega) (by omega)
  go_enter Try.func41, Try.ntmps41
  go_wp2
  go_loopw [19] (fun i wr => ∃ (j : Nat) (vs : List Value), i = .int .i64 j ∧ j ≤ m ∧ Ext w wr ∧ RsP wr w.heap.size w.heap.size m vs (fun i => if i < j then rows.getD i [] else [])) (fun i _ => m - (Go.RowKit.intOf i).toNat)
  case atStart => exact ⟨0, _, rfl, Nat.zero_le _, (by repeat (first | ((with_reducible refine Ext.set1 ?_ ?_); (first | (focus (simp; done)) | (focus (simp; omega)) | (focus omega))) | (with_reducible refine Ext.alloc ?_ _) | (with_reducible exact Ext.refl _) | (refine Ext.trans ?_ (by with_reducible assumption)))), RsP.start (Nat.le_refl _) (by rw [← madeCells_one]; exact Blk.new rfl) (fun i => by simp)⟩
  case round =>
    obtain ⟨j, vs, rfl, hj, hext, hrs⟩ := hrel
    by_cases hlt : j < m
    · have kg1 := kg.ext hext
      obtain ⟨v, hv, hrow, hvF, hvg⟩ := h.at_ (i := j) (by omega)
      obtain ⟨A, c, rfl, hrc⟩ := hrow.slice
      obtain ⟨b0, b1⟩ := vs_cell kg1 hv
      have hle := hr.short j
      obtain ⟨r, hrr⟩ : ∃ r, rows.getD j [] = r := ⟨_, rfl⟩
      rw [hrr] at hrow hle b0
      go_wp2_with (first
        | (go_at_call 45; refine Calls.mono (row_clone (hrow.ext hext) (by omega)) ?_; rintro e w2 ⟨v2, rfl, hrow2, hb2⟩; have hrs2 := hrs.ext hb2; obtain ⟨A2, c2, rfl, _⟩ := hrow2.slice; obtain ⟨d0, d1⟩ := vs_cell (i := j) hrs2.kg (List.getElem?_eq_getElem (by rw [hrs2.lenv]; exact hlt))))
      refine ⟨⟨j + 1, _, by go_num, by omega, (by repeat (first | ((with_reducible refine Ext.set1 ?_ ?_); (first | (focus (simp; done)) | (focus (simp; omega)) | (focus omega))) | (with_reducible refine Ext.alloc ?_ _) | (with_reducible exact Ext.refl _) | (refine Ext.trans ?_ (by with_reducible assumption)))), RsP.put (R' := fun i => if i < j + 1 then rows.getD i [] else []) hrs (by have := hext.size; omega) hb2 (by rw [if_pos (by omega), hrr]; exact hrow2) (fun k hk => by by_cases c : k < j <;> simp [c] <;> omega)⟩, by simp [Go.RowKit.intOf]; omega⟩
    · obtain rfl : j = m := by omega
      go_wp2
      go_ret
      refine ⟨_, vs, rfl, ⟨hrs.hg, hrs.kg, hrs.lenv, fun i v hv => ?_, hrs.apart⟩, hext⟩
      have := hrs.row i v hv
      rwa [if_pos (by have := (List.getElem?_eq_some_iff.1 hv).1; have := hrs.lenv; omega)] at this
end Go.Proofs.Ytdbgnniedcibeaa
