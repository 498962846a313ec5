/- The contracts of cache.Flush and cache.Clone. -/
import Derived.Test.YtdbgnniedcibeaaCacheE
import Derived.Deep.DrawnRows
namespace Go.Proofs.Ytdbgnniedcibeaa
open Go.RowKit Go.Proofs.YtdbgnniedcibeaaW.PrintWords
set_option linter.unusedVariables false

theorem RsP.cab {w : World} {base q g m : Nat} {W L : Int} {vs : List Value} {rows : List (List Int)} (h : RsP w base g m vs (fun i => rows.getD i [])) (hl : rows.length = m) (hq : base ≤ q) (kq : Blk w q (.cells #[.int .i64 (m : Int), .int .i64 W, .int .i64 L, .slice (some ⟨g, 0, none⟩) m m] 64)) :
    CaB w base q (m : Int) W L (fun k => k = g ∨ ∃ (i : Nat) (v : Value), vs[i]? = some v ∧ v.ownBlock = some k) rows := by
  refine ⟨g, vs, hq, kq, h.kg, .inl rfl, by rw [h.lenv, Int.toNat_natCast], by rw [hl, Int.toNat_natCast], fun i v r hv hr => ?_, h.apart, fun k hk => ?_⟩
  · have := h.row i v hv
    have e : rows.getD i [] = r := by rw [List.getD, hr]; rfl
    rw [e] at this
    exact ⟨this, fun k hk => .inr ⟨i, v, hv, hk⟩⟩
  · rcases hk with rfl | ⟨i, v, hv, hk⟩
    · exact ⟨h.hg, h.kg.lt, _, _, h.kg, .inr rfl⟩
    · have hr := h.row i v hv
      obtain ⟨cs, hB⟩ := hr.kind k hk
      exact ⟨(hr.lt k hk).1, hB.lt, _, _, hB, .inl rfl⟩

set_option maxHeartbeats 1000000 in
theorem cache_flush {w : World} {base q : Nat} {S W L : Int} {F : Nat → Prop} {rows : List (List Int)} (g : Geo S W L) (h : CaB w base q S W L F rows) :
    Calls Try.prog 28 #[.pointer (some ⟨q, 0, none⟩)] w fun e w' => e = .returned (.tuple #[]) ∧ ∃ g', CaB w' base q S W L (fun k => k = g') (List.replicate S.toNat []) ∧ w.heap.size ≤ g' ∧ Fr (fun k => k = q) w w' := by
  have hql := h.qlt
  obtain ⟨gb, vs, h⟩ := h
  have hs1 := g.s1
  have hs64 := g.s64
  obtain ⟨m, rfl⟩ : ∃ m : Nat, S = m := ⟨S.toNat, by omega⟩
  have kq := h.cells m
  have hmk := run_make_row' (P := Try.prog) 62 29 (.slice none 0 0) 24 Try.underlying62 (by kernel_rfl) rfl .i64 .i64 m (by omega) (by omega)
  obtain ⟨a0, a1, a2, a3⟩ := kq.c4
  obtain ⟨f0, f1, f2, f3⟩ := kq.f4
  obtain ⟨hb1, hb2⟩ := hql
  go_enter Try.func28, Try.ntmps28
  go_wp2
  refine bodyPost_end (v := .tuple #[]) (by simp [results, go_sem]) rfl ⟨rfl, w.heap.size, ?_, Nat.le_refl _, ?_⟩
  · refine CaP.fresh (by omega) hb1 (by omega) ?_ ?_
    · exact Blk.alloc (Blk.put (k := 3) (u := .slice (some ⟨w.heap.size, 0, none⟩) m m) kq)
    · rw [Int.toNat_natCast, ← madeCells_one]
      exact Blk.new (by simp [World.setCell])
  · exact ((Fr.refl (fun k => k = q) w).setCell (b := q) rfl).alloc _

set_option maxHeartbeats 1000000 in
theorem cache_clone {w : World} {base q : Nat} {S W L : Int} {F : Nat → Prop} {rows : List (List Int)} (g : Geo S W L) (h : CaB w base q S W L F rows) (hr : Rows S W rows) :
    Calls Try.prog 30 #[.pointer (some ⟨q, 0, none⟩)] w fun e w' => ∃ q2 G, e = .returned (.pointer (some ⟨q2, 0, none⟩)) ∧ CaB w' w.heap.size q2 S W L G rows ∧ Ext w w' := by
  have h0 := h
  obtain ⟨gb, vs, h⟩ := h
  have hs1 := g.s1
  obtain ⟨m, rfl⟩ : ∃ m : Nat, S = m := ⟨S.toNat, by omega⟩
  have hlen : rows.length = m := by have := hr.len; omega
  have kq := h.cells m
  obtain ⟨a0, a1, a2, a3⟩ := kq.c4
  have hql := kq.lt
  have HLEN := Lib.hid hlen
  clear hlen
  go_enter Try.func30, Try.ntmps30
  go_wp2
  go_region_with (go_at_call 41; refine Calls.mono (cache_lines g (h0.ext (Ext.drew (Ext.refl _))) hr) ?_; rw [HLEN.out]; rintro e w2 ⟨g2, vs2, rfl, hrs, hb2'⟩; have hb2 : Ext w w2 := (Ext.drew (Ext.refl _)).trans hb2'; clear hb2'; obtain ⟨b0, b1, b2, b3⟩ := (kq.ext hb2).c4)
  all_goals
    go_wp2
    go_ret
    exact ⟨w2.heap.size, _, rfl, RsP.cab (hrs.ext ((Ext.refl _).alloc _)) HLEN.out (by have := hb2.size; omega) (Blk.new rfl), hb2.alloc _⟩
end Go.Proofs.Ytdbgnniedcibeaa
