/- The contract of persist.Conflicts. -/
import Derived.Test.YtdbgnniedcibeaaPe1
import Derived.Test.YtdbgnniedcibeaaCacheE
import Derived.Deep.OwnRows
namespace Go.Proofs.Ytdbgnniedcibeaa
open Go.RowKit Go.Maps Go.Proofs.YtdbgnniedcibeaaW.PrintWords Go.Proofs.Ytdbgnniedcibeaa.Pusable
set_option linter.unusedVariables false

theorem RowB.at_ {w : World} {base g n c : Nat} {r : List Int} (h : RowB w base (.slice (some ⟨g, 0, none⟩) n c) r) {i : Nat} (hi : i < r.length) : w.cell? ⟨g, i, none⟩ = some (.int .i64 (r.getD i 0)) ∧ w.frozen? ⟨g, i, none⟩ = false ∧ n = r.length ∧ n ≤ c := by
  rcases h.cases with ⟨e, _⟩ | ⟨g', cap, cur, e, hb, hB, hn, hm, hs, ht⟩
  · cases e
  · cases e
    exact ⟨by rw [hB.cell]; exact ht i hi, hB.free i, rfl, hn⟩
theorem RowB.put {w : World} {base g n c : Nat} {r : List Int} (h : RowB w base (.slice (some ⟨g, 0, none⟩) n c) r) (i : Nat) (k : Int) : RowB (w.setCell ⟨g, i, none⟩ (.int .i64 k)) base (.slice (some ⟨g, 0, none⟩) n c) (r.set i k) := by
  rcases h.cases with ⟨e, _⟩ | ⟨g', cap, cur, e, hb, hB, hn, hm, hs, ht⟩
  · cases e
  · cases e
    have := RowB.intro (r := r.set i k) (cap := c) hb (hB.put (k := i) (u := .int .i64 k)) (by rw [List.length_set]; exact hn) hm (by simpa using hs) (fun j hj => by
      rw [List.length_set] at hj
      rw [Array.getElem?_setIfInBounds]
      by_cases e : i = j
      · subst e
        rw [if_pos rfl, if_pos (by omega)]
        simp [List.getD, hj]
      · rw [if_neg e, ht j hj]
        simp [List.getD, e])
    rw [List.length_set] at this
    exact this

theorem IsLines.unique {l : List S44} {L M : List Int} (h : IsLines l L) (k : IsLines l M) : L = M := by
  refine List.Perm.eq_of_pairwise (le := fun a b => a < b) (fun a b _ _ h1 h2 => by omega) h.1 k.1 ?_
  exact (List.perm_ext_iff_of_nodup (h.1.imp (fun h => by omega)) (k.1.imp (fun h => by omega))).2 fun x => by rw [h.2, k.2]
theorem exists_lines (l : List S44) : ∃ L, IsLines l L := by
  refine ⟨((List.range 65536).map (fun n : Nat => (n : Int))).filter (accS l), ?_, fun x => ?_⟩
  · refine List.Pairwise.filter _ ?_
    rw [List.pairwise_map]
    exact List.pairwise_lt_range.imp fun h => by omega
  · rw [List.mem_filter, List.mem_map]
    constructor
    · exact fun h => h.2
    · intro h
      refine ⟨?_, h⟩
      unfold accS at h
      rw [List.any_eq_true] at h
      obtain ⟨r, _, hr⟩ := h
      unfold acc1 at hr
      simp only [decide_eq_true_eq] at hr
      exact ⟨x.toNat, by rw [List.mem_range]; omega, by omega⟩
theorem IsLines.lo {l : List S44} {L : List Int} (h : IsLines l L) {x : Int} (hx : x ∈ L) : 0 ≤ x ∧ x ≤ 65535 := by
  have := (h.2 x).1 hx
  unfold accS at this
  rw [List.any_eq_true] at this
  obtain ⟨r, _, hr⟩ := this
  unfold acc1 at hr
  simp only [decide_eq_true_eq] at hr
  omega

/-- How many of the lines lie in the set s. -/
def conf (m : Nat) (L : List Int) (s : Nat) : Nat := L.countP fun x => decide (x % (m : Int) = (s : Int))
def confs (m : Nat) (L : List Int) : List Int := (List.range m).map fun s => ((conf m L s : Nat) : Int)
theorem confs_len (m : Nat) (L : List Int) : (confs m L).length = m := by simp [confs]
theorem confs_get {m s : Nat} (h : s < m) (L : List Int) : (confs m L).getD s 0 = (conf m L s : Nat) := by simp [confs, List.getD, h]
theorem confs_nil (m : Nat) : confs m [] = List.replicate m 0 := by
  refine List.ext_getElem? fun i => ?_
  simp [confs, conf, List.getElem?_replicate]
  by_cases h : i < m <;> simp [h]
theorem confs_snoc {m i : Nat} (L : List Int) (x : Int) (hi : i < m) (hx : x % (m : Int) = (i : Int)) : confs m (L ++ [x]) = (confs m L).set i ((conf m L i : Nat) + 1 : Int) := by
  refine List.ext_getElem? fun j => ?_
  rw [List.getElem?_set]
  by_cases hj : j < m
  · have e1 : ∀ K, (confs m K)[j]? = some ((conf m K j : Nat) : Int) := fun K => by simp [confs, hj]
    rw [e1]
    by_cases e : i = j
    · subst e
      rw [if_pos rfl, if_pos (by rw [confs_len]; exact hj)]
      unfold conf
      rw [List.countP_append]
      simp [hx]
    · rw [if_neg e, e1]
      unfold conf
      rw [List.countP_append]
      have : ¬ (i : Int) = (j : Int) := by omega
      simp [hx, this]
  · have e1 : ∀ K, (confs m K)[j]? = none := fun K => List.getElem?_eq_none (by rw [confs_len]; omega)
    rw [e1, e1]
    split
    · omega
    · rfl

theorem RowB.made {w : World} {base : Nat} (hb : base ≤ w.heap.size) (m : Nat) (hm : m ≤ 1000) : RowB (w.alloc (.cells (madeCells #[.int .i64 0] m) 3)) base (.slice (some ⟨w.heap.size, 0, none⟩) m m) (List.replicate m 0) := by
  have := RowB.intro (r := List.replicate m 0) (cap := m) hb (Blk.new (w := w) (o := .cells (madeCells #[.int .i64 0] m) 3) rfl) (by simp) (by omega) (by rw [madeCells_one]; simp) (fun j hj => by
    rw [madeCells_one]
    simp at hj
    simp [List.getD, hj])
  simpa using this

set_option maxHeartbeats 2000000 in
theorem conflicts_at {S W Ln : Int} (g : Geo S W Ln) (A : Option Addr) (c : Nat) (l : List S44) (L : List Int) (hL : IsLines l L) (w : World) (hr : k44.C w A l.length l) (hl : l.length ≤ 100) (hh : ∀ r ∈ l, r.f1 ≤ 3000) :
    Calls Try.prog 14 #[.agg #[.int .i64 S, .int .i64 W, .int .i64 Ln], .slice A l.length c] w fun e w' => ∃ A' c', e = .returned (.slice A' S.toNat c') ∧ S.toNat ≤ c' ∧ RowB w' w.heap.size (.slice A' S.toNat c') (confs S.toNat L) ∧ L.length ≤ 310000 ∧ Ext w w' := by
  have hs1 := g.s1
  have hs64 := g.s64
  obtain ⟨m, rfl⟩ : ∃ m : Nat, S = m := ⟨S.toNat, by omega⟩
  rw [Int.toNat_natCast]
  have hmk := run_make_row' (P := Try.prog) 29 3 (.int .i64 0) 8 Try.underlying29 (by kernel_rfl) rfl .i64 .i64 m (by omega) (by omega)
  go_enter Try.func14, Try.ntmps14
  go_wp2_with (first
    | (go_at_call 31; refine Calls.mono (lines_at A c l _ (C_ext hr (by repeat (first | ((with_reducible refine Ext.set1 ?_ ?_); (first | (focus (simp; done)) | (focus (simp; omega)) | (focus omega))) | (with_reducible refine Ext.alloc ?_ _) | (with_reducible exact Ext.refl _) | (refine Ext.trans ?_ (by with_reducible assumption))))) hl hh) ?_; rintro e w3 ⟨A3, c3, L3, rfl, hL3, hl3, hM3, hb3⟩; obtain rfl := hL3.unique hL)
    | (go_at_call 17; refine Calls.mono (valid_yes g _) ?_; rintro e w2 ⟨rfl, hb2⟩; obtain ⟨a0, a1, a2⟩ := Blk.c3 (w := w2) (B := w.heap.size) (by repeat (first | (with_reducible assumption) | ((with_reducible refine Blk.new ?_); (first | (focus rfl) | (focus (simp; done)) | (focus omega))) | ((with_reducible refine Blk.set1 ?_ ?_); (focus omega)) | (with_reducible refine Blk.alloc ?_) | (refine Blk.ext ?_ (by with_reducible assumption)))); have hq2 : w.heap.size < w2.heap.size := (by have := hb2.size; simp at this; omega)))
  have kc : Blk w3 w.heap.size (.cells #[.int .i64 (m : Int), .int .i64 W, .int .i64 Ln] 23) := (by repeat (first | (with_reducible assumption) | ((with_reducible refine Blk.new ?_); (first | (focus rfl) | (focus (simp; done)) | (focus omega))) | ((with_reducible refine Blk.set1 ?_ ?_); (focus omega)) | (with_reducible refine Blk.alloc ?_) | (refine Blk.ext ?_ (by with_reducible assumption))))
  have hb4 : Ext w w3 := (by repeat (first | ((with_reducible refine Ext.set1 ?_ ?_); (first | (focus (simp; done)) | (focus (simp; omega)) | (focus omega))) | (with_reducible refine Ext.alloc ?_ _) | (with_reducible exact Ext.refl _) | (refine Ext.trans ?_ (by with_reducible assumption))))
  have hrow : RowB w3 w.heap.size (.slice (some ⟨w2.heap.size, 0, none⟩) m m) (confs m (L3.take 0)) := by
    rw [List.take_zero, confs_nil]
    exact (RowB.made (by omega) m (by omega)).ext hb3
  have hML : RowB w3 (w2.heap.size + 1) (.slice A3 L3.length c3) L3 := hM3.lower (by simp)
  have HL := Lib.hid hL
  clear hM3 hb2 hb3 a0 a1 a2 hL3 hL hr
  obtain ⟨n, hn⟩ : ∃ n, L3.length = n := ⟨_, rfl⟩
  rw [hn] at hl3 hML ⊢
  have HN := Lib.hid hn
  clear hn
  go_loopw [17] (fun i wr => ∃ j : Nat, i = .int .i64 j ∧ j ≤ n ∧ RowB wr w.heap.size (.slice (some ⟨w2.heap.size, 0, none⟩) m m) (confs m (L3.take j)) ∧ RowB wr (w2.heap.size + 1) (.slice A3 n c3) L3 ∧ Blk wr w.heap.size (.cells #[.int .i64 (m : Int), .int .i64 W, .int .i64 Ln] 23) ∧ Ext w wr) (fun i _ => n - (Go.RowKit.intOf i).toNat)
  case atStart => exact ⟨0, rfl, Nat.zero_le _, hrow, hML, kc, hb4⟩
  case round =>
    clear hrow hML kc hb4
    obtain ⟨j, rfl, hj, hrow, hML, kc, hext⟩ := hrel
    by_cases hlt : j < n
    · have hC := hML.C
      obtain ⟨A9, c9, e9, hc9, hC⟩ := hC
      cases e9
      rw [HN.out] at hc9 hC
      obtain ⟨ad, rfl, hcell⟩ := at_num hC j hlt
      have hjl : j < L3.length := by rw [HN.out]; exact hlt
      have hxm : L3.getD j 0 ∈ L3 := by
        rw [List.getD_eq_getElem?_getD, List.getElem?_eq_getElem hjl]
        exact List.getElem_mem _
      have hx0 := (HL.out.lo hxm).1
      have htk : L3.take (j + 1) = L3.take j ++ [L3.getD j 0] := by
        rw [List.take_add_one, List.getElem?_eq_getElem hjl, List.getD_eq_getElem?_getD, List.getElem?_eq_getElem hjl]
        rfl
      clear hxm hjl
      obtain ⟨x, hx⟩ : ∃ x, L3.getD j 0 = x := ⟨_, rfl⟩
      rw [hx] at hcell hx0 htk
      clear hx
      have hm1 := Int.emod_nonneg x (show (m : Int) ≠ 0 by omega)
      obtain ⟨i, hi⟩ : ∃ i : Nat, x % (m : Int) = i := ⟨(x % (m : Int)).toNat, by omega⟩
      have him : i < m := by have := Int.emod_lt_of_pos x (show 0 < (m : Int) by omega); omega
      have hcs := confs_snoc (L3.take j) x him hi
      rw [← htk] at hcs
      have hcf : conf m (L3.take j) i ≤ 310000 := by
        have h1 : conf m (L3.take j) i ≤ (L3.take j).length := List.countP_le_length
        rw [List.length_take] at h1
        omega
      have hget := confs_get him (L3.take j)
      obtain ⟨K, hK⟩ : ∃ K, conf m (L3.take j) i = K := ⟨_, rfl⟩
      rw [hK] at hcs hcf hget
      have HCS := Lib.hid hcs
      have HGET := Lib.hid hget
      clear htk hcs hK hget hC hc9 hm1
      obtain ⟨s0, s1, s2⟩ := kc.c3
      go_wp2_with (go_at_call 32; refine Calls.mono (set_at g x hx0 hi _) ?_; rintro e w5 ⟨rfl, hb5⟩; have row5 := hrow.ext hb5; obtain ⟨r0, r1, -, -⟩ := row5.at_ (i := i) (by rw [confs_len]; exact him); rw [HGET.out] at r0)
      go_round
      case rel =>
        refine ⟨j + 1, by go_num, by omega, ?_, (hML.ext hb5).store fun k hk e => ?_, (kc.ext hb5).set1 (by omega), (hext.trans hb5).set1 (by omega)⟩
        · rw [HCS.out]
          exact row5.put i _
        · have := (hML.lt k hk).1
          omega
      case measure => simp [Go.RowKit.intOf]; omega
    · obtain rfl : j = n := by omega
      go_wp2
      go_ret
      rw [← HN.out, List.take_length] at hrow
      exact ⟨some ⟨w2.heap.size, 0, none⟩, m, rfl, Nat.le_refl _, hrow, by rw [HN.out]; exact hl3, hext⟩
end Go.Proofs.Ytdbgnniedcibeaa
