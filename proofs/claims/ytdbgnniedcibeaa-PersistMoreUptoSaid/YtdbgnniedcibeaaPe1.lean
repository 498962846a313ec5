/- The contract of persist.lines. -/
import Derived.Test.YtdbgnniedcibeaaPe0
import Derived.Test.YtdbgnniedcibeaaSet
import Derived.Test.YtdbgnniedcibeaaRows2
import Derived.Test.YtdbgnniedcibeaaPusablex1
import Derived.Carry
namespace Go.Proofs.Ytdbgnniedcibeaa
open Go.RowKit Go.Maps Go.Proofs.YtdbgnniedcibeaaW.PrintWords Go.Proofs.Ytdbgnniedcibeaa.Pusable
set_option linter.unusedVariables false

theorem at_ref {w : World} {A : Option Addr} {n : Nat} {xs : List S44} (h : k44.C w A n xs) (k : Nat) (hk : k < n) : ∃ ad, A = some ad ∧ w.cell? (ad.add (k * 2)) = some (.int .i64 (xs.getD k z44).f0) ∧ w.cell? ⟨(ad.add (k * 2)).block, (ad.add (k * 2)).off + 1, none⟩ = some (.int .i64 (xs.getD k z44).f1) := by
  have := at_T44 h (k : Int) (by omega) (by omega)
  simpa [rd_T44] using this

/-- A reference allows an access of a line. -/
def acc1 (r : S44) (x : Int) : Bool := decide (0 ≤ x ∧ x ≤ 65535 ∧ r.f0 ≤ x ∧ x ≤ r.f1)
/-- Some reference does. -/
def accS (l : List S44) (x : Int) : Bool := l.any fun r => acc1 r x
theorem accS_snoc (l : List S44) (r : S44) (x : Int) : accS (l ++ [r]) x = (accS l x || acc1 r x) := by simp [accS]
/-- The lines that may be accessed, rising. -/
def IsLines (l : List S44) (L : List Int) : Prop := L.Pairwise (· < ·) ∧ ∀ x, x ∈ L ↔ accS l x = true
abbrev refO (a b : Int) : Obj := .cells #[.int .i64 a, .int .i64 b] 44

set_option maxHeartbeats 2000000 in
theorem lines_at (A : Option Addr) (c : Nat) (l : List S44) (w : World) (hr : k44.C w A l.length l) (hl : l.length ≤ 100) (hh : ∀ r ∈ l, r.f1 ≤ 3000) :
    Calls Try.prog 31 #[.slice A l.length c] w fun e w' => ∃ A' c' L, e = .returned (.slice A' L.length c') ∧ IsLines l L ∧ L.length ≤ 310000 ∧ RowB w' w.heap.size (.slice A' L.length c') L ∧ Ext w w' := by
  obtain ⟨n, hn⟩ : ∃ n, l.length = n := ⟨_, rfl⟩
  rw [hn] at hr hl ⊢
  have HN := Lib.hid hn
  have HH := Lib.hid hh
  clear hn hh
  have hmm := @run_makeMap Try.prog
  go_enter Try.func31, Try.ntmps31
  go_wp2
  go_loopw [12] (fun i wr => ∃ j : Nat, i = .int .i64 j ∧ j ≤ n ∧ ISet wr w.heap.size (3001 * j) (accS (l.take j)) ∧ Ext w wr) (fun i _ => n - (Go.RowKit.intOf i).toNat)
  case atStart => exact ⟨0, rfl, Nat.zero_le _, (ISet.made' rfl).congr (fun x => by simp [accS, noS]), (by repeat (first | ((with_reducible refine Ext.set1 ?_ ?_); (first | (focus (simp; done)) | (focus (simp; omega)) | (focus omega))) | (with_reducible refine Ext.alloc ?_ _) | (with_reducible exact Ext.refl _) | (refine Ext.trans ?_ (by with_reducible assumption))))⟩
  case round =>
    obtain ⟨j, rfl, hj, hset, hext⟩ := hrel
    by_cases hlt : j < n
    · obtain ⟨ad, rfl, c0, c1⟩ := at_ref (C_ext hr hext) j hlt
      have hjl : j < l.length := by rw [HN.out]; exact hlt
      have hxm : l.getD j z44 ∈ l := by
        rw [List.getD_eq_getElem?_getD, List.getElem?_eq_getElem hjl]
        exact List.getElem_mem _
      have hx1 := HH.out _ hxm
      have htk : l.take (j + 1) = l.take j ++ [l.getD j z44] := by
        rw [List.take_add_one, List.getElem?_eq_getElem hjl, List.getD_eq_getElem?_getD, List.getElem?_eq_getElem hjl]
        rfl
      clear hxm hjl
      obtain ⟨⟨x0, x1⟩, hx⟩ : ∃ x, x = l.getD j z44 := ⟨_, rfl⟩
      rw [← hx] at c0 c1 hx1 htk
      dsimp only at c0 c1 hx1
      have HTK := Lib.hid htk
      clear hx htk
      have hbl := hset.lt
      have hmin : min x1 65535 = x1 := by omega
      obtain ⟨lo, hlo⟩ : ∃ lo, max x0 0 = lo := ⟨_, rfl⟩
      have hlo0 : 0 ≤ lo := by omega
      obtain ⟨wp, hwp⟩ : ∃ wp, wp = wr := ⟨wr, rfl⟩
      subst hwp
      go_wp2
      go_loopw [6] (fun i wz => ∃ t : Nat, i = .int .i64 (lo + t) ∧ ((t : Int) = 0 ∨ lo + t ≤ x1 + 1) ∧ ISet wz w.heap.size (3001 * j + t) (fun y => accS (l.take j) y || decide (lo ≤ y ∧ y < lo + t)) ∧ Blk wz wp.heap.size (refO x0 x1) ∧ Ext w wz) (fun i _ => (x1 + 1 - Go.RowKit.intOf i).toNat)
      case atStart => exact ⟨0, by simp, .inl rfl, (hset.alloc _).congr (fun x => by simp; intros; omega), Blk.new rfl, hext.alloc _⟩
      case round =>
        obtain ⟨t, rfl, ht, hset2, kr, hext2⟩ := hrel
        have hrl := kr.lt
        have hsl := hset2.lt
        have hbw := hext.size
        obtain ⟨a0, a1⟩ : wr.cell? ⟨wp.heap.size, 0, none⟩ = some (.int .i64 x0) ∧ wr.cell? ⟨wp.heap.size, 1, none⟩ = some (.int .i64 x1) := ⟨kr.cell 0, kr.cell 1⟩
        by_cases hle : lo + t ≤ x1
        · go_wp2_with (at_mapUpdate; refine wpList_store_set _ rfl _ _ _ rfl w.heap.size (3001 * j + t) _ rfl hset2 (by unfold maxLen; omega) (lo + t) rfl rfl (.of (by omega) (by omega)) ?_; intro w3 hset3 _ hg3)
          have kr3 := kr.grown hg3 (by simp <;> omega)
          have hext3 : Ext w w3 := hext2.grown hg3 (fun k e => by cases e; omega)
          go_wp2
          go_round
          case rel =>
            refine ⟨t + 1, by go_num, by omega, hset3.congr (fun y => ?_), kr3, hext3⟩
            unfold putS
            by_cases c : y = lo + t
            · subst c; simp; omega
            · rw [if_neg c]
              show (accS (l.take j) y || decide (lo ≤ y ∧ y < lo + t)) = _
              congr 1
              rw [decide_eq_decide]
              omega
          case measure => simp [Go.RowKit.intOf]; omega
        · go_wp2
          go_round
          case rel =>
            refine ⟨j + 1, by go_num, by omega, (hset2.mono (by omega)).congr (fun y => ?_), hext2⟩
            rw [HTK.out, accS_snoc]
            show (accS (l.take j) y || decide (lo ≤ y ∧ y < lo + t)) = _
            congr 1
            unfold acc1
            rw [decide_eq_decide]
            dsimp only
            omega
          case measure => simp [Go.RowKit.intOf]; omega
    · obtain rfl : j = n := by omega
      obtain ⟨wp, hwp⟩ : ∃ wp, wp = wr := ⟨wr, rfl⟩
      subst hwp
      have hset' : ISet wp w.heap.size (3001 * j) (accS l) := by rw [← HN.out, List.take_length] at hset; rw [HN.out] at hset; exact hset
      clear hset
      go_wp2_with (at_range; refine wpList_range_set _ rfl _ rfl wp.heap.size rfl w.heap.size (3001 * j) (accS l) rfl hset' ?_; intro w4 cnt4 hrm4 hb4 hs4 hcn4)
      have hbw := hext.size
      have hbl := hset'.lt
      have hx4 : Ext w w4 := hext.trans hb4
      go_frame
      go_loopw [7] (fun v wz => ∃ (A1 : Option Addr) (c1 : Nat) (M : List Int) (lf : Int → Bool) (cnt : Nat), v = .slice A1 M.length c1 ∧ (RSet wz w.heap.size wp.heap.size (3001 * j) (accS l) lf cnt ∧ RowB wz w.heap.size (.slice A1 M.length c1) M ∧ M.length + cnt ≤ 3001 * j ∧ Ext w wz) ∧ Hid (M.Nodup ∧ ∀ x, x ∈ M ↔ accS l x = true ∧ lf x = false)) (fun _ wz => wz.rangeLeft w.heap.size wp.heap.size)
      case atStart => exact ⟨none, 0, [], accS l, cnt4, rfl, ⟨hrm4, RowB.nil _ _, by simpa using hcn4, hx4⟩, ⟨List.nodup_nil, fun x => by constructor <;> intro h <;> simp_all⟩⟩
      case round =>
        clear hrm4 hb4 hs4 hcn4 hx4
        obtain ⟨A1, c1, M, lf, cnt, rfl, ⟨hrm, hM, hcnt, hext5⟩, HM⟩ := hrel
        have hrl := hrm.lt
        have hbl5 := hrm.owns.lt
        go_wp2_with (at_next; refine wpList_next_set _ rfl _ rfl w.heap.size wp.heap.size (3001 * j) (accS l) lf cnt rfl hrm ?_ ?_)
        · intro hdone
          go_wp2_with (go_at_call 42; refine Calls.mono (row_sort hM (by omega)) ?_; rintro e w6 ⟨rfl, hM6, hf6⟩)
          go_ret
          have hlen : (M.mergeSort fun x y => decide (x ≤ y)).length = M.length := List.length_mergeSort _
          refine ⟨A1, c1, M.mergeSort fun x y => decide (x ≤ y), by show Ending.returned (.slice A1 M.length c1) = _; rw [hlen], ?_, by omega, by rw [hlen]; exact hM6, hext5.fr hf6 fun k hk => (hM.lt k hk).1⟩
          have hmem : ∀ x, x ∈ M ↔ accS l x = true := fun x => by rw [HM.out.2 x, hdone x]; simp
          have hperm := List.mergeSort_perm M (fun x y => decide (x ≤ y))
          refine ⟨?_, fun x => by rw [hperm.mem_iff]; exact hmem x⟩
          have h1 := List.pairwise_mergeSort (le := fun x y : Int => decide (x ≤ y)) (fun a b c h1 h2 => by simp only [decide_eq_true_eq] at *; exact Int.le_trans h1 h2) (fun a b => by simp only [Bool.or_eq_true, decide_eq_true_eq]; exact Int.le_total a b) M
          have h2 := hperm.nodup_iff.2 HM.out.1
          exact (h1.and h2).imp fun {a b} h => by
            have := h.1
            simp only [decide_eq_true_eq] at this
            have := h.2
            omega
        · intro x w5 cnt5 hx hlx hrm5 hlt5 hg5 hs5 hen
          have hM5 : RowB w5 w.heap.size (.slice A1 M.length c1) M := hM.fr (F := fun k => k = wp.heap.size) ⟨hg5.os, hg5.tape, hg5.output, hg5.size, fun k hk hF => hg5.block k hk (fun e => hF (Option.some.inj e))⟩ (fun k hk e => by
            subst e
            obtain ⟨cs, hB⟩ := hM.kind _ hk
            exact hrm.iter _ _ hB)
          have hext6 : Ext w w5 := hext5.grown hg5 (fun k e => by cases e; omega)
          have hbw5 := hext6.size
          have HLE := Lib.hid hrm.left_eq
          have LY := Lib.hid hlx
          clear hlx
          go_wp2_with (at_builtin; refine wp_append_int rfl _ _ rfl w.heap.size (.slice A1 M.length c1) M M.length rfl wr.heap.size x rfl rfl (Blk.new hs5.symm) (hM5.alloc _) (by omega) (by simp; omega) ?_; intro A7 c7 w7 hM7 hf7 _)
          have hrm6 : RSet (w5.alloc (.cells #[.int .i64 x] 3)) w.heap.size wp.heap.size (3001 * j) (accS l) (fun z => lf z && !decide (z = x)) cnt5 := hrm5.ext ((Ext.refl _).alloc _)
          have hrm7 := hrm6.same (hf7.block _ hrm6.owns.lt (fun e => by
            obtain ⟨es, clock, ho⟩ := hrm6.owns.obj
            obtain ⟨cs, hB⟩ := (hM5.alloc (.cells #[.int .i64 x] 3)).kind _ e
            unfold Blk at hB
            rw [ho] at hB
            cases hB)) (hf7.block _ hrm6.lt (fun e => by
            obtain ⟨cs, hB⟩ := (hM5.alloc (.cells #[.int .i64 x] 3)).kind _ e
            exact hrm6.iter _ _ hB))
          have hext7 : Ext w w7 := (hext6.alloc _).fr hf7 fun k hk => (hM5.lt k hk).1
          have HM7 : Hid ((M ++ [x]).Nodup ∧ ∀ y, y ∈ M ++ [x] ↔ accS l y = true ∧ (lf y && !decide (y = x)) = false) := by
            have hxn : ¬ x ∈ M := fun h => by have := ((HM.out.2 x).1 h).2; rw [LY.out] at this; cases this
            refine ⟨List.nodup_append.2 ⟨HM.out.1, by simp, fun a ha b hb e => ?_⟩, fun y => ?_⟩
            · simp at hb
              subst hb
              subst e
              exact hxn ha
            · rw [List.mem_append, HM.out.2 y, List.mem_singleton]
              have hx2 := hrm.dom x LY.out
              by_cases c : y = x
              · subst c; simp [hx2]
              · simp [c]
          have hlen : (M ++ [x]).length = M.length + 1 := by simp
          clear hf7
          go_roundw
          case rel =>
            refine ⟨A7, c7, M ++ [x], _, cnt5, by rw [hlen], ⟨hrm7, by rw [hlen]; exact hM7, by omega, hext7⟩, HM7⟩
          case measure => rw [hrm7.left_eq, HLE.out]; exact hlt5
end Go.Proofs.Ytdbgnniedcibeaa
