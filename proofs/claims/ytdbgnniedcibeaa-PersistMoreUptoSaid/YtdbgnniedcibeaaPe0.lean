/- slices.Sort and append on a row of numbers of the call's own. -/
import Derived.Test.YtdbgnniedcibeaaCacheC
import Derived.Test.YtdbgnniedcibeaaLay4
import Derived.Test.YtdbgnniedcibeaaWWords
namespace Go.Proofs.Ytdbgnniedcibeaa
open Go.RowKit Go.Sort Go.Proofs.YtdbgnniedcibeaaW.PrintWords
set_option linter.unusedVariables false

theorem Fr.grow {F : Nat → Prop} {w w' : World} (h : Fr F w w') (os : Array Obj) : Fr F w (grow w' os) :=
  ⟨h.os, h.tape, h.output, by rw [size_grow]; have := h.size; omega, fun k hk hF => (heap_grow_old w' os (Nat.lt_of_lt_of_le hk h.size)).trans (h.block k hk hF)⟩
theorem row_sort {w : World} {base : Nat} {v : Value} {r : List Int} (h : RowB w base v r) (hr : r.length ≤ 1000000) :
    Calls Try.prog 42 #[v] w fun e w' => e = .returned (.tuple #[]) ∧ RowB w' base v (r.mergeSort fun x y => decide (x ≤ y)) ∧ Fr (fun j => v.ownBlock = some j) w w' := by
  rcases h.cases with ⟨rfl, rfl⟩ | ⟨g, cap, cur, rfl, hb, hB, hn, hc, hs, ht⟩
  · refine (AnyM.slices_Sort_int_none Try.sortL none 0 w).mono ?_
    rintro e w' ⟨rfl, rfl⟩
    exact ⟨rfl, by simpa using RowB.nil _ _, Fr.refl _ _⟩
  · have hH : Holds (Value.int .i64) w g 0 (r.take r.length).toArray := Lib.holds_of_ints (n := r.length) (zs := r) (Nat.le_refl _) (fun j hj => by rw [Nat.zero_add, hB.cell]; exact ht j hj) (fun j hj => hB.free _)
    rw [List.take_length] at hH
    have hlen : (r.mergeSort fun x y => decide (x ≤ y)).length = r.length := List.length_mergeSort _
    have hgl := hB.lt
    refine (AnyM.slices_Sort_int Try.sortL g 0 cap r w hH hgl (by omega)).mono ?_
    rintro e w' ⟨rfl, q, os, rfl⟩
    rw [Lib.putRow_eq_setCells (Value.int .i64) w g 0 r.toArray (r.mergeSort fun x y => decide (x ≤ y)) q hH (by simp [hlen])]
    have hB' : Blk (w.drewN q) g (.cells cur 3) := hB
    obtain ⟨cs', h1, h2, h3⟩ := Blk.setCells ((r.mergeSort fun x y => decide (x ≤ y)).map (Value.int .i64)) 0 _ _ hB'
    have h1g : Blk (grow ((w.drewN q).setCells g 0 ((r.mergeSort fun x y => decide (x ≤ y)).map (Value.int .i64))) os) g (.cells cs' 3) := (heap_grow_old _ _ h1.lt).trans h1
    refine ⟨rfl, ?_, (Fr.setCells (F := fun j => some g = some j) rfl _ _ ((Fr.refl _ _).drewN q)).grow os⟩
    have hslice : (Value.slice (some ⟨g, 0, none⟩) r.length cap) = .slice (some ⟨g, 0, none⟩) (r.mergeSort fun x y => decide (x ≤ y)).length cap := by rw [hlen]
    rw [hslice]
    refine RowB.intro hb h1g (by omega) hc (by omega) fun j hj => ?_
    rw [h3 j (by omega), if_pos (by simp; omega), List.getElem?_map, Nat.sub_zero, List.getD, List.getElem?_eq_getElem hj]
    rfl

theorem wp_append_int {ops : Array Oper} {rest : List Oper} {o : Oper} {a : Act} {Q : Exit → Act → World → Prop} {w : World} (hgd : o.guard = none) (s x : Operand)
    (ho : o.op = .call { callee := .builtin .append, args := #[s, x], argTypes := #[29, 29] })
    (base : Nat) (v : Value) (r : List Int) (n : Nat) (hn : r.length = n) (B : Nat) (k : Int) (hs : a.eval s = v) (hx : a.eval x = .slice (some ⟨B, 0, none⟩) 1 1) (hB : Blk w B (.cells #[.int .i64 k] 3)) (hown : RowB w base v r) (hl : n ≤ 1000000) (hbw : base ≤ w.heap.size)
    (h : ∀ A c w', RowB w' base (.slice A (n + 1) c) (r ++ [k]) → Fr (fun j => v.ownBlock = some j) w w' → ((Value.slice A (n + 1) c).ownBlock = v.ownBlock ∨ (Value.slice A (n + 1) c).ownBlock = some w.heap.size) → wpList Try.prog ops Q rest (a.put o.dst (.slice A (n + 1) c)) w') : wpList Try.prog ops Q (o :: rest) a w := by
  subst hn
  have hinfo : (Try.prog.info? 3).map (fun i => (i.zero, i.size, i.bytes)) = some (some (.int .i64 0), 1, 8) := by kernel_rfl
  obtain ⟨i0, hi, hzz⟩ := Option.map_eq_some_iff.1 hinfo
  simp only [Prod.mk.injEq] at hzz
  obtain ⟨hz0, hz1, hz2⟩ := hzz
  refine wpList_append_own_at w hgd s x 29 ho base 3 i0 (.int .i64 0) 1 8 Try.underlying29 hi hz0 hz1 hz2 rfl (by decide) v r.length (r.map (Value.int .i64)) hs hown ⟨B, 0, none⟩ 1 1 [.int .i64 k] hx rfl
    (fun j u hj => by
      rw [Addr.add_lit, Nat.zero_add, hB.cell]
      cases j with
      | zero => simpa using hj
      | succ j => simp at hj) (fun u hu => by simp at hu; subst hu; rfl) (by unfold maxLen; omega) (by omega) hbw ?_
  intro v' w' h1 h2 _ h4
  have h1' : RowB w' base v' (r ++ [k]) := by
    unfold RowB
    simpa using h1
  obtain ⟨A, c, rfl, _⟩ := h1'.slice
  simp only [List.length_append, List.length_singleton] at h1' h4 ⊢
  exact h A c w' h1' ⟨h2.os, h2.tape, h2.output, h2.size, fun j hj hF => h2.block j hj (fun e => hF e.symm)⟩ h4
end Go.Proofs.Ytdbgnniedcibeaa
