/- The contracts of maps.Keys and slices.Sorted over it, on maps of ints to ints: the keys, rising, in a new slice. -/
import Derived.Test.YtaekkfgggmighaaMapEq
import Derived.Test.YtaekkfgggmighaaLay2
namespace Go.Proofs.Ytaekkfgggmighaa
open Go.RowKit Go.Maps Go.Sort Go.Shelf
set_option linter.unusedVariables false

theorem sortsIn (m : Nat) : AnyZI.SortsIn Try.prog Try.sortedL_ren Fence.wide m :=
  ⟨fun blk off cap ss W hH hblk hsz => callsIn_wide.2 (AnyM.slices_Sort_int Try.sortL blk off cap ss W hH hblk hsz),
   fun p cap W => callsIn_wide.2 (AnyM.slices_Sort_int_none Try.sortL p cap W)⟩

theorem keys_call (mb : Option Nat) (W : World) (B : Nat) (hB : W.heap.size = B) : Calls Try.prog 49 #[.map mb] W fun e w' =>
    e = .returned (.func (.func 57) #[] #[.pointer (some ⟨B, 0, none⟩)]) ∧ W.alloc (.cells #[.map mb] 26) = w' := by
  subst hB
  exact ((callsIn_wide (n := 5)).1 (AnyZI.keys_in Try.keysL Fence.wide 5 trivial rfl mb W)).mono fun e w' ⟨h1, h2⟩ => ⟨h1, h2.symm⟩

/-- The new slice v holds the list L of ints. -/
def Holds1 (w : World) (base : Nat) (v : Value) (L : List Int) : Prop := w.ownsRow base 3 1 v L.length (L.map (Value.int .i64)) ∧ (v = .slice none 0 0 ↔ L = [])

theorem sorted_call {w : World} {p : Option Nat} {n : Nat} {f : FM} (h : IMapO w p n f) (hn : n ≤ 1000000) :
    Calls Try.prog 48 #[.func (.func 57) #[] #[.pointer (some ⟨w.heap.size, 0, none⟩)]] (w.alloc (.cells #[.map p] 26)) fun e w' =>
      ∃ v L, e = .returned v ∧ Dom f L ∧ L.length ≤ n ∧ Holds1 w' w.heap.size v L ∧ Ext w w' := by
  refine (callsIn_wide (n := 5)).1 ?_
  rcases h with ⟨rfl, hf⟩ | ⟨b, rfl, D, hown, hi⟩
  · have hseq : SeqGives Fence.wide 2 Try.prog 57 #[.pointer (some ⟨w.heap.size, 0, none⟩)] encZ (fun ss : List Int => ss = []) 0 (w.alloc (.cells #[.map none] 26)) :=
      AnyZI.keys_gives_nil (ρ := Try.keysL_ren) { Try.keysL with } Fence.wide _ trivial rfl w.heap.size _ (by simp) (by simp)
    have cS := AnyZI.sorted_in Try.sortedL Fence.wide 5 trivial trivial trivial trivial rfl (by omega) (sortsIn _) (enters_of Try.func56 (by kernel_rfl) rfl) 57 #[.pointer (some ⟨w.heap.size, 0, none⟩)] trivial (enters_of Try.func57 (by kernel_rfl) rfl) _ 0 (Nat.zero_le _) (by omega) _ hseq
    change CallsIn _ _ Try.prog 48 _ _ _ at cS
    refine cS.mono ?_
    rintro e w' ⟨v, ss, rfl, rfl, hrow, hnil, hb⟩
    obtain rfl : v = .slice none 0 0 := hnil.2 rfl
    refine ⟨_, [], rfl, ⟨List.Pairwise.nil, fun x => by simp [hf]⟩, by simp, ⟨World.ownsRow_nil _ _ _ _, by simp⟩, ?_⟩
    exact Ext.trans ((Ext.refl w).alloc _) (hb : Ext _ _)
  · have hbl := hown.lt
    have hsz := hown.size_le
    have hseq : SeqGives Fence.wide 2 Try.prog 57 #[.pointer (some ⟨w.heap.size, 0, none⟩)] encZ (fun ss => ss.Perm (intKeys D)) (Maps.size D) (w.alloc (.cells #[.map (some b)] 26)) :=
      AnyZI.keys_gives (ρ := Try.keysL_ren) { Try.keysL with } Fence.wide _ trivial rfl (by omega) w.heap.size b n D _ (by simp) (by simp) (by
        obtain ⟨es, clock, hb, Ft, hs, hD⟩ := hown
        exact ⟨es, clock, (Below.heap_alloc _ _ b hbl).trans hb, Ft, hs, hD⟩)
    have cS := AnyZI.sorted_in Try.sortedL Fence.wide 5 trivial trivial trivial trivial rfl (by omega) (sortsIn _) (enters_of Try.func56 (by kernel_rfl) rfl) 57 #[.pointer (some ⟨w.heap.size, 0, none⟩)] trivial (enters_of Try.func57 (by kernel_rfl) rfl) _ _ (by unfold maxLen; omega) (by omega) _ hseq
    change CallsIn _ _ Try.prog 48 _ _ _ at cS
    refine cS.mono ?_
    rintro e w' ⟨v, ss, rfl, hS, hrow, hnil, hb⟩
    refine ⟨v, _, rfl, dom_of_perm hown hi hS, ?_, ⟨?_, ?_⟩, ?_⟩
    · rw [(List.mergeSort_perm ss _).length_eq, length_perm hS hi.map]; omega
    · rw [(List.mergeSort_perm ss _).length_eq]
      exact ownsRow_base_a hrow (by simp)
    · rw [hnil]
      constructor
      · rintro rfl; simp
      · intro e
        have := (List.mergeSort_perm ss (fun x y => decide (x ≤ y))).length_eq
        rw [e] at this
        exact List.eq_nil_of_length_eq_zero this.symm
    · exact Ext.trans ((Ext.refl w).alloc _) (hb : Ext _ _)

theorem sorted_at {w : World} {p : Option Nat} {n : Nat} {f : FM} (h : IMapO w p n f) (hn : n ≤ 1000000) (B : Nat) (hB : w.heap.size = B) :
    Calls Try.prog 48 #[.func (.func 57) #[] #[.pointer (some ⟨B, 0, none⟩)]] (w.alloc (.cells #[.map p] 26)) fun e w' =>
      ∃ v L, e = .returned v ∧ Dom f L ∧ L.length ≤ n ∧ Holds1 w' w.heap.size v L ∧ Ext w w' := by
  subst hB
  exact sorted_call h hn
end Go.Proofs.Ytaekkfgggmighaa
