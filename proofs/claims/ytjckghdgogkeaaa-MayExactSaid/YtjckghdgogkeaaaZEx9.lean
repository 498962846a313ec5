/- The contracts of maps.Keys and slices.Sorted over it, on maps of ints to ints: the keys, rising, in a new slice. -/
import Derived.Test.YtjckghdgogkeaaaZEx4
import Derived.Test.YtjckghdgogkeaaaLay2
import Derived.Test.YtjckghdgogkeaaaZEx5
namespace Go.Proofs.Ytjckghdgogkeaaa
open Go.RowKit Go.Maps Go.Sort Go.Shelf
set_option linter.unusedVariables false

theorem sortsIn (m : Nat) : AnyZI.SortsIn Try.prog Try.sortedL_ren Fence.wide m :=
  ⟨fun blk off cap ss W hH hblk hsz => callsIn_wide.2 (AnyM.slices_Sort_int Try.sortL blk off cap ss W hH hblk hsz),
   fun p cap W => callsIn_wide.2 (AnyM.slices_Sort_int_none Try.sortL p cap W)⟩

theorem keys_call (mb : Option Nat) (W : World) (B : Nat) (hB : W.heap.size = B) : Calls Try.prog 44 #[.map mb] W fun e w' =>
    e = .returned (.func (.func 53) #[] #[.pointer (some ⟨B, 0, none⟩)]) ∧ W.alloc (.cells #[.map mb] 29) = w' := by
  subst hB
  exact ((callsIn_wide (n := 5)).1 (AnyZI.keys_in Try.keysL Fence.wide 5 trivial rfl mb W)).mono fun e w' ⟨h1, h2⟩ => ⟨h1, h2.symm⟩

/-- The new slice v holds the list L of ints. -/
def Holds1 (w : World) (base : Nat) (v : Value) (L : List Int) : Prop := w.ownsRow base 3 1 v L.length (L.map (Value.int .i64)) ∧ (v = .slice none 0 0 ↔ L = [])

theorem sorted_call {w : World} {p : Option Nat} {n : Nat} {f : FM} (h : IMapO w p n f) (hn : n ≤ 1000000) :
    Calls Try.prog 43 #[.func (.func 53) #[] #[.pointer (some ⟨w.heap.size, 0, none⟩)]] (w.alloc (.cells #[.map p] 29)) fun e w' =>
      ∃ v L, e = .returned v ∧ Dom f L ∧ L.length ≤ n ∧ Holds1 w' w.heap.size v L ∧ Ext w w' := by
  refine (callsIn_wide (n := 5)).1 ?_
  rcases h with ⟨rfl, hf⟩ | ⟨b, rfl, D, hown, hi⟩
  · have hseq : SeqGives Fence.wide 2 Try.prog 53 #[.pointer (some ⟨w.heap.size, 0, none⟩)] encZ (fun ss : List Int => ss = []) 0 (w.alloc (.cells #[.map none] 29)) :=
      AnyZI.keys_gives_nil (ρ := Try.keysL_ren) { Try.keysL with } Fence.wide _ trivial rfl w.heap.size _ (by simp) (by simp)
    have cS := AnyZI.sorted_in Try.sortedL Fence.wide 5 trivial trivial trivial trivial rfl (by omega) (sortsIn _) (enters_of Try.func52 (by kernel_rfl) rfl) 53 #[.pointer (some ⟨w.heap.size, 0, none⟩)] trivial (enters_of Try.func53 (by kernel_rfl) rfl) _ 0 (Nat.zero_le _) (by omega) _ hseq
    change CallsIn _ _ Try.prog 43 _ _ _ at cS
    refine cS.mono ?_
    rintro e w' ⟨v, ss, rfl, rfl, hrow, hnil, hb⟩
    obtain rfl : v = .slice none 0 0 := hnil.2 rfl
    refine ⟨_, [], rfl, ⟨List.Pairwise.nil, fun x => by simp [hf]⟩, by simp, ⟨World.ownsRow_nil _ _ _ _, by simp⟩, ?_⟩
    exact Ext.trans ((Ext.refl w).alloc _) (hb : Ext _ _)
  · have hbl := hown.lt
    have hsz := hown.size_le
    have hseq : SeqGives Fence.wide 2 Try.prog 53 #[.pointer (some ⟨w.heap.size, 0, none⟩)] encZ (fun ss => ss.Perm (intKeys D)) (Maps.size D) (w.alloc (.cells #[.map (some b)] 29)) :=
      AnyZI.keys_gives (ρ := Try.keysL_ren) { Try.keysL with } Fence.wide _ trivial rfl (by omega) w.heap.size b n D _ (by simp) (by simp) (by
        obtain ⟨es, clock, hb, Ft, hs, hD⟩ := hown
        exact ⟨es, clock, (Below.heap_alloc _ _ b hbl).trans hb, Ft, hs, hD⟩)
    have cS := AnyZI.sorted_in Try.sortedL Fence.wide 5 trivial trivial trivial trivial rfl (by omega) (sortsIn _) (enters_of Try.func52 (by kernel_rfl) rfl) 53 #[.pointer (some ⟨w.heap.size, 0, none⟩)] trivial (enters_of Try.func53 (by kernel_rfl) rfl) _ _ (by unfold maxLen; omega) (by omega) _ hseq
    change CallsIn _ _ Try.prog 43 _ _ _ at cS
    refine cS.mono ?_
    rintro e w' ⟨v, ss, rfl, hS, hrow, hnil, hb⟩
    refine ⟨v, _, rfl, dom_of_perm hown hi hS, ?_, ⟨?_, ?_⟩, ?_⟩
    · rw [(List.mergeSort_perm ss _).length_eq, length_perm hS hi.map]; omega
    · rw [(List.mergeSort_perm ss _).length_eq]
      exact ownsRow_base_a hrow (by simp)
    · rw [hnil]
      constructor
      · rintro rfl; simp
      · intro e
        have := (List.mergeSort_perm ss (fun x y => decide (x ≤ y))).length_eq
        rw [e] at this
        exact List.eq_nil_of_length_eq_zero this.symm
    · exact Ext.trans ((Ext.refl w).alloc _) (hb : Ext _ _)

theorem sorted_at {w : World} {p : Option Nat} {n : Nat} {f : FM} (h : IMapO w p n f) (hn : n ≤ 1000000) (B : Nat) (hB : w.heap.size = B) :
    Calls Try.prog 43 #[.func (.func 53) #[] #[.pointer (some ⟨B, 0, none⟩)]] (w.alloc (.cells #[.map p] 29)) fun e w' =>
      ∃ v L, e = .returned v ∧ Dom f L ∧ L.length ≤ n ∧ Holds1 w' w.heap.size v L ∧ Ext w w' := by
  subst hB
  exact sorted_call h hn
end Go.Proofs.Ytjckghdgogkeaaa

namespace Go.Proofs.Ytjckghdgogkeaaa
open Go.RowKit Go.Maps
set_option linter.unusedVariables false

theorem join_st {S W L : Int} (u v : Bool) (p q : Option Nat) (n m : Nat) (st su : St) (w : World) (h : StB w W n st u p) (k : StB w W m su v q) (hn : n ≤ 1000000) (hm : m ≤ 1000000) :
    Calls Try.prog 17 #[.agg #[.int .i64 S, .int .i64 W, .int .i64 L, .bool u, .map p], .agg #[.int .i64 S, .int .i64 W, .int .i64 L, .bool v, .map q]] w (Gives S W L (n + m) (sJoin st su) w) := by
  rcases h with ⟨rfl, rfl, rfl⟩ | ⟨rfl, f, rfl, him, hf⟩
  · exact (may_join_unk1 S W L S W L none q v w).mono fun e w' ⟨he, hb⟩ => ⟨_, _, he, .unk _ _ _, hb⟩
  · rcases k with ⟨rfl, rfl, rfl⟩ | ⟨rfl, g, rfl, kim, hg⟩
    · exact (may_join_unk2 S W L S W L p none w).mono fun e w' ⟨he, hb⟩ => ⟨_, _, he, .unk _ _ _, hb⟩
    · rcases kim with ⟨rfl, hno⟩ | ⟨b, rfl, kim⟩
      · refine (may_join_nil S W L p n f w him).mono fun e w' ⟨b, ⟨he, _⟩, hi, hb⟩ => ⟨_, _, he, StB.mk ?_ (fit_joined hf hg), hb⟩
        exact (hi.mono (by omega)).congr fun y => by unfold joined; rw [hno]; cases f y <;> rfl
      · exact (may_join_some S W L p n f b m g w him kim hn hm).mono fun e w' ⟨b, ⟨he, _⟩, hi, hb⟩ => ⟨_, _, he, StB.mk hi (fit_joined hf hg), hb⟩

set_option maxHeartbeats 400000 in
theorem may_equal_ff (S W L S' W' L' : Int) (p q : Option Nat) (n m : Nat) (f g : FM) (w : World) (h : IMapO w p n f) (k : IMapO w q m g) (u : Bool) :
    Calls Try.prog 19 #[.agg #[.int .i64 S, .int .i64 W, .int .i64 L, .bool u, .map p], .agg #[.int .i64 S', .int .i64 W', .int .i64 L', .bool u, .map q]] w (Says (∀ x, f x = g x) w) := by
  cases u
  all_goals
    go_enter Try.func19, Try.ntmps19
    go_wp2_with (go_at_call 37; refine Calls.mono (equal_im (h.ext (by repeat (first | ((with_reducible refine Ext.set1 ?_ ?_); (first | (focus (simp; done)) | (focus (simp; omega)) | (focus omega))) | (with_reducible refine Ext.alloc ?_ _) | (with_reducible exact Ext.refl _) | (refine Ext.trans ?_ (by with_reducible assumption))))) (k.ext (by repeat (first | ((with_reducible refine Ext.set1 ?_ ?_); (first | (focus (simp; done)) | (focus (simp; omega)) | (focus omega))) | (with_reducible refine Ext.alloc ?_ _) | (with_reducible exact Ext.refl _) | (refine Ext.trans ?_ (by with_reducible assumption)))))) ?_; rintro e w1 ⟨r, ⟨rfl, hr⟩, hb1⟩; have HR := Lib.hid hr; clear hr)
    go_ret
    exact ⟨r, ⟨rfl, HR.out⟩, (by repeat (first | ((with_reducible refine Ext.set1 ?_ ?_); (first | (focus (simp; done)) | (focus (simp; omega)) | (focus omega))) | (with_reducible refine Ext.alloc ?_ _) | (with_reducible exact Ext.refl _) | (refine Ext.trans ?_ (by with_reducible assumption))))⟩
set_option maxHeartbeats 400000 in
theorem may_equal_no (S W L S' W' L' : Int) (p q : Option Nat) (u : Bool) (w : World) :
    Calls Try.prog 19 #[.agg #[.int .i64 S, .int .i64 W, .int .i64 L, .bool u, .map p], .agg #[.int .i64 S', .int .i64 W', .int .i64 L', .bool (!u), .map q]] w fun e w' => e = .returned (.bool false) ∧ Ext w w' := by
  cases u
  all_goals
    go_enter Try.func19, Try.ntmps19
    go_wp2
    go_ret
    exact ⟨rfl, (by repeat (first | ((with_reducible refine Ext.set1 ?_ ?_); (first | (focus (simp; done)) | (focus (simp; omega)) | (focus omega))) | (with_reducible refine Ext.alloc ?_ _) | (with_reducible exact Ext.refl _) | (refine Ext.trans ?_ (by with_reducible assumption))))⟩
theorem equal_st {S W L : Int} (u v : Bool) (p q : Option Nat) (n m : Nat) (st su : St) (w : World) (h : StB w W n st u p) (k : StB w W m su v q) :
    Calls Try.prog 19 #[.agg #[.int .i64 S, .int .i64 W, .int .i64 L, .bool u, .map p], .agg #[.int .i64 S, .int .i64 W, .int .i64 L, .bool v, .map q]] w (Says (st = su) w) := by
  rcases h with ⟨rfl, rfl, rfl⟩ | ⟨rfl, f, rfl, him, hf⟩
  · rcases k with ⟨rfl, rfl, rfl⟩ | ⟨rfl, g, rfl, kim, hg⟩
    · exact (may_equal_ff S W L S W L none none 0 0 noF noF w (.inl ⟨rfl, fun _ => rfl⟩) (.inl ⟨rfl, fun _ => rfl⟩) true).mono fun e w' ⟨r, ⟨h1, h2⟩, hb⟩ => ⟨r, ⟨h1, by simpa using h2⟩, hb⟩
    · exact (may_equal_no S W L S W L none q true w).mono fun e w' ⟨h1, hb⟩ => ⟨false, ⟨h1, by simp⟩, hb⟩
  · rcases k with ⟨rfl, rfl, rfl⟩ | ⟨rfl, g, rfl, kim, hg⟩
    · exact (may_equal_no S W L S W L p none false w).mono fun e w' ⟨h1, hb⟩ => ⟨false, ⟨h1, by simp⟩, hb⟩
    · exact (may_equal_ff S W L S W L p q n m f g w him kim false).mono fun e w' ⟨r, ⟨h1, h2⟩, hb⟩ => ⟨r, ⟨h1, h2.trans ⟨fun h => congrArg some (funext h), fun h x => by injection h with h; rw [h]⟩⟩, hb⟩

/-- A call that hands back the keys of f, rising, in a new slice, and true. -/
def GivesKeys (f : FM) (n : Nat) (w : World) (e : Ending) (w' : World) : Prop := ∃ v L, (e = .returned (.tuple #[v, .bool true]) ∧ Dom f L ∧ L.length ≤ n) ∧ Holds1 w' w.heap.size v L ∧ Ext w w'

set_option maxHeartbeats 400000 in
theorem may_lines_unknown (S W L : Int) (p : Option Nat) (w : World) :
    Calls Try.prog 29 #[.agg #[.int .i64 S, .int .i64 W, .int .i64 L, .bool true, .map p]] w fun e w' => e = .returned (.tuple #[.slice none 0 0, .bool false]) ∧ Ext w w' := by
  go_enter Try.func29, Try.ntmps29
  go_wp2
  go_ret2
  exact ⟨rfl, (by repeat (first | ((with_reducible refine Ext.set1 ?_ ?_); (first | (focus (simp; done)) | (focus (simp; omega)) | (focus omega))) | (with_reducible refine Ext.alloc ?_ _) | (with_reducible exact Ext.refl _) | (refine Ext.trans ?_ (by with_reducible assumption))))⟩
theorem Holds1.lower {w : World} {b b' : Nat} {v : Value} {L : List Int} (h : Holds1 w b v L) (hb : b' ≤ b) : Holds1 w b' v L := by
  obtain ⟨h1, h2⟩ := h
  refine ⟨?_, h2⟩
  obtain ⟨a, c⟩ := h1
  refine ⟨a, ?_⟩
  rcases c with c | ⟨g, cap, cur, hv, hg, r⟩
  · exact .inl c
  · exact .inr ⟨g, cap, cur, hv, Nat.le_trans hb hg, r⟩
set_option maxHeartbeats 400000 in
theorem may_lines (S W L : Int) (p : Option Nat) (n : Nat) (f : FM) (w : World) (h : IMapO w p n f) (hn : n ≤ 1000000) :
    Calls Try.prog 29 #[.agg #[.int .i64 S, .int .i64 W, .int .i64 L, .bool false, .map p]] w (GivesKeys f n w) := by
  go_enter Try.func29, Try.ntmps29
  go_wp2_with (first
    | (go_at_call 44; refine Calls.mono (keys_call p _ (w.heap.size + 1) (by simp)) ?_; rintro e w1 ⟨rfl, rfl⟩)
    | (go_at_call 43; refine Calls.mono (sorted_at (h.ext (by repeat (first | ((with_reducible refine Ext.set1 ?_ ?_); (first | (focus (simp; done)) | (focus (simp; omega)) | (focus omega))) | (with_reducible refine Ext.alloc ?_ _) | (with_reducible exact Ext.refl _) | (refine Ext.trans ?_ (by with_reducible assumption))))) hn (w.heap.size + 1) (by simp)) ?_; rintro e w2 ⟨v, K, rfl, hd, hl, hh, hb2⟩; have HD := Lib.hid hd; clear hd))
  go_ret2
  exact ⟨v, K, ⟨rfl, HD.out, hl⟩, hh.lower (by simp), (by repeat (first | ((with_reducible refine Ext.set1 ?_ ?_); (first | (focus (simp; done)) | (focus (simp; omega)) | (focus omega))) | (with_reducible refine Ext.alloc ?_ _) | (with_reducible exact Ext.refl _) | (refine Ext.trans ?_ (by with_reducible assumption))))⟩
end Go.Proofs.Ytjckghdgogkeaaa
