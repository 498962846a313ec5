/- The contracts of may.Join, may.Equal, (may.State).Lines, .Age over states under one word. -/
import Derived.Test.YtjckghdgogkeaaaMay5
import Derived.Test.YtjckghdgogkeaaaKeys
namespace Go.Proofs.Ytjckghdgogkeaaa
open Go.RowKit Go.Maps
set_option linter.unusedVariables false

theorem join_st {S W L : Int} (u v : Bool) (p q : Option Nat) (n m : Nat) (st su : St) (w : World) (h : StB w W n st u p) (k : StB w W m su v q) (hn : n ≤ 1000000) (hm : m ≤ 1000000) :
    Calls Try.prog 17 #[.agg #[.int .i64 S, .int .i64 W, .int .i64 L, .bool u, .map p], .agg #[.int .i64 S, .int .i64 W, .int .i64 L, .bool v, .map q]] w (Gives S W L (n + m) (sJoin st su) w) := by
  rcases h with ⟨rfl, rfl, rfl⟩ | ⟨rfl, f, rfl, him, hf⟩
  · exact (may_join_unk1 S W L S W L none q v w).mono fun e w' ⟨he, hb⟩ => ⟨_, _, he, .unk _ _ _, hb⟩
  · rcases k with ⟨rfl, rfl, rfl⟩ | ⟨rfl, g, rfl, kim, hg⟩
    · exact (may_join_unk2 S W L S W L p none w).mono fun e w' ⟨he, hb⟩ => ⟨_, _, he, .unk _ _ _, hb⟩
    · rcases kim with ⟨rfl, hno⟩ | ⟨b, rfl, kim⟩
      · refine (may_join_nil S W L p n f w him).mono fun e w' ⟨b, ⟨he, _⟩, hi, hb⟩ => ⟨_, _, he, StB.mk ?_ (fit_joined hf hg), hb⟩
        exact (hi.mono (by omega)).congr fun y => by unfold joined; rw [hno]; cases f y <;> rfl
      · exact (may_join_some S W L p n f b m g w him kim hn hm).mono fun e w' ⟨b, ⟨he, _⟩, hi, hb⟩ => ⟨_, _, he, StB.mk hi (fit_joined hf hg), hb⟩

set_option maxHeartbeats 400000 in
theorem may_equal_ff (S W L S' W' L' : Int) (p q : Option Nat) (n m : Nat) (f g : FM) (w : World) (h : IMapO w p n f) (k : IMapO w q m g) (u : Bool) :
    Calls Try.prog 19 #[.agg #[.int .i64 S, .int .i64 W, .int .i64 L, .bool u, .map p], .agg #[.int .i64 S', .int .i64 W', .int .i64 L', .bool u, .map q]] w (Says (∀ x, f x = g x) w) := by
  cases u
  all_goals
    go_enter Try.func19, Try.ntmps19
    go_wp2_with (go_at_call 37; refine Calls.mono (equal_im (h.ext (by repeat (first | ((with_reducible refine Ext.set1 ?_ ?_); (first | (focus (simp; done)) | (focus (simp; omega)) | (focus omega))) | (with_reducible refine Ext.alloc ?_ _) | (with_reducible exact Ext.refl _) | (refine Ext.trans ?_ (by with_reducible assumption))))) (k.ext (by repeat (first | ((with_reducible refine Ext.set1 ?_ ?_); (first | (focus (simp; done)) | (focus (simp; omega)) | (focus omega))) | (with_reducible refine Ext.alloc ?_ _) | (with_reducible exact Ext.refl _) | (refine Ext.trans ?_ (by with_reducible assumption)))))) ?_; rintro e w1 ⟨r, ⟨rfl, hr⟩, hb1⟩; have HR := Lib.hid hr; clear hr)
    go_ret
    exact ⟨r, ⟨rfl, HR.out⟩, (by repeat (first | ((with_reducible refine Ext.set1 ?_ ?_); (first | (focus (simp; done)) | (focus (simp; omega)) | (focus omega))) | (with_reducible refine Ext.alloc ?_ _) | (with_reducible exact Ext.refl _) | (refine Ext.trans ?_ (by with_reducible assumption))))⟩
set_option maxHeartbeats 400000 in
theorem may_equal_no (S W L S' W' L' : Int) (p q : Option Nat) (u : Bool) (w : World) :
    Calls Try.prog 19 #[.agg #[.int .i64 S, .int .i64 W, .int .i64 L, .bool u, .map p], .agg #[.int .i64 S', .int .i64 W', .int .i64 L', .bool (!u), .map q]] w fun e w' => e = .returned (.bool false) ∧ Ext w w' := by
  cases u
  all_goals
    go_enter Try.func19, Try.ntmps19
    go_wp2
    go_ret
    exact ⟨rfl, (by repeat (first | ((with_reducible refine Ext.set1 ?_ ?_); (first | (focus (simp; done)) | (focus (simp; omega)) | (focus omega))) | (with_reducible refine Ext.alloc ?_ _) | (with_reducible exact Ext.refl _) | (refine Ext.trans ?_ (by with_reducible assumption))))⟩
theorem equal_st {S W L : Int} (u v : Bool) (p q : Option Nat) (n m : Nat) (st su : St) (w : World) (h : StB w W n st u p) (k : StB w W m su v q) :
    Calls Try.prog 19 #[.agg #[.int .i64 S, .int .i64 W, .int .i64 L, .bool u, .map p], .agg #[.int .i64 S, .int .i64 W, .int .i64 L, .bool v, .map q]] w (Says (st = su) w) := by
  rcases h with ⟨rfl, rfl, rfl⟩ | ⟨rfl, f, rfl, him, hf⟩
  · rcases k with ⟨rfl, rfl, rfl⟩ | ⟨rfl, g, rfl, kim, hg⟩
    · exact (may_equal_ff S W L S W L none none 0 0 noF noF w (.inl ⟨rfl, fun _ => rfl⟩) (.inl ⟨rfl, fun _ => rfl⟩) true).mono fun e w' ⟨r, ⟨h1, h2⟩, hb⟩ => ⟨r, ⟨h1, by simpa using h2⟩, hb⟩
    · exact (may_equal_no S W L S W L none q true w).mono fun e w' ⟨h1, hb⟩ => ⟨false, ⟨h1, by simp⟩, hb⟩
  · rcases k with ⟨rfl, rfl, rfl⟩ | ⟨rfl, g, rfl, kim, hg⟩
    · exact (may_equal_no S W L S W L p none false w).mono fun e w' ⟨h1, hb⟩ => ⟨false, ⟨h1, by simp⟩, hb⟩
    · exact (may_equal_ff S W L S W L p q n m f g w him kim false).mono fun e w' ⟨r, ⟨h1, h2⟩, hb⟩ => ⟨r, ⟨h1, h2.trans ⟨fun h => congrArg some (funext h), fun h x => by injection h with h; rw [h]⟩⟩, hb⟩

/-- A call that hands back the keys of f, rising, in a new slice, and true. -/
def GivesKeys (f : FM) (n : Nat) (w : World) (e : Ending) (w' : World) : Prop := ∃ v L, (e = .returned (.tuple #[v, .bool true]) ∧ Dom f L ∧ L.length ≤ n) ∧ Holds1 w' w.heap.size v L ∧ Ext w w'

set_option maxHeartbeats 400000 in
theorem may_lines_unknown (S W L : Int) (p : Option Nat) (w : World) :
    Calls Try.prog 29 #[.agg #[.int .i64 S, .int .i64 W, .int .i64 L, .bool true, .map p]] w fun e w' => e = .returned (.tuple #[.slice none 0 0, .bool false]) ∧ Ext w w' := by
  go_enter Try.func29, Try.ntmps29
  go_wp2
  go_ret2
  exact ⟨rfl, (by repeat (first | ((with_reducible refine Ext.set1 ?_ ?_); (first | (focus (simp; done)) | (focus (simp; omega)) | (focus omega))) | (with_reducible refine Ext.alloc ?_ _) | (with_reducible exact Ext.refl _) | (refine Ext.trans ?_ (by with_reducible assumption))))⟩
theorem Holds1.lower {w : World} {b b' : Nat} {v : Value} {L : List Int} (h : Holds1 w b v L) (hb : b' ≤ b) : Holds1 w b' v L := by
  obtain ⟨h1, h2⟩ := h
  refine ⟨?_, h2⟩
  obtain ⟨a, c⟩ := h1
  refine ⟨a, ?_⟩
  rcases c with c | ⟨g, cap, cur, hv, hg, r⟩
  · exact .inl c
  · exact .inr ⟨g, cap, cur, hv, Nat.le_trans hb hg, r⟩
set_option maxHeartbeats 400000 in
theorem may_lines (S W L : Int) (p : Option Nat) (n : Nat) (f : FM) (w : World) (h : IMapO w p n f) (hn : n ≤ 1000000) :
    Calls Try.prog 29 #[.agg #[.int .i64 S, .int .i64 W, .int .i64 L, .bool false, .map p]] w (GivesKeys f n w) := by
  go_enter Try.func29, Try.ntmps29
  go_wp2_with (first
    | (go_at_call 44; refine Calls.mono (keys_call p _ (w.heap.size + 1) (by simp)) ?_; rintro e w1 ⟨rfl, rfl⟩)
    | (go_at_call 43; refine Calls.mono (sorted_at (h.ext (by repeat (first | ((with_reducible refine Ext.set1 ?_ ?_); (first | (focus (simp; done)) | (focus (simp; omega)) | (focus omega))) | (with_reducible refine Ext.alloc ?_ _) | (with_reducible exact Ext.refl _) | (refine Ext.trans ?_ (by with_reducible assumption))))) hn (w.heap.size + 1) (by simp)) ?_; rintro e w2 ⟨v, K, rfl, hd, hl, hh, hb2⟩; have HD := Lib.hid hd; clear hd))
  go_ret2
  exact ⟨v, K, ⟨rfl, HD.out, hl⟩, hh.lower (by simp), (by repeat (first | ((with_reducible refine Ext.set1 ?_ ?_); (first | (focus (simp; done)) | (focus (simp; omega)) | (focus omega))) | (with_reducible refine Ext.alloc ?_ _) | (with_reducible exact Ext.refl _) | (refine Ext.trans ?_ (by with_reducible assumption))))⟩
end Go.Proofs.Ytjckghdgogkeaaa
