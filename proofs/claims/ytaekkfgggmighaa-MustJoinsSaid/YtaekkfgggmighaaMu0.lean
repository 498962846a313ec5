/- The contracts of must.New, (must.State).zero, .Age, .Forget, .Lines, must.Equal. -/
import Derived.Test.YtaekkfgggmighaaCache0
import Derived.Test.YtaekkfgggmighaaKeys
import Derived.Test.YtaekkfgggmighaaMayT
namespace Go.Proofs.Ytaekkfgggmighaa
open Go.RowKit Go.Maps
set_option linter.unusedVariables false

theorem Blk.put4 {w : World} {B : Nat} {a b c d a' b' c' d' : Value} {t : TypeId} (h : Blk w B (.cells #[a, b, c, d] t)) : Blk ((((w.setCell ⟨B, 0, none⟩ a').setCell ⟨B, 1, none⟩ b').setCell ⟨B, 2, none⟩ c').setCell ⟨B, 3, none⟩ d') B (.cells #[a', b', c', d'] t) := by
  have h1 := ((((h.put (k := 0) (u := a')).put (k := 1) (u := b')).put (k := 2) (u := c')).put (k := 3) (u := d'))
  simpa using h1
theorem Blk.far4 {w : World} {B g : Nat} {o : Obj} {a b c d : Value} (hne : B ≠ g) (h : Blk w B o) : Blk ((((w.setCell ⟨g, 0, none⟩ a).setCell ⟨g, 1, none⟩ b).setCell ⟨g, 2, none⟩ c).setCell ⟨g, 3, none⟩ d) B o :=
  .set1 hne (.set1 hne (.set1 hne (.set1 hne h)))
theorem Ext.set4 {w0 w : World} {g : Nat} {a b c d : Value} (hg : w0.heap.size ≤ g) (h : Ext w0 w) : Ext w0 ((((w.setCell ⟨g, 0, none⟩ a).setCell ⟨g, 1, none⟩ b).setCell ⟨g, 2, none⟩ c).setCell ⟨g, 3, none⟩ d) :=
  .set1 hg (.set1 hg (.set1 hg (.set1 hg h)))

/-- The field p (bounds) of a must state reads as f. -/
def MB (w : World) (W : Int) (n : Nat) (f : FM) (p : Option Nat) : Prop := IMapO w p n f ∧ Fit W f
theorem MB.ext {w w' : World} {W : Int} {n : Nat} {f : FM} {p : Option Nat} (h : MB w W n f p) (e : Ext w w') : MB w' W n f p := ⟨h.1.ext e, h.2⟩
theorem MB.set {w : World} {W : Int} {n : Nat} {f : FM} {p : Option Nat} {a : Addr} {v : Value} (h : MB w W n f p) : MB (w.setCell a v) W n f p := ⟨h.1.set, h.2⟩
theorem MB.alloc {w : World} {W : Int} {n : Nat} {f : FM} {p : Option Nat} (h : MB w W n f p) (o : Obj) : MB (w.alloc o) W n f p := ⟨h.1.alloc o, h.2⟩
theorem MB.mono {w : World} {W : Int} {n n' : Nat} {f : FM} {p : Option Nat} (h : MB w W n f p) (hn : n ≤ n') : MB w W n' f p := ⟨h.1.mono hn, h.2⟩
theorem MB.nil (w : World) (W : Int) (n : Nat) : MB w W n noF none := ⟨.inl ⟨rfl, fun _ => rfl⟩, fit_no W⟩
theorem MB.set4 {w : World} {W : Int} {n g : Nat} {f : FM} {p : Option Nat} {a b c d : Value} (h : MB w W n f p) : MB ((((w.setCell ⟨g, 0, none⟩ a).setCell ⟨g, 1, none⟩ b).setCell ⟨g, 2, none⟩ c).setCell ⟨g, 3, none⟩ d) W n f p := h.set.set.set.set

/-- A call that hands back a must state. -/
def GivesM (S W L : Int) (n : Nat) (f : FM) (w : World) (e : Ending) (w' : World) : Prop :=
  ∃ p, e = .returned (.agg #[.int .i64 S, .int .i64 W, .int .i64 L, .map p]) ∧ MB w' W n f p ∧ Ext w w'

theorem valid_no {S W L : Int} (h : vldB S W L = false) (w : World) :
    Calls Try.prog 22 #[.agg #[.int .i64 S, .int .i64 W, .int .i64 L]] w fun e w' => e = .returned (.bool false) ∧ Ext w w' := by
  have := valid_any S W L w
  rw [h] at this
  exact this

set_option maxHeartbeats 400000 in
theorem must_new_yes {S W L : Int} (h : Geo S W L) (w : World) :
    Calls Try.prog 21 #[.agg #[.int .i64 S, .int .i64 W, .int .i64 L]] w fun e w' => e = .returned (.tuple #[.agg #[.int .i64 S, .int .i64 W, .int .i64 L, .map none], .int .i64 0]) ∧ Ext w w' := by
  go_enter Try.func21, Try.ntmps21
  go_wp2_with (go_at_call 22; refine (valid_yes h _).mono ?_; rintro e w1 ⟨rfl, hb1⟩; obtain ⟨hc1, hf1⟩ := hb1.cells; have hz1 := hb1.size; simp at hz1)
  refine bodyPost_ret (v := .tuple #[.agg #[.int .i64 S, .int .i64 W, .int .i64 L, .map none], .int .i64 0]) ?_ rfl ⟨rfl, ?_⟩
  · simp [results, Try.results21, go_sem, hc1]
  · exact (by repeat (first | ((with_reducible refine Ext.set1 ?_ ?_); (first | (focus (simp; done)) | (focus (simp; omega)) | (focus omega))) | (with_reducible refine Ext.alloc ?_ _) | (with_reducible exact Ext.refl _) | (refine Ext.trans ?_ (by with_reducible assumption))))

set_option maxHeartbeats 400000 in
theorem must_new_no {S W L : Int} (h : vldB S W L = false) (w : World) :
    Calls Try.prog 21 #[.agg #[.int .i64 S, .int .i64 W, .int .i64 L]] w fun e w' => e = .returned (.tuple #[.agg #[.int .i64 0, .int .i64 0, .int .i64 0, .map none], .int .i64 1]) ∧ Ext w w' := by
  have H := Lib.hid h; clear h
  go_enter Try.func21, Try.ntmps21
  go_wp2_with (go_at_call 22; refine (valid_no H.out _).mono ?_; rintro e w1 ⟨rfl, hb1⟩; obtain ⟨hc1, hf1⟩ := hb1.cells; have hz1 := hb1.size; simp at hz1)
  refine bodyPost_ret (v := .tuple #[.agg #[.int .i64 0, .int .i64 0, .int .i64 0, .map none], .int .i64 1]) ?_ rfl ⟨rfl, ?_⟩
  · simp [results, Try.results21, go_sem, hc1]
  · exact (by repeat (first | ((with_reducible refine Ext.set1 ?_ ?_); (first | (focus (simp; done)) | (focus (simp; omega)) | (focus omega))) | (with_reducible refine Ext.alloc ?_ _) | (with_reducible exact Ext.refl _) | (refine Ext.trans ?_ (by with_reducible assumption))))

set_option maxHeartbeats 400000 in
theorem must_zero_no {S W L : Int} (h : Geo S W L) (p : Option Nat) (w : World) :
    Calls Try.prog 41 #[.agg #[.int .i64 S, .int .i64 W, .int .i64 L, .map p]] w fun e w' => e = .returned (.bool false) ∧ Ext w w' := by
  have h1 := h.s1
  have h2 : (S == 0) = false := by simp; omega
  go_enter Try.func41, Try.ntmps41
  go_wp2
  go_ret
  exact ⟨rfl, (by repeat (first | ((with_reducible refine Ext.set1 ?_ ?_); (first | (focus (simp; done)) | (focus (simp; omega)) | (focus omega))) | (with_reducible refine Ext.alloc ?_ _) | (with_reducible exact Ext.refl _) | (refine Ext.trans ?_ (by with_reducible assumption))))⟩
set_option maxHeartbeats 400000 in
theorem must_zero_yes (p : Option Nat) (w : World) :
    Calls Try.prog 41 #[.agg #[.int .i64 0, .int .i64 0, .int .i64 0, .map p]] w fun e w' => e = .returned (.bool true) ∧ Ext w w' := by
  go_enter Try.func41, Try.ntmps41
  go_wp2
  go_ret
  exact ⟨rfl, (by repeat (first | ((with_reducible refine Ext.set1 ?_ ?_); (first | (focus (simp; done)) | (focus (simp; omega)) | (focus omega))) | (with_reducible refine Ext.alloc ?_ _) | (with_reducible exact Ext.refl _) | (refine Ext.trans ?_ (by with_reducible assumption))))⟩

set_option maxHeartbeats 400000 in
theorem must_age (S W L x : Int) (p : Option Nat) (n : Nat) (f : FM) (w : World) (h : IMapO w p n f) (hx : I64 x) (c : Int) (ok : Bool) (hc : (f x).getD 0 = c) (hok : (f x).isSome = ok) :
    Calls Try.prog 25 #[.agg #[.int .i64 S, .int .i64 W, .int .i64 L, .map p], .int .i64 x] w fun e w' => e = .returned (.tuple #[.int .i64 c, .bool ok]) ∧ Ext w w' := by
  have HC := Lib.hid hc; have HO := Lib.hid hok; clear hc hok
  go_enter Try.func25, Try.ntmps25
  go_wp2_with (at_lookup; refine wpList_look_any _ rfl _ _ rfl p n f rfl (h.ext ((Ext.refl _).alloc _)) x rfl hx c ok HC.out HO.out ?_)
  go_ret2
  exact ⟨rfl, (Ext.refl _).alloc _⟩

set_option maxHeartbeats 400000 in
theorem must_forget (S W L : Int) (p : Option Nat) (w : World) :
    Calls Try.prog 30 #[.agg #[.int .i64 S, .int .i64 W, .int .i64 L, .map p]] w fun e w' => e = .returned (.agg #[.int .i64 S, .int .i64 W, .int .i64 L, .map none]) ∧ Ext w w' := by
  go_enter Try.func30, Try.ntmps30
  go_wp2
  refine bodyPost_ret (v := .agg #[.int .i64 S, .int .i64 W, .int .i64 L, .map none]) ?_ rfl ⟨rfl, (by repeat (first | ((with_reducible refine Ext.set1 ?_ ?_); (first | (focus (simp; done)) | (focus (simp; omega)) | (focus omega))) | (with_reducible refine Ext.alloc ?_ _) | (with_reducible exact Ext.refl _) | (refine Ext.trans ?_ (by with_reducible assumption))))⟩
  simp [results, Try.results30, go_sem]

/-- A call that hands back the keys of f, rising, in a new slice. -/
def GivesLines (f : FM) (n : Nat) (w : World) (e : Ending) (w' : World) : Prop := ∃ v L, (e = .returned v ∧ Dom f L ∧ L.length ≤ n) ∧ Holds1 w' w.heap.size v L ∧ Ext w w'
theorem Holds1.lower {w : World} {b b' : Nat} {v : Value} {L : List Int} (h : Holds1 w b v L) (hb : b' ≤ b) : Holds1 w b' v L := by
  obtain ⟨h1, h2⟩ := h
  refine ⟨?_, h2⟩
  obtain ⟨a, c⟩ := h1
  refine ⟨a, ?_⟩
  rcases c with c | ⟨g, cap, cur, hv, hg, r⟩
  · exact .inl c
  · exact .inr ⟨g, cap, cur, hv, Nat.le_trans hb hg, r⟩
set_option maxHeartbeats 400000 in
theorem must_lines (S W L : Int) (p : Option Nat) (n : Nat) (f : FM) (w : World) (h : IMapO w p n f) (hn : n ≤ 1000000) :
    Calls Try.prog 28 #[.agg #[.int .i64 S, .int .i64 W, .int .i64 L, .map p]] w (GivesLines f n w) := by
  go_enter Try.func28, Try.ntmps28
  go_wp2_with (first
    | (go_at_call 49; refine Calls.mono (keys_call p _ (w.heap.size + 1) (by simp)) ?_; rintro e w1 ⟨rfl, rfl⟩)
    | (go_at_call 48; refine Calls.mono (sorted_at (h.ext (by repeat (first | ((with_reducible refine Ext.set1 ?_ ?_); (first | (focus (simp; done)) | (focus (simp; omega)) | (focus omega))) | (with_reducible refine Ext.alloc ?_ _) | (with_reducible exact Ext.refl _) | (refine Ext.trans ?_ (by with_reducible assumption))))) hn (w.heap.size + 1) (by simp)) ?_; rintro e w2 ⟨v, K, rfl, hd, hl, hh, hb2⟩; have HD := Lib.hid hd; clear hd))
  go_ret
  exact ⟨v, K, ⟨rfl, HD.out, hl⟩, hh.lower (by simp), (by repeat (first | ((with_reducible refine Ext.set1 ?_ ?_); (first | (focus (simp; done)) | (focus (simp; omega)) | (focus omega))) | (with_reducible refine Ext.alloc ?_ _) | (with_reducible exact Ext.refl _) | (refine Ext.trans ?_ (by with_reducible assumption))))⟩

set_option maxHeartbeats 400000 in
theorem must_equal {S W L : Int} (p q : Option Nat) (n m : Nat) (f g : FM) (w : World) (h : IMapO w p n f) (k : IMapO w q m g) :
    Calls Try.prog 31 #[.agg #[.int .i64 S, .int .i64 W, .int .i64 L, .map p], .agg #[.int .i64 S, .int .i64 W, .int .i64 L, .map q]] w (Says (∀ x, f x = g x) w) := by
  have h2 : ((S == S) && ((W == W) && (L == L))) = true := by simp
  go_enter Try.func31, Try.ntmps31
  go_wp2_with (go_at_call 50; refine Calls.mono (equal_im (h.ext (by repeat (first | ((with_reducible refine Ext.set1 ?_ ?_); (first | (focus (simp; done)) | (focus (simp; omega)) | (focus omega))) | (with_reducible refine Ext.alloc ?_ _) | (with_reducible exact Ext.refl _) | (refine Ext.trans ?_ (by with_reducible assumption))))) (k.ext (by repeat (first | ((with_reducible refine Ext.set1 ?_ ?_); (first | (focus (simp; done)) | (focus (simp; omega)) | (focus omega))) | (with_reducible refine Ext.alloc ?_ _) | (with_reducible exact Ext.refl _) | (refine Ext.trans ?_ (by with_reducible assumption)))))) ?_; rintro e w1 ⟨r, ⟨rfl, hr⟩, hb1⟩; have HR := Lib.hid hr; clear hr)
  go_ret
  exact ⟨r, ⟨rfl, HR.out⟩, (by repeat (first | ((with_reducible refine Ext.set1 ?_ ?_); (first | (focus (simp; done)) | (focus (simp; omega)) | (focus omega))) | (with_reducible refine Ext.alloc ?_ _) | (with_reducible exact Ext.refl _) | (refine Ext.trans ?_ (by with_reducible assumption))))⟩
set_option maxHeartbeats 400000 in
theorem must_equal_no {S W L : Int} (g : Geo S W L) (p q : Option Nat) (w : World) :
    Calls Try.prog 31 #[.agg #[.int .i64 S, .int .i64 W, .int .i64 L, .map p], .agg #[.int .i64 0, .int .i64 0, .int .i64 0, .map q]] w fun e w' => e = .returned (.bool false) ∧ Ext w w' := by
  have h1 := g.s1
  have h2 : (S == 0) = false := by simp; omega
  go_enter Try.func31, Try.ntmps31
  go_wp2
  go_ret
  exact ⟨rfl, (by repeat (first | ((with_reducible refine Ext.set1 ?_ ?_); (first | (focus (simp; done)) | (focus (simp; omega)) | (focus omega))) | (with_reducible refine Ext.alloc ?_ _) | (with_reducible exact Ext.refl _) | (refine Ext.trans ?_ (by with_reducible assumption))))⟩
end Go.Proofs.Ytaekkfgggmighaa
