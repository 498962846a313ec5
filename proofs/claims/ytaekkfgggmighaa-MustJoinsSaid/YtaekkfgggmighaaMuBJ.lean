/- Lists of bounds: what the reference's Find reads in them; the list of a state's bounds; an append of one bound. -/
import Derived.Test.YtaekkfgggmighaaMuS
import Derived.Test.YtaekkfgggmighaaMuH
import Derived.Test.YtaekkfgggmighaaPJoinx1
namespace Go.Proofs.Ytaekkfgggmighaa
open Go.RowKit Go.Maps Go.Proofs.YtaekkfgggmighaaW.PrintWords Go.Proofs.Ytaekkfgggmighaa.Pgreat Go.Proofs.Ytaekkfgggmighaa.PJoin
set_option linter.unusedVariables false

theorem rd64 {l : List S64} {a : S64} {r pre : List S64} (h : l = pre ++ a :: r) : rd_T64 l (pre.length : Int) = a := by
  subst h
  simp [rd_T64, List.getD]
/-- The first bound of a line. -/
def bLook : List S64 → Int → Option Int
  | [], _ => none
  | b :: t, x => if b.f0 = x then some b.f1 else bLook t x
theorem bLook_append : ∀ (l m : List S64) (x : Int), bLook (l ++ m) x = (bLook l x).or (bLook m x)
  | [], m, x => by simp [bLook]
  | b :: t, m, x => by
    simp only [List.cons_append, bLook]
    by_cases c : b.f0 = x
    · simp [c]
    · rw [if_neg c, if_neg c, bLook_append t m x]
theorem bLook_some {l : List S64} {x v : Int} (h : bLook l x = some v) : ∃ b ∈ l, b.f0 = x ∧ b.f1 = v := by
  induction l with
  | nil => cases h
  | cons b t ih =>
    simp only [bLook] at h
    by_cases c : b.f0 = x
    · rw [if_pos c] at h
      exact ⟨b, List.mem_cons_self, c, Option.some.inj h⟩
    · rw [if_neg c] at h
      obtain ⟨d, h1, h2⟩ := ih h
      exact ⟨d, List.mem_cons_of_mem _ h1, h2⟩
theorem bLook_mem : ∀ {l : List S64}, (l.map S64.f0).Nodup → ∀ {b : S64}, b ∈ l → bLook l b.f0 = some b.f1
  | d :: t, hn, b, h => by
    simp only [List.map_cons, List.nodup_cons] at hn
    simp only [bLook]
    rcases List.mem_cons.1 h with rfl | h
    · rw [if_pos rfl]
    · rw [if_neg (fun e => hn.1 (by rw [e]; exact List.mem_map_of_mem h))]
      exact bLook_mem hn.2 h
theorem bLook_isSome (l : List S64) (x : Int) : (bLook l x).isSome = true ↔ x ∈ l.map S64.f0 := by
  induction l with
  | nil => simp [bLook]
  | cons b t ih =>
    simp only [bLook, List.map_cons, List.mem_cons]
    by_cases c : b.f0 = x
    · simp [c]
    · rw [if_neg c, ih]
      constructor
      · exact .inr
      · rintro (e | e)
        · exact absurd e.symm c
        · exact e
/-- The list says what f says. -/
structure BRep (l : List S64) (f : FM) : Prop where
  nodup : (l.map S64.f0).Nodup
  look : ∀ x, bLook l x = f x
theorem BRep.nil : BRep [] noF := ⟨List.nodup_nil, fun _ => rfl⟩
theorem BRep.len {l : List S64} {f : FM} {K : List Int} (h : BRep l f) (hd : Dom f K) : l.length = K.length := by
  have := ((List.perm_ext_iff_of_nodup h.nodup (hd.1.imp (fun h => by omega))).2 fun x => by rw [← bLook_isSome, h.look, hd.2]).length_eq
  rwa [List.length_map] at this
theorem BRep.congr {l : List S64} {f g : FM} (h : BRep l f) (e : ∀ x, f x = g x) : BRep l g := ⟨h.nodup, fun x => (h.look x).trans (e x)⟩
/-- The bounds of some lines. -/
def boundsOf (f : FM) (K : List Int) : List S64 := K.map fun y => ⟨y, (f y).getD 0⟩
theorem boundsOf_len (f : FM) (K : List Int) : (boundsOf f K).length = K.length := by simp [boundsOf]
theorem boundsOf_next (f : FM) {K : List Int} {j : Nat} (h : j < K.length) : boundsOf f (K.take (j + 1)) = boundsOf f (K.take j) ++ [⟨K.getD j 0, (f (K.getD j 0)).getD 0⟩] := by
  rw [List.take_add_one, List.getElem?_eq_getElem h, List.getD_eq_getElem?_getD, List.getElem?_eq_getElem h]
  unfold boundsOf
  rw [List.map_append]
  rfl
theorem bLook_bounds (f : FM) (x : Int) : ∀ K : List Int, bLook (boundsOf f K) x = if x ∈ K then some ((f x).getD 0) else none
  | [] => by simp [boundsOf, bLook]
  | y :: t => by
    show (if y = x then some ((f y).getD 0) else bLook (boundsOf f t) x) = _
    by_cases c : y = x
    · subst c; simp
    · rw [if_neg c, bLook_bounds f x t]
      have : ¬ x = y := fun e => c e.symm
      simp [this]
theorem boundsOf_rep {f : FM} {K : List Int} (hd : Dom f K) : BRep (boundsOf f K) f := by
  refine ⟨?_, fun x => ?_⟩
  · have : (boundsOf f K).map S64.f0 = K := by simp [boundsOf, Function.comp_def]
    rw [this]
    exact hd.1.imp (fun h => by omega)
  · rw [bLook_bounds]
    by_cases c : x ∈ K
    · rw [if_pos c]
      obtain ⟨a, ha⟩ := Option.isSome_iff_exists.1 ((hd.2 x).1 c)
      rw [ha]; rfl
    · rw [if_neg c]
      cases hf : f x with
      | none => rfl
      | some a => exact absurd ((hd.2 x).2 (by rw [hf]; rfl)) c

/-- The bounds lie in w as v, in memory from base on. -/
def BndB (w : World) (base : Nat) (v : Value) (l : List S64) : Prop := k64.R 64 w base (fun _ => True) v l
theorem BndB.nil (w : World) (base : Nat) : BndB w base (.slice none 0 0) [] := Kd.R_nil _ _ _ _ _
theorem BndB.ext {w w' : World} {base : Nat} {v : Value} {l : List S64} (h : BndB w base v l) (e : Ext w w') : BndB w' base v l := Kd.R_below h e
theorem BndB.slice {w : World} {base : Nat} {v : Value} {l : List S64} (h : BndB w base v l) : ∃ A c, v = .slice A l.length c ∧ l.length ≤ c ∧ k64.C w A l.length l := by
  obtain ⟨A, c, rfl⟩ := Kd.R_slice h
  exact ⟨A, c, rfl, (Kd.R_reads' h).2⟩
theorem wp_append_b {ops : Array Oper} {rest : List Oper} {o : Oper} {a : Act} {Q : Exit → Act → World → Prop} {w0 W : World} (hgd : o.guard = none) (s x : Operand)
    (ho : o.op = .call { callee := .builtin .append, args := #[s, x], argTypes := #[49, 49] })
    (v : Value) (xs : List S64) (y c : Int) (B : Nat) (n : Nat) (hn : xs.length = n) (hs : a.eval s = v) (hx : a.eval x = .slice (some ⟨B, 0, none⟩) 1 1) (hB : Blk W B (.cells #[.int .i64 y, .int .i64 c] 64)) (HO : BndB W w0.heap.size v xs) (HB : Ext w0 W) (hlx : n ≤ 1000000)
    (h : ∀ A1 c1 w1, BndB w1 w0.heap.size (.slice A1 (n + 1) c1) (xs ++ [⟨y, c⟩]) → Ext w0 w1 → wpList Try.prog ops Q rest (a.put o.dst (.slice A1 (n + 1) c1)) w1) : wpList Try.prog ops Q (o :: rest) a W := by
  subst hn
  have hC : k64.C W (some ⟨B, 0, none⟩) 1 [⟨y, c⟩] := by
    refine ⟨rfl, by omega, fun _ => ⟨_, rfl, fun j q hj => ⟨[.int .i64 q.f0, .int .i64 q.f1], rfl, k64_mk _ _, fun i u hu => ?_⟩⟩⟩
    have hc := fun i => hB.cell i
    show W.cell? (Addr.add ⟨B, 0, none⟩ (j * 2 + i)) = _
    cases j with
    | succ j => simp at hj
    | zero =>
      simp only [List.getElem?_cons_zero, Option.some.injEq] at hj
      subst hj
      rw [Addr.add_lit, Nat.zero_mul, Nat.zero_add, Nat.zero_add, hc]
      match i, hu with
      | 0, hu => cases hu; rfl
      | 1, hu => cases hu; rfl
      | i + 2, hu => simp at hu
  refine Kd.R_append_rows k64 (Rr := k64.K W) (w0 := w0) (W := W) w0.heap.size hgd s x 49 64 (.agg #[.int .i64 0, .int .i64 0]) 16 ho Try.underlying49 (by kernel_rfl) rfl (by decide) (by decide) v xs [⟨y, c⟩] (some ⟨B, 0, none⟩) 1 1 (fun _ => True) (fun _ => False) hs hx HO hC (fun x cs hp => by obtain rfl := k64_open hp; exact k64_mkM _ _ _ _) (fun k hk => hk.elim) (fun _ _ => trivial) HB HB.size (by omega) ?_
  intro v1 w1 h1 h2 _ _
  obtain ⟨A1, c1, rfl⟩ := Kd.R_slice h1
  rw [List.length_append, List.length_singleton] at h1 ⊢
  exact h A1 c1 w1 h1 h2

theorem find_l0 (l : List S64) (x : Int) (hl : l.length < 100000) : ∀ (r pre : List S64) (k : Nat), l = pre ++ r → r.length + 1 ≤ k → ontimeref30_Find.l0 k l x (pre.length : Int) = some ((bLook r x).getD (-1)) := by
  intro r
  induction r with
  | nil =>
    intro pre k h hk
    obtain ⟨k, rfl⟩ : ∃ j, k = j + 1 := ⟨k - 1, by omega⟩
    simp only [List.append_nil] at h
    subst h
    rw [ontimeref30_Find.l0, if_neg (by omega)]
    rfl
  | cons a t ih =>
    intro pre k h hk
    obtain ⟨k, rfl⟩ : ∃ j, k = j + 1 := ⟨k - 1, by simp at hk; omega⟩
    have hlt : (pre.length : Int) < (l.length : Int) := by subst h; simp; omega
    have hr : rd_T64 l (pre.length : Int) = a := rd64 h
    have hw : wrap64 ((pre.length : Int) + 1) = ((pre ++ [a]).length : Int) := by
      simp only [List.length_append, List.length_singleton]
      rw [w64] <;> omega
    simp only [List.length_cons] at hk
    rw [ontimeref30_Find.l0, if_pos hlt, if_pos (by omega), hr, hw, ih (pre ++ [a]) k (by simp [h]) (by omega)]
    simp only [bLook]
    by_cases c : a.f0 = x
    · rw [if_pos c, if_pos c]; rfl
    · rw [if_neg c, if_neg c]
theorem find_f (l : List S64) (x : Int) (hl : l.length < 100000) (k : Nat) (hk : l.length + 1 ≤ k) : ontimeref30_Find.f k l x = some ((bLook l x).getD (-1)) := find_l0 l x hl l [] k rfl hk
theorem find_at (A : Option Addr) (c n : Nat) (l : List S64) (f : FM) (hrep : BRep l f) (x : Int) (r : Int) (hr : (f x).getD (-1) = r) (w : World) (hC : k64.C w A n l) (hc : n ≤ c) (hl : n < 100000) :
    Calls Try.prog 26 #[.slice A n c, .int .i64 x] w fun e w' => e = .returned (.int .i64 r) ∧ Ext w w' := by
  obtain rfl : l.length = n := hC.1
  have h := find_f l x hl (l.length + 1) (Nat.le_refl _)
  rw [hrep.look x, hr] at h
  exact (ontimeref30_Find.calls (l.length + 1) A c l x r w hC hc h).mono fun e w' ⟨he, hd⟩ => ⟨he, hd.below⟩

set_option maxRecDepth 10000 in
set_option maxHeartbeats 2000000 in
/-- A state, and a list that says the same. -/
theorem same_at {S W L : Int} (p : Option Nat) (m : Nat) (f : FM) (A : Option Addr) (c n : Nat) (l : List S64) (w : World) (h : MB w W m f p) (hm : m ≤ 1000000) (hrep : BRep l f) (hC : k64.C w A n l) (hc : n ≤ c) (hl : n < 100000) :
    Calls Try.prog 23 #[.agg #[.int .i64 S, .int .i64 W, .int .i64 L, .map p], .slice A n c] w fun e w' => e = .returned (.bool true) ∧ Ext w w' := by
  have hln : l.length = n := hC.1
  have HREP := Lib.hid hrep
  have HLN := Lib.hid hln
  clear hrep hln
  go_enter Try.func23, Try.ntmps23
  go_wp2_with (go_at_call 28; refine Calls.mono (must_lines S W L p m f _ (h.1.ext (by repeat (first | ((with_reducible refine Ext.set1 ?_ ?_); (first | (focus (simp; done)) | (focus (simp; omega)) | (focus omega))) | (with_reducible refine Ext.alloc ?_ _) | (with_reducible exact Ext.refl _) | (refine Ext.trans ?_ (by with_reducible assumption))))) hm) ?_; rintro e w1 ⟨v, K, ⟨rfl, hdom, hKn⟩, hh, hb1⟩; obtain ⟨B, cB, rfl, hcB, hmB, hK⟩ := hh.C; have hkl : K.length = n := (by rw [← HREP.out.len hdom]; exact HLN.out); rw [hkl] at hcB hK ⊢; have HDOM := Lib.hid hdom; have HKL := Lib.hid hkl; clear hh hdom hKn hkl)
  have k2 : Blk w1 w.heap.size (mustO S W L p) := (by repeat (first | (with_reducible assumption) | ((with_reducible refine Blk.new ?_); (first | (focus rfl) | (focus (simp; done)) | (focus omega))) | (with_reducible apply Blk.put4) | (with_reducible apply Blk.put1) | ((with_reducible refine Blk.far4 ?_ ?_); (focus omega)) | ((with_reducible refine Blk.set1 ?_ ?_); (focus omega)) | (with_reducible refine Blk.alloc ?_) | (with_reducible refine Blk.drew ?_) | (refine Blk.ext ?_ (by with_reducible assumption))))
  have hx1 : Ext w w1 := (by repeat (first | ((with_reducible refine Ext.set1 ?_ ?_); (first | (focus (simp; done)) | (focus (simp; omega)) | (focus omega))) | (with_reducible refine Ext.alloc ?_ _) | (with_reducible exact Ext.refl _) | (refine Ext.trans ?_ (by with_reducible assumption))))
  clear hb1
  go_loopw [19] (fun i wr => ∃ j : Nat, i = .int .i64 j ∧ j ≤ n ∧ Blk wr w.heap.size (mustO S W L p) ∧ Ext w1 wr) (fun i _ => n - (Go.RowKit.intOf i).toNat)
  case atStart => exact ⟨0, rfl, Nat.zero_le _, k2, Ext.refl _⟩
  case round =>
    clear k2
    obtain ⟨j, rfl, hj, k2, hb⟩ := hrel
    have hl2 := k2.lt
    have hxr := hx1.trans hb
    obtain ⟨a0, a1, a2, a3⟩ := k2.c4
    by_cases hlt : j < n
    · obtain ⟨ad, rfl, hcell⟩ := at_num (C_ext hK hb) j hlt
      have hym : K.getD j 0 ∈ K := by rw [List.getD_eq_getElem?_getD, List.getElem?_eq_getElem (by rw [HKL.out]; exact hlt)]; exact List.getElem_mem _
      obtain ⟨a, hfy⟩ := Option.isSome_iff_exists.1 ((HDOM.out.2 _).1 hym)
      have hyI := (h.1.dom hfy).1
      obtain ⟨y, hy⟩ : ∃ y, K.getD j 0 = y := ⟨_, rfl⟩
      have hyj := hy
      rw [hy] at hcell hfy hyI
      have HFY := Lib.hid hfy
      clear hfy hym hy
      by_cases hj0 : j = 0
      · subst hj0
        clear hyj
        have hcell : wr.cell? ad = some (.int .i64 y) := by simpa [go_sem] using hcell
        go_wp2_with (first
          | (go_at_call 26; refine Calls.mono (find_at A c n l f HREP.out y a (by rw [HFY.out]; rfl) _ (C_ext hC ((hxr.trans hb3))) hc hl) ?_; rintro e w4 ⟨rfl, hb4⟩)
          | (go_at_call 25; refine Calls.mono (age_mb y p m f _ (h.ext hxr) hyI a true (by rw [HFY.out]; rfl) (by rw [HFY.out]; rfl)) ?_; rintro e w3 ⟨rfl, hb3⟩))
        refine ⟨⟨0 + 1, by go_num, by omega, k2.ext (hb3.trans hb4), hb.trans (hb3.trans hb4)⟩, ?_⟩
        simp [Go.RowKit.intOf]
        omega
      · obtain ⟨ad', e', hcell'⟩ := at_num (C_ext hK hb) (j - 1) (by omega)
        cases e'
        have hlt' : K.getD (j - 1) 0 < y := by
          have h1 : j - 1 < K.length := by rw [HKL.out]; omega
          have h2 : j < K.length := by rw [HKL.out]; omega
          have := List.pairwise_iff_getElem.1 HDOM.out.1 (j - 1) j h1 h2 (by omega)
          rw [← hyj]
          simpa [List.getD, h1, h2] using this
        obtain ⟨z, hz⟩ : ∃ z, K.getD (j - 1) 0 = z := ⟨_, rfl⟩
        rw [hz] at hcell' hlt'
        clear hz hyj
        have hge : decide (y ≤ z) = false := by simp; omega
        obtain ⟨i, hi⟩ : ∃ i, j - 1 = i := ⟨_, rfl⟩
        rw [hi] at hcell'
        have hix : (j : Int) - 1 = (i : Int) := by omega
        have hin : i < n := by omega
        have hjp : (0 : Int) < (j : Int) := by omega
        clear hi
        have hadl := cell_lt' hcell'
        have hwr : IntKind.i64.wrap ((j : Int) - 1) = (i : Int) := by rw [hix]; exact IntWalk.i64_in _ (by omega)
        go_wp2_with (first
          | (go_at_call 26; refine Calls.mono (find_at A c n l f HREP.out y a (by rw [HFY.out]; rfl) _ (C_ext hC ((hxr.trans hb3))) hc hl) ?_; rintro e w4 ⟨rfl, hb4⟩; have hc4 := ((hb3.trans hb4).cell hadl).trans hcell')
          | (go_at_call 25; refine Calls.mono (age_mb y p m f _ (h.ext hxr) hyI a true (by rw [HFY.out]; rfl) (by rw [HFY.out]; rfl)) ?_; rintro e w3 ⟨rfl, hb3⟩))
        refine ⟨⟨j + 1, by go_num, by omega, k2.ext (hb3.trans hb4), hb.trans (hb3.trans hb4)⟩, ?_⟩
        simp [Go.RowKit.intOf]
        omega
    · obtain rfl : j = n := by omega
      go_wp2
      go_ret
      exact ⟨rfl, hxr⟩
end Go.Proofs.Ytaekkfgggmighaa
