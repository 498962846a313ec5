/- Lists of bounds: what the reference's Find reads in them; the list of a state's bounds; an append of one bound. -/
import Derived.Test.YtaekkfgggmighaaMuS
import Derived.Test.YtaekkfgggmighaaMuH
import Derived.Test.YtaekkfgggmighaaPDescribesx1
namespace Go.Proofs.Ytaekkfgggmighaa
open Go.RowKit Go.Maps Go.Proofs.YtaekkfgggmighaaW.PrintWords Go.Proofs.Ytaekkfgggmighaa.Pgreat Go.Proofs.Ytaekkfgggmighaa.PDescribes
set_option linter.unusedVariables false

theorem rd64 {l : List S64} {a : S64} {r pre : List S64} (h : l = pre ++ a :: r) : rd_T64 l (pre.length : Int) = a := by
  subst h
  simp [rd_T64, List.getD]
/-- The first bound of a line. -/
def bLook : List S64 → Int → Option Int
  | [], _ => none
  | b :: t, x => if b.f0 = x then some b.f1 else bLook t x
theorem bLook_append : ∀ (l m : List S64) (x : Int), bLook (l ++ m) x = (bLook l x).or (bLook m x)
  | [], m, x => by simp [bLook]
  | b :: t, m, x => by
    simp only [List.cons_append, bLook]
    by_cases c : b.f0 = x
    · simp [c]
    · rw [if_neg c, if_neg c, bLook_append t m x]
theorem bLook_some {l : List S64} {x v : Int} (h : bLook l x = some v) : ∃ b ∈ l, b.f0 = x ∧ b.f1 = v := by
  induction l with
  | nil => cases h
  | cons b t ih =>
    simp only [bLook] at h
    by_cases c : b.f0 = x
    · rw [if_pos c] at h
      exact ⟨b, List.mem_cons_self, c, Option.some.inj h⟩
    · rw [if_neg c] at h
      obtain ⟨d, h1, h2⟩ := ih h
      exact ⟨d, List.mem_cons_of_mem _ h1, h2⟩
theorem bLook_mem : ∀ {l : List S64}, (l.map S64.f0).Nodup → ∀ {b : S64}, b ∈ l → bLook l b.f0 = some b.f1
  | d :: t, hn, b, h => by
    simp only [List.map_cons, List.nodup_cons] at hn
    simp only [bLook]
    rcases List.mem_cons.1 h with rfl | h
    · rw [if_pos rfl]
    · rw [if_neg (fun e => hn.1 (by rw [e]; exact List.mem_map_of_mem h))]
      exact bLook_mem hn.2 h
theorem bLook_isSome (l : List S64) (x : Int) : (bLook l x).isSome = true ↔ x ∈ l.map S64.f0 := by
  induction l with
  | nil => simp [bLook]
  | cons b t ih =>
    simp only [bLook, List.map_cons, List.mem_cons]
    by_cases c : b.f0 = x
    · simp [c]
    · rw [if_neg c, ih]
      constructor
      · exact .inr
      · rintro (e | e)
        · exact absurd e.symm c
        · exact e
/-- The list says what f says. -/
structure BRep (l : List S64) (f : FM) : Prop where
  nodup : (l.map S64.f0).Nodup
  look : ∀ x, bLook l x = f x
theorem BRep.nil : BRep [] noF := ⟨List.nodup_nil, fun _ => rfl⟩
theorem BRep.len {l : List S64} {f : FM} {K : List Int} (h : BRep l f) (hd : Dom f K) : l.length = K.length := by
  have := ((List.perm_ext_iff_of_nodup h.nodup (hd.1.imp (fun h => by omega))).2 fun x => by rw [← bLook_isSome, h.look, hd.2]).length_eq
  rwa [List.length_map] at this
theorem BRep.congr {l : List S64} {f g : FM} (h : BRep l f) (e : ∀ x, f x = g x) : BRep l g := ⟨h.nodup, fun x => (h.look x).trans (e x)⟩
/-- The bounds of some lines. -/
def boundsOf (f : FM) (K : List Int) : List S64 := K.map fun y => ⟨y, (f y).getD 0⟩
theorem boundsOf_len (f : FM) (K : List Int) : (boundsOf f K).length = K.length := by simp [boundsOf]
theorem boundsOf_next (f : FM) {K : List Int} {j : Nat} (h : j < K.length) : boundsOf f (K.take (j + 1)) = boundsOf f (K.take j) ++ [⟨K.getD j 0, (f (K.getD j 0)).getD 0⟩] := by
  rw [List.take_add_one, List.getElem?_eq_getElem h, List.getD_eq_getElem?_getD, List.getElem?_eq_getElem h]
  unfold boundsOf
  rw [List.map_append]
  rfl
theorem bLook_bounds (f : FM) (x : Int) : ∀ K : List Int, bLook (boundsOf f K) x = if x ∈ K then some ((f x).getD 0) else none
  | [] => by simp [boundsOf, bLook]
  | y :: t => by
    show (if y = x then some ((f y).getD 0) else bLook (boundsOf f t) x) = _
    by_cases c : y = x
    · subst c; simp
    · rw [if_neg c, bLook_bounds f x t]
      have : ¬ x = y := fun e => c e.symm
      simp [this]
theorem boundsOf_rep {f : FM} {K : List Int} (hd : Dom f K) : BRep (boundsOf f K) f := by
  refine ⟨?_, fun x => ?_⟩
  · have : (boundsOf f K).map S64.f0 = K := by simp [boundsOf, Function.comp_def]
    rw [this]
    exact hd.1.imp (fun h => by omega)
  · rw [bLook_bounds]
    by_cases c : x ∈ K
    · rw [if_pos c]
      obtain ⟨a, ha⟩ := Option.isSome_iff_exists.1 ((hd.2 x).1 c)
      rw [ha]; rfl
    · rw [if_neg c]
      cases hf : f x with
      | none => rfl
      | some a => exact absurd ((hd.2 x).2 (by rw [hf]; rfl)) c

/-- The bounds lie in w as v, in memory from base on. -/
def BndB (w : World) (base : Nat) (v : Value) (l : List S64) : Prop := k64.R 64 w base (fun _ => True) v l
theorem BndB.nil (w : World) (base : Nat) : BndB w base (.slice none 0 0) [] := Kd.R_nil _ _ _ _ _
theorem BndB.ext {w w' : World} {base : Nat} {v : Value} {l : List S64} (h : BndB w base v l) (e : Ext w w') : BndB w' base v l := Kd.R_below h e
theorem BndB.slice {w : World} {base : Nat} {v : Value} {l : List S64} (h : BndB w base v l) : ∃ A c, v = .slice A l.length c ∧ l.length ≤ c ∧ k64.C w A l.length l := by
  obtain ⟨A, c, rfl⟩ := Kd.R_slice h
  exact ⟨A, c, rfl, (Kd.R_reads' h).2⟩
theorem wp_append_b {ops : Array Oper} {rest : List Oper} {o : Oper} {a : Act} {Q : Exit → Act → World → Prop} {w0 W : World} (hgd : o.guard = none) (s x : Operand)
    (ho : o.op = .call { callee := .builtin .append, args := #[s, x], argTypes := #[49, 49] })
    (v : Value) (xs : List S64) (y c : Int) (B : Nat) (n : Nat) (hn : xs.length = n) (hs : a.eval s = v) (hx : a.eval x = .slice (some ⟨B, 0, none⟩) 1 1) (hB : Blk W B (.cells #[.int .i64 y, .int .i64 c] 64)) (HO : BndB W w0.heap.size v xs) (HB : Ext w0 W) (hlx : n ≤ 1000000)
    (h : ∀ A1 c1 w1, BndB w1 w0.heap.size (.slice A1 (n + 1) c1) (xs ++ [⟨y, c⟩]) → Ext w0 w1 → wpList Try.prog ops Q rest (a.put o.dst (.slice A1 (n + 1) c1)) w1) : wpList Try.prog ops Q (o :: rest) a W := by
  subst hn
  have hC : k64.C W (some ⟨B, 0, none⟩) 1 [⟨y, c⟩] := by
    refine ⟨rfl, by omega, fun _ => ⟨_, rfl, fun j q hj => ⟨[.int .i64 q.f0, .int .i64 q.f1], rfl, k64_mk _ _, fun i u hu => ?_⟩⟩⟩
    have hc := fun i => hB.cell i
    show W.cell? (Addr.add ⟨B, 0, none⟩ (j * 2 + i)) = _
    cases j with
    | succ j => simp at hj
    | zero =>
      simp only [List.getElem?_cons_zero, Option.some.injEq] at hj
      subst hj
      rw [Addr.add_lit, Nat.zero_mul, Nat.zero_add, Nat.zero_add, hc]
      match i, hu with
      | 0, hu => cases hu; rfl
      | 1, hu => cases hu; rfl
      | i + 2, hu => simp at hu
  refine Kd.R_append_rows k64 (Rr := k64.K W) (w0 := w0) (W := W) w0.heap.size hgd s x 49 64 (.agg #[.int .i64 0, .int .i64 0]) 16 ho Try.underlying49 (by kernel_rfl) rfl (by decide) (by decide) v xs [⟨y, c⟩] (some ⟨B, 0, none⟩) 1 1 (fun _ => True) (fun _ => False) hs hx HO hC (fun x cs hp => by obtain rfl := k64_open hp; exact k64_mkM _ _ _ _) (fun k hk => hk.elim) (fun _ _ => trivial) HB HB.size (by omega) ?_
  intro v1 w1 h1 h2 _ _
  obtain ⟨A1, c1, rfl⟩ := Kd.R_slice h1
  rw [List.length_append, List.length_singleton] at h1 ⊢
  exact h A1 c1 w1 h1 h2
end Go.Proofs.Ytaekkfgggmighaa
