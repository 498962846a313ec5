/- The rows of a cache: a frame that names the blocks that may turn, and what slices.Index, Delete, Insert and Clone do to a row of numbers of the call's own. -/
import Derived.Test.YtdbgnniedcibeaaCache0
import Derived.Test.YtdbgnniedcibeaaLay3
import Derived.Laws.AppendOwn
namespace Go.Proofs.Ytdbgnniedcibeaa
open Go.RowKit
set_option linter.unusedVariables false

/-- Only blocks of F have turned, and new ones have come. -/
structure Fr (F : Nat → Prop) (w w' : World) : Prop where
  os : w'.os = w.os
  tape : w'.tape = w.tape
  output : w'.output = w.output
  size : w.heap.size ≤ w'.heap.size
  block : ∀ k, k < w.heap.size → ¬ F k → w'.heap[k]? = w.heap[k]?

section
variable {F G : Nat → Prop} {a w w' w'' : World}
theorem Fr.refl (F : Nat → Prop) (w : World) : Fr F w w := ⟨rfl, rfl, rfl, Nat.le_refl _, fun _ _ _ => rfl⟩
theorem Fr.trans (h : Fr F w w') (k : Fr F w' w'') : Fr F w w'' :=
  ⟨k.os.trans h.os, k.tape.trans h.tape, k.output.trans h.output, Nat.le_trans h.size k.size, fun i hi hF => (k.block i (Nat.lt_of_lt_of_le hi h.size) hF).trans (h.block i hi hF)⟩
theorem Fr.mono (h : Fr F w w') (hFG : ∀ k, k < w.heap.size → F k → G k) : Fr G w w' :=
  ⟨h.os, h.tape, h.output, h.size, fun k hk hG => h.block k hk fun hF => hG (hFG k hk hF)⟩
theorem Fr.ofExt (F : Nat → Prop) (h : Ext w w') : Fr F w w' := ⟨h.os, h.tape, h.output, h.size, fun k hk _ => h.block hk⟩
theorem Fr.ext (h : Fr F w w') (k : Ext w' w'') : Fr F w w'' := h.trans (Fr.ofExt F k)
theorem Fr.drew (h : Fr F w w') : Fr F w w'.drew := ⟨h.os, h.tape, h.output, h.size, h.block⟩
theorem Fr.drewN (h : Fr F w w') (n : Nat) : Fr F w (w'.drewN n) := ⟨h.os, h.tape, h.output, h.size, h.block⟩
theorem Fr.alloc (h : Fr F w w') (o : Obj) : Fr F w (w'.alloc o) := h.ext ((Ext.refl _).alloc o)
theorem Fr.setCell (h : Fr F w w') {b o : Nat} {u : Value} (hb : F b) : Fr F w (w'.setCell ⟨b, o, none⟩ u) :=
  h.trans ⟨rfl, rfl, rfl, by simp [World.setCell], fun k hk hF => Below.heap_setCell w' _ _ _ (fun e => hF (e ▸ hb))⟩
theorem Fr.setNew (h : Fr F w w') {b o : Nat} {u : Value} (hb : w.heap.size ≤ b) : Fr F w (w'.setCell ⟨b, o, none⟩ u) :=
  ⟨h.os, h.tape, h.output, by simpa [World.setCell] using h.size, fun k hk hF => (Below.heap_setCell w' _ _ _ (by show k ≠ b; omega)).trans (h.block k hk hF)⟩
theorem Fr.setCells {b : Nat} (hb : F b) : ∀ (vs : List Value) (o : Nat) {w' : World}, Fr F w w' → Fr F w (w'.setCells b o vs)
  | [], _, _, h => h
  | _ :: vs, o, _, h => Fr.setCells hb vs (o + 1) (h.setCell hb)
theorem Fr.newCells {b : Nat} (hb : w.heap.size ≤ b) : ∀ (vs : List Value) (o : Nat) {w' : World}, Fr F w w' → Fr F w (w'.setCells b o vs)
  | [], _, _, h => h
  | _ :: vs, o, _, h => Fr.newCells hb vs (o + 1) (h.setNew hb)
theorem Ext.fr (h : Ext a w) (f : Fr F w w') (hF : ∀ k, F k → a.heap.size ≤ k) : Ext a w' :=
  ⟨f.os.trans h.os, f.tape.trans h.tape, f.output.trans h.output, Nat.le_trans h.size f.size, fun k hk => (f.block k (Nat.lt_of_lt_of_le hk h.size) (fun e => by have := hF k e; omega)).trans (h.block hk)⟩
theorem Blk.fr {B : Nat} {o : Obj} (h : Blk w B o) (f : Fr F w w') (hB : ¬ F B) : Blk w' B o := (f.block B h.lt hB).trans h
end

theorem Blk.setCells {b : Nat} {t : TypeId} : ∀ (vs : List Value) (o : Nat) (w : World) (cs : Array Value), Blk w b (.cells cs t) → ∃ cs' : Array Value, Blk (w.setCells b o vs) b (.cells cs' t) ∧ cs'.size = cs.size ∧
    (∀ j, j < cs.size → cs'[j]? = if o ≤ j ∧ j < o + vs.length then vs[j - o]? else cs[j]?)
  | [], o, w, cs, h => ⟨cs, h, rfl, fun j _ => by rw [if_neg]; rintro ⟨a, b⟩; simp at b; omega⟩
  | v :: vs, o, w, cs, h => by
    obtain ⟨cs', h1, h2, h3⟩ := Blk.setCells vs (o + 1) _ _ (h.put (k := o) (u := v))
    have h2' : cs'.size = cs.size := by simpa using h2
    refine ⟨cs', h1, h2', fun j hj => ?_⟩
    rw [h3 j (by simpa using hj)]
    simp only [List.length_cons]
    by_cases e : j = o
    · subst e
      rw [if_neg (by omega), if_pos (by omega), Nat.sub_self]
      simp [hj]
    · by_cases h4 : o + 1 ≤ j ∧ j < o + 1 + vs.length
      · rw [if_pos h4, if_pos (by omega)]
        obtain ⟨m, rfl⟩ : ∃ m, j = o + 1 + m := ⟨j - (o + 1), by omega⟩
        rw [show o + 1 + m - (o + 1) = m by omega, show o + 1 + m - o = m + 1 by omega]
        rfl
      · rw [if_neg h4, if_neg (by omega), Array.getElem?_setIfInBounds, if_neg (by omega)]

/-- The slice v owns a row of the numbers r. -/
def RowB (w : World) (base : Nat) (v : Value) (r : List Int) : Prop := w.ownsRow base 3 1 v r.length (r.map (Value.int .i64))

theorem RowB.nil (w : World) (base : Nat) : RowB w base (.slice none 0 0) [] := World.ownsRow_nil _ _ _ _
theorem RowB.cases {w : World} {base : Nat} {v : Value} {r : List Int} (h : RowB w base v r) : (v = .slice none 0 0 ∧ r = []) ∨
    ∃ g cap, ∃ cur : Array Value, v = .slice (some ⟨g, 0, none⟩) r.length cap ∧ base ≤ g ∧ Blk w g (.cells cur 3) ∧ r.length ≤ cap ∧ cap ≤ 9223372036854775807 ∧ cur.size = cap ∧ (∀ j, j < r.length → cur[j]? = some (.int .i64 (r.getD j 0))) := by
  rcases h.2 with ⟨rfl, h0⟩ | ⟨g, cap, cur, rfl, hb, hg, hn, hc, hs, ht⟩
  · exact .inl ⟨rfl, List.length_eq_zero_iff.1 h0⟩
  · refine .inr ⟨g, cap, cur, rfl, hb, hg, hn, ?_, by simpa using hs, fun j hj => ?_⟩
    · unfold maxLen at hc; omega
    · have e : (cur.toList.take (r.length * 1))[j]? = (r.map (Value.int .i64))[j]? := by rw [ht]
      rw [List.getElem?_take, if_pos (by omega), Array.getElem?_toList] at e
      rw [e, List.getElem?_map, List.getElem?_eq_getElem hj]
      simp [List.getD, hj]
theorem RowB.intro {w : World} {base g cap : Nat} {cur : Array Value} {r : List Int} (hb : base ≤ g) (hB : Blk w g (.cells cur 3)) (hn : r.length ≤ cap) (hc : cap ≤ 9223372036854775807) (hs : cur.size = cap) (ht : ∀ j, j < r.length → cur[j]? = some (.int .i64 (r.getD j 0))) :
    RowB w base (.slice (some ⟨g, 0, none⟩) r.length cap) r := by
  refine ⟨by simp, .inr ⟨g, cap, cur, rfl, hb, hB, hn, by unfold maxLen; omega, by simpa using hs, ?_⟩⟩
  refine List.ext_getElem? fun j => ?_
  rw [List.getElem?_take]
  by_cases hj : j < r.length
  · rw [if_pos (by omega), Array.getElem?_toList, ht j hj, List.getElem?_map, List.getElem?_eq_getElem hj]
    simp [List.getD, hj]
  · rw [if_neg (by omega), List.getElem?_eq_none (by simp; omega)]
theorem RowB.lt {w : World} {base : Nat} {v : Value} {r : List Int} (h : RowB w base v r) : ∀ k, v.ownBlock = some k → base ≤ k ∧ k < w.heap.size := World.ownsRow.lt h
theorem RowB.fr {w w' : World} {base : Nat} {v : Value} {r : List Int} {F : Nat → Prop} (h : RowB w base v r) (f : Fr F w w') (hF : ∀ k, v.ownBlock = some k → ¬ F k) : RowB w' base v r := by
  refine ⟨h.1, ?_⟩
  rcases h.2 with ⟨rfl, h0⟩ | ⟨g, cap, cur, rfl, hb, hg, hr⟩
  · exact .inl ⟨rfl, h0⟩
  · exact .inr ⟨g, cap, cur, rfl, hb, Blk.fr (B := g) hg f (hF g rfl), hr⟩
theorem RowB.ext {w w' : World} {base : Nat} {v : Value} {r : List Int} (h : RowB w base v r) (f : Ext w w') : RowB w' base v r := h.fr (F := fun _ => False) (Fr.ofExt _ f) fun _ _ h => h
theorem RowB.lower {w : World} {base base' : Nat} {v : Value} {r : List Int} (h : RowB w base v r) (hb : base' ≤ base) : RowB w base' v r := by
  refine ⟨h.1, ?_⟩
  rcases h.2 with ⟨rfl, h0⟩ | ⟨g, cap, cur, rfl, hg, hr⟩
  · exact .inl ⟨rfl, h0⟩
  · exact .inr ⟨g, cap, cur, rfl, Nat.le_trans hb hg, hr⟩
theorem RowB.kind {w : World} {base : Nat} {v : Value} {r : List Int} (h : RowB w base v r) (k : Nat) (hk : v.ownBlock = some k) : ∃ cs, Blk w k (.cells cs 3) := by
  rcases h.cases with ⟨rfl, _⟩ | ⟨g, cap, cur, rfl, _, hB, _⟩
  · cases hk
  · cases hk; exact ⟨cur, hB⟩
theorem RowB.slice {w : World} {base : Nat} {v : Value} {r : List Int} (h : RowB w base v r) : ∃ A c, v = .slice A r.length c ∧ r.length ≤ c := by
  rcases h.cases with ⟨rfl, rfl⟩ | ⟨g, cap, cur, rfl, _, _, hn, _⟩
  · exact ⟨none, 0, rfl, Nat.le_refl _⟩
  · exact ⟨_, _, rfl, hn⟩

/-! ### the four functions of slices -/
theorem row_index {w : World} {base : Nat} {v : Value} {r : List Int} (h : RowB w base v r) (x : Int) (hr : r.length ≤ 1000) :
    Calls Try.prog 37 #[v, .int .i64 x] w fun e w' => e = .returned (.int .i64 (Lib.idxOf r x)) ∧ w' = w := by
  rcases h.cases with ⟨rfl, rfl⟩ | ⟨g, cap, cur, rfl, hb, hB, hn, hc, hs, ht⟩
  · exact Any.slices_Index_int_empty Try.indexL none 0 x w
  · have := Any.slices_Index_int Try.indexL g 0 r.length cap r x w (Nat.le_refl _) (by omega) fun j hj => by rw [Nat.zero_add, hB.cell]; exact ht j hj
    rw [List.take_length] at this
    exact this

theorem row_delete {w : World} {base : Nat} {v : Value} {r : List Int} (h : RowB w base v r) (k : Nat) (hk : k < r.length) :
    Calls Try.prog 38 #[v, .int .i64 (k : Int), .int .i64 ((k + 1 : Nat) : Int)] w fun e w' => ∃ v', e = .returned v' ∧ RowB w' base v' (r.eraseIdx k) ∧ v'.ownBlock = v.ownBlock ∧ Fr (fun j => v.ownBlock = some j) w w' := by
  rcases h.cases with ⟨rfl, rfl⟩ | ⟨g, cap, cur, rfl, hb, hB, hn, hc, hs, ht⟩
  · exact absurd hk (Nat.not_lt_zero _)
  · have := Any.slices_Delete_int_cells Try.deleteL g 0 r.length cap k (k + 1) r w (Nat.le_refl _) hn hc (by omega) (by omega) (fun j hj => by rw [Nat.zero_add, hB.cell]; exact ht j hj) (fun j hj => hB.free _)
    refine this.mono ?_
    rintro e w' ⟨rfl, q, rfl⟩
    rw [List.take_length]
    have hB' : Blk (w.drewN q) g (.cells cur 3) := hB
    obtain ⟨cs', h1, h2, h3⟩ := Blk.setCells ((r.take k ++ r.drop (k + 1) ++ List.replicate (k + 1 - k) 0).map (Value.int .i64)) 0 _ _ hB'
    have hl : (r.eraseIdx k).length = r.length - (k + 1 - k) := by rw [List.length_eraseIdx, if_pos hk]; omega
    refine ⟨_, rfl, ?_, rfl, Fr.setCells (by rfl) _ _ ((Fr.refl _ _).drewN q)⟩
    rw [← hl]
    refine RowB.intro hb h1 (by omega) hc (by omega) fun j hj => ?_
    have e1 : r.take k ++ r.drop (k + 1) = r.eraseIdx k := (List.eraseIdx_eq_take_drop_succ r k).symm
    rw [e1] at h3
    rw [h3 j (by omega), if_pos (by simp; omega), List.getElem?_map, Nat.sub_zero, List.getElem?_append_left hj, List.getElem?_eq_getElem hj]
    simp [List.getD, hj]

theorem insT : Try.insertL_ren.t 3 = 3 := rfl
theorem row_insert {w : World} {base : Nat} {v : Value} {r : List Int} {x : Int} {vb : Nat} (h : RowB w base v r) (hv : Blk w vb (.cells #[.int .i64 x] 3)) (hne : v.ownBlock ≠ some vb) (hr : r.length ≤ 1000) (hbw : base ≤ w.heap.size) :
    Calls Try.prog 39 #[v, .int .i64 0, .slice (some ⟨vb, 0, none⟩) 1 1] w fun e w' => ∃ v', e = .returned v' ∧ RowB w' base v' (x :: r) ∧ (v'.ownBlock = v.ownBlock ∨ v'.ownBlock = some w.heap.size) ∧ Fr (fun j => v.ownBlock = some j) w w' := by
  have hvs : ∀ j u, [Value.int .i64 x][j]? = some u → w.cell? ⟨vb, 0 + j, none⟩ = some u := fun j u hj => by
    rw [Nat.zero_add, hv.cell]
    cases j with
    | zero => simpa using hj
    | succ j => simp at hj
  have h1v : ∀ u ∈ [Value.int .i64 x], u.oneCell' = true := fun u hu => by simp at hu; subst hu; rfl
  rcases h.cases with ⟨rfl, rfl⟩ | ⟨g, cap, cur, rfl, hb, hB, hn, hc, hs, ht⟩
  · have := Any2.slices_Insert_int_end_grow Try.insertL none 0 0 vb 0 1 1 [] [Value.int .i64 x] w (by omega) (by omega) (by omega) (by omega) rfl rfl (fun _ => rfl) (fun a ha => by cases ha) hvs h1v
    rw [insT] at this
    refine Calls.mono this ?_
    rintro e w' ⟨rfl, rfl⟩
    have hge := grownCap_ge w (0 + 1) 0 3
    have hle := grownCap_le_maxLen w (0 + 1) 0 3 (by unfold maxLen; omega)
    refine ⟨_, rfl, RowB.intro (r := [x]) (by simpa using hbw) (Blk.new rfl) hge (by unfold maxLen at hle; omega) ?_ ?_, .inr rfl, (Fr.refl _ _).drew.alloc _⟩
    · have hge2 : 1 ≤ grownCap w 1 0 3 := hge
      simp [Builtin.zeroCells, Value.cells]; omega
    · intro j hj
      have : j = 0 := by simp at hj; exact hj
      subst this
      simp [Array.getElem?_append]
  · have hgv : g ≠ vb := fun e => hne (by rw [e]; rfl)
    have hgl := hB.lt
    have hcs : ∀ j u, (r.map (Value.int .i64))[j]? = some u → w.cell? ⟨g, 0 + j, none⟩ = some u := fun j u hj => by
      rw [Nat.zero_add, hB.cell]
      have hjr : j < r.length := by have := (List.getElem?_eq_some_iff.1 hj).1; simpa using this
      rw [ht j hjr]
      rw [List.getElem?_map, List.getElem?_eq_getElem hjr] at hj
      simpa [List.getD, hjr] using hj
    have h1c : ∀ u ∈ r.map (Value.int .i64), u.oneCell' = true := fun u hu => by obtain ⟨y, _, rfl⟩ := List.mem_map.1 hu; rfl
    have hsp : ∀ j, j < cap → (w.cell? ⟨g, 0 + j, none⟩).isSome = true := fun j hj => by rw [Nat.zero_add, hB.cell, Array.getElem?_eq_getElem (by omega)]; rfl
    by_cases hroom : r.length + 1 ≤ cap
    · have key : ∃ w2 : World, Calls Try.prog 39 #[.slice (some ⟨g, 0, none⟩) r.length cap, .int .i64 0, .slice (some ⟨vb, 0, none⟩) 1 1] w (fun e w' => e = .returned (.slice (some ⟨g, 0, none⟩) (r.length + 1) cap) ∧ w' = w2) ∧ Fr (fun j => some g = some j) w w2 ∧
          ∃ cs', Blk w2 g (.cells cs' 3) ∧ cs'.size = cap ∧ ∀ j, j < r.length + 1 → cs'[j]? = some (.int .i64 ((x :: r).getD j 0)) := by
        by_cases h0 : r = []
        · subst h0
          have k0 := Any2.slices_Insert_int_end_room Try.insertL g 0 0 cap vb 0 1 1 [Value.int .i64 x] w (by omega) hroom hc rfl (fun j hj => by have := hsp j (by simp at hroom; omega); simpa using this) (fun j _ => hB.free _) hvs h1v
          refine ⟨_, k0, Fr.setCells (F := fun j => some g = some j) rfl _ _ (Fr.refl _ _), ?_⟩
          obtain ⟨cs', h1, h2, h3⟩ := Blk.setCells [Value.int .i64 x] (0 + 0) _ _ hB
          refine ⟨cs', h1, h2.trans hs, fun j hj => ?_⟩
          have : j = 0 := by simp at hj; exact hj
          subst this
          rw [h3 0 (by simp at hroom; omega)]
          simp
        · have hpos : 0 < r.length := List.length_pos_iff.2 h0
          have k0 := Any2.slices_Insert_int_shift Try.insertL g 0 r.length cap 0 vb 0 1 1 (r.map (Value.int .i64)) [Value.int .i64 x] w hpos (by omega) hroom hc (Ne.symm hgv) (by simp) rfl hcs (fun j hj => hsp j (by omega)) (fun j _ => hB.free _) hvs h1c h1v 3 3 1 cap
            (by have : w.heap[vb]? = _ := hv; simp [World.shape?, this]) (by have : w.heap[g]? = _ := hB; simp [World.shape?, this, hs]) (by omega) (hv.free _) (hv.free _)
          refine ⟨_, k0, Fr.setCells (F := fun j => some g = some j) rfl _ _ (Fr.setCells (F := fun j => some g = some j) rfl _ _ (Fr.refl _ _).drew), ?_⟩
          have hB' : Blk w.drew g (.cells cur 3) := hB
          obtain ⟨cs1, a1, a2, a3⟩ := Blk.setCells ((r.map (Value.int .i64)).drop 0) (0 + (0 + 1)) _ _ hB'
          obtain ⟨cs2, b1, b2, b3⟩ := Blk.setCells [Value.int .i64 x] (0 + 0) _ _ a1
          refine ⟨cs2, b1, by omega, fun j hj => ?_⟩
          rw [b3 j (by omega)]
          cases j with
          | zero => simp
          | succ j =>
            rw [if_neg (by simp), a3 _ (by omega), if_pos (by simp; omega), show j + 1 - (0 + (0 + 1)) = j by omega]
            have hj' : j < r.length := by omega
            simp [List.getD, hj']
      obtain ⟨w2, k1, k2, cs', k3, k4, k5⟩ := key
      refine k1.mono ?_
      rintro e w' ⟨rfl, rfl⟩
      exact ⟨_, rfl, RowB.intro (r := x :: r) hb k3 hroom hc k4 k5, .inl rfl, k2⟩
    · have hge := grownCap_ge w (r.length + 1) cap 3
      have hle := grownCap_le_maxLen w (r.length + 1) cap 3 (by unfold maxLen; omega)
      have key : ∃ w2 : World, Calls Try.prog 39 #[.slice (some ⟨g, 0, none⟩) r.length cap, .int .i64 0, .slice (some ⟨vb, 0, none⟩) 1 1] w (fun e w' => e = .returned (.slice (some ⟨w.heap.size, 0, none⟩) (r.length + 1) (grownCap w (r.length + 1) cap 3)) ∧ w' = w2) ∧ Fr (fun j => some g = some j) w w2 ∧
          ∃ cs', Blk w2 w.heap.size (.cells cs' 3) ∧ cs'.size = grownCap w (r.length + 1) cap 3 ∧ ∀ j, j < r.length + 1 → cs'[j]? = some (.int .i64 ((x :: r).getD j 0)) := by
        by_cases h0 : r = []
        · subst h0
          have k0 := Any2.slices_Insert_int_end_grow Try.insertL (some ⟨g, 0, none⟩) 0 cap vb 0 1 1 [] [Value.int .i64 x] w (by omega) (by omega) (by simp at hroom; omega) (by omega) rfl rfl (fun _ => rfl) (fun a _ j u hj => by simp at hj) hvs h1v
          rw [insT] at k0
          refine ⟨_, k0, (Fr.refl _ _).drew.alloc _, _, Blk.new rfl, ?_, ?_⟩
          · simp [Builtin.zeroCells, Value.cells]
            have : 1 ≤ grownCap w 1 cap 3 := hge
            omega
          · intro j hj
            have : j = 0 := by simp at hj; exact hj
            subst this
            simp [Array.getElem?_append]
        · have hpos : 0 < r.length := List.length_pos_iff.2 h0
          have k0 := Any2.slices_Insert_int_grow Try.insertL g 0 r.length cap 0 vb 0 1 1 (r.map (Value.int .i64)) [Value.int .i64 x] w hpos (by omega) hn (by omega) (by omega) (by simp) rfl hcs hvs h1c h1v
          rw [insT] at k0
          refine ⟨_, k0, Fr.newCells (Nat.le_refl _) _ _ (Fr.newCells (Nat.le_refl _) _ _ ((Fr.refl _ _).alloc _).drew).drew, ?_⟩
          obtain ⟨G, hG⟩ : ∃ G, G = grownCap w (r.length + 1) cap 3 := ⟨_, rfl⟩
          obtain ⟨CS, hCS⟩ : ∃ CS : Array Value, CS = (((r.map (Value.int .i64)).take 0).toArray ++ Builtin.zeroCells (Value.int .i64 0).cells (r.length + 1 - 0) ++ Builtin.zeroCells (Value.int .i64 0).cells (G - (r.length + 1))) := ⟨_, rfl⟩
          have hsz : CS.size = G := by
            rw [hCS]
            simp [Builtin.zeroCells, Value.cells]
            omega
          have hB' : Blk (w.alloc (.cells CS 3)).drew w.heap.size (.cells CS 3) := Blk.new (w := w) rfl
          obtain ⟨cs1, a1, a2, a3⟩ := Blk.setCells [Value.int .i64 x] 0 _ _ hB'
          have a1' : Blk ((w.alloc (.cells CS 3)).drew.setCells w.heap.size 0 [Value.int .i64 x]).drew w.heap.size (.cells cs1 3) := a1
          obtain ⟨cs2, b1, b2, b3⟩ := Blk.setCells ((r.map (Value.int .i64)).drop 0) (0 + 1) _ _ a1'
          rw [← hG]
          refine ⟨cs2, by rw [hCS] at b1; exact b1, by omega, fun j hj => ?_⟩
          rw [b3 j (by omega)]
          cases j with
          | zero =>
            rw [if_neg (by omega), a3 0 (by omega)]
            simp
          | succ j =>
            have hj' : j < r.length := by omega
            rw [if_pos (by simp; omega), show j + 1 - (0 + 1) = j by omega]
            simp [List.getD, hj']
      obtain ⟨w2, k1, k2, cs', k3, k4, k5⟩ := key
      refine k1.mono ?_
      rintro e w' ⟨rfl, rfl⟩
      exact ⟨_, rfl, RowB.intro (r := x :: r) hbw k3 (by simpa using hge) (by unfold maxLen at hle; omega) k4 k5, .inr rfl, k2⟩

theorem row_clone {w : World} {base : Nat} {v : Value} {r : List Int} (h : RowB w base v r) (hr : r.length ≤ 1000) :
    Calls Try.prog 45 #[v] w fun e w' => ∃ v', e = .returned v' ∧ RowB w' w.heap.size v' r ∧ Ext w w' := by
  rcases h.cases with ⟨rfl, rfl⟩ | ⟨g, cap, cur, rfl, hb, hB, hn, hc, hs, ht⟩
  · refine (Any.slices_Clone_int_nil Try.scloneL 0 0 w).mono ?_
    rintro e w' ⟨rfl, rfl⟩
    exact ⟨_, rfl, RowB.nil _ _, Ext.refl _⟩
  · by_cases h0 : r = []
    · subst h0
      refine (Any.slices_Clone_int_zero Try.scloneL ⟨g, 0, none⟩ cap w).mono ?_
      rintro e w' ⟨v', rfl, h1, _, h2⟩
      exact ⟨v', rfl, h1, h2⟩
    · refine (Any.slices_Clone_int Try.scloneL g 0 r.length cap r w (Nat.le_refl _) (by omega) fun j hj => by rw [Nat.zero_add, hB.cell]; exact ht j hj).mono ?_
      rintro e w' ⟨v', rfl, h1, _, h2⟩
      rw [List.take_length] at h1
      exact ⟨v', rfl, h1, h2⟩
end Go.Proofs.Ytdbgnniedcibeaa
