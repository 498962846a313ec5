/- The contract of ontimelaw32.contains and of the function that it returns. -/
import Derived.Test.YtdbgnniedcibeaaAcc0
import Derived.Carry
namespace Go.Proofs.Ytdbgnniedcibeaa
open Go.RowKit Go.Maps Go.Proofs.YtdbgnniedcibeaaW.PrintWords Go.Proofs.Ytdbgnniedcibeaa.Pusable
set_option linter.unusedVariables false

/-- The function value f tells, in w, whether a line is in s. -/
def FunB (w : World) (base : Nat) (f : Value) (b3 bm : Nat) (s : SB) : Prop := f = .func (.func 34) #[] #[.pointer (some ⟨b3, 0, none⟩)] ∧ Blk w b3 (.cells #[.map (some bm)] 60) ∧ (∃ n, ISet w bm n s) ∧ base ≤ b3 ∧ base ≤ bm
theorem FunB.ext {w w' : World} {base : Nat} {f : Value} {b3 bm : Nat} {s : SB} (h : FunB w base f b3 bm s) (e : Ext w w') : FunB w' base f b3 bm s := by
  obtain ⟨h1, h2, ⟨n, h3⟩, h4, h5⟩ := h
  exact ⟨h1, h2.ext e, ⟨n, h3.ext e⟩, h4, h5⟩
theorem FunB.keep {w w' : World} {base b q : Nat} {S W L : Int} {F : Nat → Prop} {rows : List (List Int)} {f : Value} {b3 bm : Nat} {s : SB} (h : FunB w base f b3 bm s) (c : CaB w b q S W L F rows) (fr : Fr F w w') : FunB w' base f b3 bm s := by
  obtain ⟨h1, h2, ⟨n, h3⟩, h4, h5⟩ := h
  obtain ⟨es, clock, ho⟩ := h3.obj
  exact ⟨h1, c.keep fr h2 (by decide) (by decide), ⟨n, h3.same (c.keepMap fr ho)⟩, h4, h5⟩

set_option maxHeartbeats 1000000 in
theorem contains_at (A : Option Addr) (c n : Nat) (xs : List Int) (w : World) (h : KI.C w A n xs) (hn : n ≤ 310000) (hx : ∀ x ∈ xs, 0 ≤ x ∧ x ≤ 65535) :
    Calls Try.prog 23 #[.slice A n c] w fun e w' => ∃ b3 bm, e = .returned (.func (.func 34) #[] #[.pointer (some ⟨b3, 0, none⟩)]) ∧ FunB w' w.heap.size (.func (.func 34) #[] #[.pointer (some ⟨b3, 0, none⟩)]) b3 bm (fun x => decide (x ∈ xs)) ∧ Ext w w' := by
  have hmm := @run_makeMap Try.prog
  have hl := C_len h
  have HX := Lib.hid hx
  have HL := Lib.hid hl
  clear hx hl
  go_enter Try.func23, Try.ntmps23
  go_wp2
  go_loopw [9] (fun i wr => ∃ j : Nat, i = .int .i64 j ∧ j ≤ n ∧ ISet wr w.heap.size j (fun x => decide (x ∈ xs.take j)) ∧ Blk wr (w.heap.size + 1) (.cells #[.map (some w.heap.size)] 60) ∧ Ext w wr) (fun i _ => n - (Go.RowKit.intOf i).toNat)
  case atStart => exact ⟨0, rfl, Nat.zero_le _, ((ISet.made' rfl).alloc _).congr (fun x => by simp [noS]), Blk.new (by simp), (by repeat (first | ((with_reducible refine Ext.set1 ?_ ?_); (first | (focus (simp; done)) | (focus (simp; omega)) | (focus omega))) | (with_reducible refine Ext.alloc ?_ _) | (with_reducible exact Ext.refl _) | (refine Ext.trans ?_ (by with_reducible assumption))))⟩
  case round =>
    obtain ⟨j, rfl, hj, hset, kb, hext⟩ := hrel
    have hbl := hset.lt
    have hkl := kb.lt
    have hb0 := kb.cell 0
    by_cases hlt : j < n
    · obtain ⟨ad, rfl, hcell⟩ := at_num (C_ext h hext) j hlt
      have hjl : j < xs.length := by rw [HL.out]; exact hlt
      have hxb := HX.out (xs.getD j 0) (by rw [List.getD_eq_getElem?_getD, List.getElem?_eq_getElem hjl]; exact List.getElem_mem _)
      have htk : xs.take (j + 1) = xs.take j ++ [xs.getD j 0] := by
        rw [List.take_add_one, List.getElem?_eq_getElem hjl, List.getD_eq_getElem?_getD, List.getElem?_eq_getElem hjl]
        rfl
      obtain ⟨x, hx⟩ : ∃ x, x = xs.getD j 0 := ⟨_, rfl⟩
      rw [← hx] at hcell hxb htk
      have HTK := Lib.hid htk
      clear hx htk hjl
      obtain ⟨b0, b1⟩ := hxb
      go_wp2_with (at_mapUpdate; refine wpList_store_set _ rfl _ _ _ rfl w.heap.size j _ rfl hset (by unfold maxLen; omega) x rfl rfl (.of (by omega) (by omega)) ?_; intro w3 hset3 _ hg3)
      have kb3 := kb.grown hg3 (by simp)
      have hext3 : Ext w w3 := hext.grown hg3 (fun k e => by cases e; omega)
      go_wp2
      go_roundw
      case rel =>
        refine ⟨j + 1, by go_num, by omega, hset3.congr (fun y => ?_), kb3, hext3⟩
        rw [HTK.out]
        unfold putS
        by_cases c : y = x
        · subst c; simp
        · rw [if_neg c]; simp [c]
      case measure => simp [Go.RowKit.intOf]; omega
    · obtain rfl : j = n := by omega
      go_wp2
      go_ret
      refine ⟨w.heap.size + 1, w.heap.size, rfl, ⟨rfl, kb, ⟨j, hset.congr fun x => ?_⟩, by omega, Nat.le_refl _⟩, hext⟩
      rw [← HL.out, List.take_length]

set_option maxHeartbeats 1000000 in
theorem fun_at {w : World} {base : Nat} {f : Value} {b3 bm : Nat} {s : SB} (h : FunB w base f b3 bm s) (x : Int) (hx0 : 0 ≤ x) (hx1 : x ≤ 65535) (B : Bool) (hB : s x = B) :
    Calls Try.prog 34 #[.int .i64 x, .pointer (some ⟨b3, 0, none⟩)] w fun e w' => e = .returned (.bool B) ∧ Ext w w' := by
  obtain ⟨_, kb, ⟨n, hs⟩, _, _⟩ := h
  have hlook := hs.look (x := x) (.of (by omega) (by omega))
  rw [hB] at hlook
  have hb0 : w.cell? ⟨b3, 0, none⟩ = some (.map (some bm)) := kb.cell 0
  go_enter Try.func34, Try.ntmps34
  go_wp2
  go_ret
  exact ⟨rfl, Ext.refl _⟩
end Go.Proofs.Ytdbgnniedcibeaa
