/- The contracts of ontimelaw32.accesses and contains. -/
import Derived.Test.YtdbgnniedcibeaaPe5
import Derived.Deep.DrawnRows
namespace Go.Proofs.Ytdbgnniedcibeaa
open Go.RowKit Go.Maps Go.Proofs.YtdbgnniedcibeaaW.PrintWords Go.Proofs.Ytdbgnniedcibeaa.Pusable
set_option linter.unusedVariables false

abbrev KU : Kd Int := Kd.int .u16
theorem at_u16 {w : World} {A : Option Addr} {n : Nat} {xs : List Int} (h : KU.C w A n xs) (k : Nat) (hk : k < n) : ∃ ad, A = some ad ∧ w.cell? (ad.add k) = some (.int .u16 (xs.getD k 0)) := by
  obtain ⟨ad, e, hc⟩ := Kd.at_int h (k : Int) (by omega) (by omega)
  exact ⟨ad, e, by simpa [rd] using hc⟩

set_option maxHeartbeats 2000000 in
theorem accesses_at (A : Option Addr) (c : Nat) (l : List S44) (B : Option Addr) (d : Nat) (ch : List Int) (w : World) (hr : k44.C w A l.length l) (hl : l.length ≤ 12) (hh : ∀ r ∈ l, r.f1 ≤ 3000) (hr2 : KU.C w B ch.length ch) (hl2 : ch.length ≤ 200) (hp : ∀ x ∈ ch, 0 ≤ x ∧ x ≤ 65535) :
    Calls Try.prog 26 #[.slice A l.length c, .slice B ch.length d] w fun e w' => ∃ A' c' R, e = .returned (.slice A' R.length c') ∧ RowB w' w.heap.size (.slice A' R.length c') R ∧ R.length ≤ ch.length ∧ (∀ x ∈ R, accS l x = true) ∧ Ext w w' := by
  obtain ⟨n, hn⟩ : ∃ n, l.length = n := ⟨_, rfl⟩
  obtain ⟨n2, hn2⟩ : ∃ n, ch.length = n := ⟨_, rfl⟩
  rw [hn] at hr hl ⊢
  rw [hn2] at hr2 hl2 ⊢
  have HN := Lib.hid hn
  have HN2 := Lib.hid hn2
  have HH := Lib.hid hh
  have HP := Lib.hid hp
  clear hn hn2 hh hp
  by_cases h0 : n = 0
  · subst h0
    go_enter Try.func26, Try.ntmps26
    go_wp2
    go_ret
    exact ⟨none, 0, [], rfl, RowB.nil _ _, Nat.zero_le _, (fun x h => by cases h), Ext.refl _⟩
  · have hn0 : 0 < n := by omega
    have hnb : (((n : Nat) : Int) == 0) = false := by simp; omega
    go_enter Try.func26, Try.ntmps26
    go_wp2
    go_loopw [5, 16] (fun v i wr => ∃ (j : Nat) (A1 : Option Addr) (c1 k : Nat) (R : List Int), i = .int .i64 j ∧ j ≤ n2 ∧ v = .slice A1 k c1 ∧ (k ≤ j ∧ RowB wr w.heap.size (.slice A1 k c1) R ∧ Ext w wr) ∧ Hid (R.length = k ∧ ∀ x ∈ R, accS l x = true)) (fun _ i _ => n2 - (Go.RowKit.intOf i).toNat)
    case atStart => exact ⟨0, none, 0, 0, [], rfl, Nat.zero_le _, rfl, ⟨Nat.le_refl _, RowB.nil _ _, Ext.refl _⟩, ⟨rfl, fun x h => by cases h⟩⟩
    case round =>
      obtain ⟨j, A1, c1, k, R, rfl, hj, rfl, ⟨hkj, hrow, hext⟩, HR⟩ := hrel
      have hbw := hext.size
      by_cases hlt : j < n2
      · obtain ⟨bd, rfl, hcell⟩ := at_u16 (C_ext hr2 hext) j hlt
        have hxb := HP.out (ch.getD j 0) (by rw [List.getD_eq_getElem?_getD, List.getElem?_eq_getElem (by rw [HN2.out]; exact hlt)]; exact List.getElem_mem _)
        obtain ⟨a, hx⟩ : ∃ x, x = ch.getD j 0 := ⟨_, rfl⟩
        rw [← hx] at hcell hxb
        clear hx
        obtain ⟨b0, b1⟩ := hxb
        have hm1 := Int.emod_nonneg a (show (n : Int) ≠ 0 by omega)
        have hm2 := Int.emod_lt_of_pos a (show (0 : Int) < n by omega)
        obtain ⟨i, hi⟩ : ∃ i : Nat, a % (n : Int) = i := ⟨(a % (n : Int)).toNat, by omega⟩
        rw [hi] at hm1 hm2
        have hin : i < n := by omega
        have hq0 : 0 ≤ a / (n : Int) := Int.ediv_nonneg b0 (by omega)
        have hq1 : a / (n : Int) ≤ 65535 := Int.le_trans (Int.ediv_le_self _ b0) b1
        obtain ⟨ad, rfl, c0, c1'⟩ := at_ref (C_ext hr hext) i hin
        have hxm : l.getD i z44 ∈ l := by
          rw [List.getD_eq_getElem?_getD, List.getElem?_eq_getElem (by rw [HN.out]; exact hin)]
          exact List.getElem_mem _
        have hx1 := HH.out _ hxm
        have HXM := Lib.hid hxm
        clear hxm
        obtain ⟨⟨x0, x1⟩, hx⟩ : ∃ x, x = l.getD i z44 := ⟨_, rfl⟩
        rw [← hx] at c0 c1' hx1 HXM
        dsimp only at c0 c1' hx1
        clear hx
        have hmin : min x1 3000 = x1 := by omega
        obtain ⟨lo, hlo⟩ : ∃ lo, max x0 0 = lo := ⟨_, rfl⟩
        have hlo0 : 0 ≤ lo := by omega
        have hlo1 : x0 ≤ lo := by omega
        go_wp2
        go_region
        obtain ⟨w5, hw5⟩ : ∃ w5, w5 = (wr.alloc (refO x0 x1)).drew := ⟨_, rfl⟩
        have hx5 : Ext wr w5 := by rw [hw5]; exact ((Ext.refl _).alloc _).drew
        rw [← hw5]
        clear hw5
        have row5 := hrow.ext hx5
        have hext5 := hext.trans hx5
        have hbw5 := hext5.size
        by_cases hle : lo ≤ x1
        · have hr1 := Int.emod_nonneg (a / (n : Int)) (show x1 - lo + 1 ≠ 0 by omega)
          have hr2' := Int.emod_lt_of_pos (a / (n : Int)) (show 0 < x1 - lo + 1 by omega)
          obtain ⟨Z, hZ⟩ : ∃ Z, a / (n : Int) % (x1 - lo + 1) = Z := ⟨_, rfl⟩
          have hz1 : 0 ≤ Z := by rw [← hZ]; exact hr1
          have hz2 : Z < x1 - lo + 1 := by rw [← hZ]; exact hr2'
          clear hr1 hr2'
          go_wp2_with (at_builtin; refine wp_append_int rfl _ _ rfl w.heap.size (.slice A1 k c1) R k HR.out.1 w5.heap.size (lo + Z) rfl rfl (Blk.new rfl) (row5.alloc _) (by omega) (by simp; omega) ?_; intro A7 c7 w7 hM7 hf7 _)
          have hx7 : Ext w w7 := (hext5.alloc _).fr hf7 fun q hq => (row5.lt q hq).1
          go_roundw
          case rel =>
            refine ⟨j + 1, A7, c7, k + 1, R ++ [lo + Z], by go_num, by omega, rfl, ⟨by omega, hM7, hx7⟩, ?_, fun x hx => ?_⟩
            · rw [List.length_append, HR.out.1]; rfl
            · rcases List.mem_append.1 hx with hx | hx
              · exact HR.out.2 x hx
              · simp at hx
                subst hx
                unfold accS
                rw [List.any_eq_true]
                refine ⟨_, HXM.out, ?_⟩
                unfold acc1
                dsimp only
                rw [decide_eq_true_eq]
                omega
          case measure => simp [Go.RowKit.intOf]; omega
        · go_wp2
          go_roundw
          case rel => exact ⟨j + 1, A1, c1, k, R, by go_num, by omega, rfl, ⟨by omega, row5, hext5⟩, HR⟩
          case measure => simp [Go.RowKit.intOf]; omega
      · obtain rfl : j = n2 := by omega
        go_wp2
        go_ret
        refine ⟨A1, c1, R, by show Ending.returned (.slice A1 k c1) = _; rw [HR.out.1], by rw [HR.out.1]; exact hrow, by rw [HR.out.1]; exact hkj, HR.out.2, hext⟩

theorem ISet.look {w : World} {b n : Nat} {s : SB} (h : ISet w b n s) {x : Int} (hx : I64 x) :
    (Instr.lookup 60 (.map (some b)) (.int .i64 x) false).run Try.prog w = .ok (.bool (s x)) w := by
  obtain ⟨D, hown, hi⟩ := h
  obtain ⟨v, ps, hrun, hv⟩ := hown.lookup keyedI Try.underlying60 (zeroB w) (plainElem_bool Try.underlying4 false) (keyI hx)
  rw [hrun]
  obtain ⟨c, rfl, hc⟩ := plainElem_bool_inv Try.underlying4 hv
  have hc := congrArg Prod.fst hc
  cases hs : s x with
  | true =>
    rw [hi.at_ x hx hs] at hc
    cases hc
    rfl
  | false =>
    rw [atKey_of_not_has (by rw [hi.has x hx, hs])] at hc
    cases hc
    rfl
end Go.Proofs.Ytdbgnniedcibeaa
