/- The walk of ontimelaw32.PersistMore. -/
import Derived.Test.YtdbgnniedcibeaaParts1
import Derived.Test.YtdbgnniedcibeaaRl1
import Derived.Test.YtdbgnniedcibeaaAcc1
import Derived.BigQuiet
import Derived.Deep.RegionHeld3
import Derived.Deep.DrawnRows
namespace Go.Proofs.Ytdbgnniedcibeaa
open Go.RowKit Go.Maps Go.BigFrame Go.Proofs.YtdbgnniedcibeaaW.PrintWords Go.Proofs.Ytdbgnniedcibeaa.Pusable
set_option linter.unusedVariables false

theorem refs_lit {w : World} {base B : Nat} (hB : B = w.heap.size) (hb : base ≤ w.heap.size) : RefB (w.alloc (.cells #[] 44)) base (.slice (some ⟨B, 0, none⟩) 0 0) [] := by
  subst hB
  refine ⟨fun _ _ => trivial, [], ⟨rfl, .inr ⟨w.heap.size, 0, #[], rfl, hb, heap_alloc_new w _, Nat.le_refl _, Nat.zero_le _, rfl, rfl⟩⟩, rfl, fun j p hj => by simp at hj⟩
theorem wp_append_refs {ops : Array Oper} {rest : List Oper} {o : Oper} {a : Act} {Q : Exit → Act → World → Prop} {w0 W : World} (hgd : o.guard = none) (s x : Operand)
    (ho : o.op = .call { callee := .builtin .append, args := #[s, x], argTypes := #[24, 24] })
    (v : Value) (xs ys zs : List S44) (hz : xs ++ ys = zs) (n : Nat) (hn : zs.length = n) (A : Option Addr) (m c : Nat) (hs : a.eval s = v) (hx : a.eval x = .slice A m c) (HO : RefB W w0.heap.size v xs) (HC : k44.C W A m ys) (HB : Ext w0 W) (hlx : xs.length ≤ 1048576) (hm : m ≤ 1048576)
    (h : ∀ A1 c1 w1, RefB w1 w0.heap.size (.slice A1 n c1) zs → n ≤ c1 → Ext w0 w1 → wpList Try.prog ops Q rest (a.put o.dst (.slice A1 n c1)) w1) : wpList Try.prog ops Q (o :: rest) a W := by
  refine Kd.R_append_rows k44 (Rr := k44.K W) (w0 := w0) (W := W) w0.heap.size hgd s x 24 44 (.agg #[.int .i64 0, .int .i64 0]) 16 ho Try.underlying24 (by kernel_rfl) rfl (by decide) (by decide) v xs ys A m c (fun _ => True) (fun _ => False) hs hx HO HC (fun x cs hp => by obtain rfl := k44_open hp; exact k44_mkM _ _ _ _) (fun k hk => hk.elim) (fun _ _ => trivial) HB HB.size (by omega) ?_
  intro v1 w1 h1 h2 _ _
  rw [hz] at h1
  obtain ⟨A1, c1, rfl, hc1, _⟩ := Kd.R_reads h1
  rw [hn] at h1 hc1 ⊢
  exact h A1 c1 w1 h1 hc1 h2

theorem accS_app (l k : List S44) (x : Int) : accS (l ++ k) x = (accS l x || accS k x) := by simp [accS]
theorem len_sub1 : ∀ {l k : List Int}, l.Nodup → (∀ x ∈ l, x ∈ k) → l.length ≤ k.length
  | [], _, _, _ => Nat.zero_le _
  | a :: t, k, hn, hs => by
    obtain ⟨h1, h2⟩ := List.nodup_cons.1 hn
    have ha := hs a List.mem_cons_self
    have := len_sub1 (l := t) (k := k.erase a) h2 (fun x hx => by
      have hxa : x ≠ a := fun e => h1 (e ▸ hx)
      exact (List.mem_erase_of_ne hxa).2 (hs x (List.mem_cons_of_mem _ hx)))
    rw [List.length_erase_of_mem ha] at this
    have := List.length_pos_of_mem ha
    rw [List.length_cons]
    omega
theorem conf_more {l k : List S44} {L L2 : List Int} (h : IsLines l L) (h2 : IsLines (l ++ k) L2) (m s : Nat) : conf m L s ≤ conf m L2 s := by
  unfold conf
  rw [List.countP_eq_length_filter, List.countP_eq_length_filter]
  refine len_sub1 ((h.1.imp (fun h => by omega)).filter _) (fun x hx => ?_)
  rw [List.mem_filter] at hx ⊢
  refine ⟨(h2.2 x).2 ?_, hx.2⟩
  rw [accS_app, (h.2 x).1 hx.1]
  rfl
theorem pers_more {l k : List S44} {L L2 : List Int} (h : IsLines l L) (h2 : IsLines (l ++ k) L2) (W : Int) (m : Nat) {x : Int} (hx : x ∈ pers W m L2) (ha : accS l x = true) : x ∈ pers W m L := by
  unfold pers at hx ⊢
  rw [List.mem_filter] at hx ⊢
  refine ⟨(h.2 x).2 ha, ?_⟩
  have h3 := hx.2
  unfold perB at h3 ⊢
  have := conf_more h h2 m (x % (m : Int)).toNat
  simp at h3 ⊢
  omega

set_option maxHeartbeats 2000000 in
theorem more_no (S W Ln : Int) (A : Option Addr) (c : Nat) (l : List S44) (A0 : Option Addr) (c0 : Nat) (l0 : List S44) (w : World) (hr : k44.C w A l.length l) (hc : l.length ≤ c) (hr0 : k44.C w A0 l0.length l0) (hc0 : l0.length ≤ c0) (hbd : l.length + l0.length ≤ 1048576) (hno : usB S W Ln (l ++ l0) 0 = false) :
    Calls Try.prog 4 #[.agg #[.int .i64 S, .int .i64 W, .int .i64 Ln], .slice A l.length c, .slice A0 l0.length c0] w fun e w' => e = .returned (.bool true) ∧ Ext w w' := by
  have HNO := Lib.hid hno
  clear hno
  obtain ⟨al, hal⟩ : ∃ al, l ++ l0 = al := ⟨_, rfl⟩
  rw [hal] at HNO
  have HAL := Lib.hid hal
  clear hal
  obtain ⟨nk, hnk⟩ : ∃ nk, al.length = nk := ⟨_, rfl⟩
  have hub := fun A c w h hc => usable_any S W Ln A c al none 0 [] w h hc (Kd.C_nil _ _) (Nat.le_refl _)
  rw [show usB S W Ln al [].length = false from HNO.out, hnk] at hub
  have HNK := Lib.hid hnk
  clear hnk
  go_enter Try.func4, Try.ntmps4
  go_wp2_with (first
    | (go_at_call 22; refine Calls.mono (hub A7 c7 _ h7C hc7) ?_; rintro e w8 ⟨rfl, hb8⟩)
    | (have gq := hb6; clear gq; at_builtin; refine wp_append_refs rfl _ _ rfl (.slice A6 l.length c6) l l0 al HAL.out nk HNK.out A0 l0.length c0 rfl rfl h6 (C_ext hr0 (hx1.trans hb6)) hb6 (by omega) (by omega) ?_; intro A7 c7 w7 h7 hc7 hb7; have h7C := (Kd.R_reads' h7).2.2; rw [HNK.out] at h7C; have hx7 := hx1.trans hb7; have kb7 := kb1.ext hb7; obtain ⟨d0, d1, d2⟩ := kb7.c3)
    | (at_builtin; refine wp_append_refs (w0 := w1) rfl _ _ rfl (.slice (some ⟨w1.heap.size, 0, none⟩) 0 0) [] l l rfl l.length rfl A l.length c rfl rfl (refs_lit (w := w1) (by simp) (Nat.le_refl _)) (C_ext hr (hx1.alloc _)) ((Ext.refl _).alloc _) (Nat.zero_le _) (by omega) ?_; intro A6 c6 w6 h6 hc6 hb6)
    | (go_at_call 11; refine Calls.mono (awake_yes _) ?_; rintro e w1 ⟨rfl, hb1⟩; have kb1 := (Blk.new (w := w) (o := .cells #[.int .i64 S, .int .i64 W, .int .i64 Ln] 23) rfl).ext hb1; obtain ⟨a0, a1, a2⟩ := kb1.c3; have hx1 : Ext w w1 := ((Ext.refl w).alloc _).trans hb1))
  go_ret
  exact ⟨rfl, hx7.trans hb8⟩

set_option maxRecDepth 10000 in
set_option maxHeartbeats 8000000 in
theorem more_walk (S W Ln : Int) (A : Option Addr) (c : Nat) (l : List S44) (A0 : Option Addr) (c0 : Nat) (l0 : List S44) (w : World) (hr : k44.C w A l.length l) (hc : l.length ≤ c) (hr0 : k44.C w A0 l0.length l0) (hc0 : l0.length ≤ c0) (hbd : l.length + l0.length ≤ 1048576) :
    Calls Try.prog 4 #[.agg #[.int .i64 S, .int .i64 W, .int .i64 Ln], .slice A l.length c, .slice A0 l0.length c0] w fun e w' => e = .returned (.bool true) ∧ Ext w w' := by
  cases hus : usB S W Ln (l ++ l0) 0 with
  | false => exact more_no S W Ln A c l A0 c0 l0 w hr hc hr0 hc0 hbd hus
  | true =>
    have us := us_is hus
    have HUS := Lib.hid hus
    clear hus
    have g := us.geo
    have hlen : (l ++ l0).length ≤ 12 := us.len
    have HHA := Lib.hid us.hi
    have HHI : Hid (∀ r ∈ l, r.f1 ≤ 3000) := fun r hr => us.hi r (List.mem_append_left _ hr)
    clear us
    obtain ⟨L, hL⟩ := exists_lines l
    obtain ⟨L2, hL2⟩ := exists_lines (l ++ l0)
    have hs1 := g.s1
    have hs64 := g.s64
    obtain ⟨m, rfl⟩ : ∃ m : Nat, S = m := ⟨S.toNat, by omega⟩
    have HCM := Lib.hid (conf_more hL hL2 m)
    have HPM := Lib.hid (fun x => pers_more hL hL2 W m (x := x))
    have HPL : Hid (∀ x ∈ pers W m L, 0 ≤ x ∧ x ≤ 65535) := fun x hx => hL.lo (List.mem_filter.1 hx).1
    have HPL2 : Hid (∀ x ∈ pers W m L2, 0 ≤ x ∧ x ≤ 65535) := fun x hx => hL2.lo (List.mem_filter.1 hx).1
    have HL := Lib.hid hL
    have HL2 := Lib.hid hL2
    clear hL hL2
    obtain ⟨al, hal⟩ : ∃ al, l ++ l0 = al := ⟨_, rfl⟩
    rw [hal] at HUS hlen HHA HL2
    have HAL := Lib.hid hal
    have hall : al.length = l.length + l0.length := by rw [← hal]; simp
    clear hal
    have husb := fun A c w h hc => usable_any (m : Int) W Ln A c al none 0 [] w h hc (Kd.C_nil _ _) (Nat.le_refl _)
    rw [show usB (m : Int) W Ln al [].length = true from HUS.out] at husb
    have hll : l.length ≤ 12 := by omega
    have hcf := fun w h => conflicts_at g A c l L HL.out w h (by omega) HHI.out
    have hpe := fun w h => persistent_at g A c l L HL.out w h (by omega) HHI.out
    have hcf2 := fun A c w h => conflicts_at g A c al L2 HL2.out w h (by omega) HHA.out
    have hpe2 := fun A c w h => persistent_at g A c al L2 HL2.out w h (by omega) HHA.out
    rw [Int.toNat_natCast] at hcf hpe hcf2 hpe2
    obtain ⟨n, hn⟩ : ∃ n, l.length = n := ⟨_, rfl⟩
    obtain ⟨k, hk⟩ : ∃ k, l0.length = k := ⟨_, rfl⟩
    obtain ⟨nk, hnk⟩ : ∃ nk, al.length = nk := ⟨_, rfl⟩
    have HN := Lib.hid hn
    have HNK := Lib.hid hnk
    rw [hn] at hr hc hall hll hcf hpe hbd ⊢
    rw [hk] at hr0 hc0 hall hbd ⊢
    rw [hnk] at hlen hall husb hcf2 hpe2
    have hn12 : n ≤ 12 := by omega
    clear hn hk hnk hall
    go_enter Try.func4, Try.ntmps4
    go_wp2_with (first
      | (go_at_call 22; refine Calls.mono (husb A7 c7 _ h7C hc7) ?_; rintro e w8 ⟨rfl, hb8⟩)
      | (have gq := hb6; clear gq; at_builtin; refine wp_append_refs rfl _ _ rfl (.slice A6 n c6) l l0 al HAL.out nk HNK.out A0 k c0 rfl rfl h6 (C_ext hr0 (hx1.trans hb6)) hb6 (by rw [HN.out]; omega) (by omega) ?_; intro A7 c7 w7 h7 hc7 hb7; have h7C := (Kd.R_reads' h7).2.2; rw [HNK.out] at h7C; have hx7 := hx1.trans hb7; have kb7 := kb1.ext hb7; obtain ⟨d0, d1, d2⟩ := kb7.c3)
      | (at_builtin; (refine wp_append_refs (w0 := w1) rfl _ _ rfl (.slice (some ⟨w1.heap.size, 0, none⟩) 0 0) [] l l rfl n HN.out A n c rfl rfl (refs_lit (w := w1) (by simp) (Nat.le_refl _)) (C_ext hr (hx1.alloc _)) ((Ext.refl _).alloc _) (Nat.zero_le _) (by omega) ?_; intro A6 c6 w6 h6 hc6 hb6))
      | (go_at_call 11; refine Calls.mono (awake_yes _) ?_; rintro e w1 ⟨rfl, hb1⟩; have kb1 := (Blk.new (w := w) (o := .cells #[.int .i64 (m : Int), .int .i64 W, .int .i64 Ln] 23) rfl).ext hb1; obtain ⟨a0, a1, a2⟩ := kb1.c3; have hx1 : Ext w w1 := ((Ext.refl w).alloc _).trans hb1))
    have kc := kb7.ext hb8
    have hx8 := hx7.trans hb8
    have hr8 := C_ext hr hx8
    have h8C := C_ext h7C hb8
    clear hb1 hb6 hb7 h6 h7 a0 a1 a2 d0 d1 d2 kb1 kb7 hx1 hx7 h7C husb hb8 hr0 hc0 hc6
    obtain ⟨t0, t1, t2⟩ := kc.c3
    have HCL := Lib.hid (confs_len m L)
    have HCL2 := Lib.hid (confs_len m L2)
    go_region_held3 (fun w' => w'.cell? ⟨w.heap.size, 0, none⟩ = some (.int .i64 (m : Int)) ∧ w'.cell? ⟨w.heap.size, 1, none⟩ = some (.int .i64 W) ∧ w'.cell? ⟨w.heap.size, 2, none⟩ = some (.int .i64 Ln)) (go_keep)
      (first
        | (have gq := hE81; clear gq; go_at_call 14; (with_reducible refine Calls.mono (hcf2 _ _ _ (C_ext h8C hE81)) ?_); rintro e w82 ⟨A82, c82, rfl, hmc82, hR82, _, hb82⟩; obtain ⟨A9, c9, e9, _, hC82⟩ := hR82.C; rw [confs_len] at hC82 e9; cases e9; have hE82 : Ext w8 w82 := hE81.trans hb82; obtain ⟨u0, u1, u2⟩ := (kc.ext hE82).c3)
        | (go_at_call 14; (with_reducible refine Calls.mono (hcf _ (C_ext hr8 (Ext.drew (Ext.refl _)))) ?_); rintro e w81 ⟨A81, c81, rfl, hmc81, hR81, hLL, hb81⟩; obtain ⟨A9, c9, e9, _, hC81⟩ := hR81.C; rw [confs_len] at hC81 e9; cases e9; have hE81 : Ext w8 w81 := (Ext.drew (Ext.refl _)).trans hb81; obtain ⟨u0, u1, u2⟩ := (kc.ext hE81).c3))
    all_goals
      have kc2 := kc.ext hE82
      have hx2 := hx8.trans hE82
      have hC81' := C_ext hC81 hb82
      have hr2 := C_ext hr8 hE82
      have h2C := C_ext h8C hE82
      clear hcf hcf2 hE81 hE82 hb81 hb82 hR81 hR82 hC81 hr8 h8C kc hx8 t0 t1 t2
      obtain ⟨t0, t1, t2⟩ := kc2.c3
      have HPB : Hid ((pers W m L).length ≤ 310000) := by show (pers W m L).length ≤ 310000; have := List.length_filter_le (perB W m L) L; unfold pers; omega
      have HPB2 : (pers W m L2).length ≤ 310000 := by have := List.length_filter_le (perB W m L2) L2; unfold pers; omega
      go_wp2
      go_loopw [45] (fun i wr => ∃ j : Nat, i = .int .i64 j ∧ j ≤ m ∧ Ext w82 wr) (fun i _ => m - (Go.RowKit.intOf i).toNat)
      case atStart => exact ⟨0, rfl, Nat.zero_le _, Ext.refl _⟩
      case round =>
        obtain ⟨j, rfl, hj, hext⟩ := hrel
        have yc := kc2.ext hext
        obtain ⟨y0, y1, y2⟩ := yc.c3
        have hxr := hx2.trans hext
        have hC1 := C_ext hC81' hext
        have hC2 := C_ext hC82 hext
        have hrr := C_ext hr2 hext
        have hrA := C_ext h2C hext
        by_cases hlt : j < m
        · obtain ⟨ad, rfl, hcell⟩ := at_num hC1 j hlt
          obtain ⟨ad2, rfl, hcell2⟩ := at_num hC2 j hlt
          have hle := HCM.out j
          rw [confs_get hlt] at hcell hcell2
          obtain ⟨p, hp⟩ : ∃ p : Int, ((conf m L j : Nat) : Int) = p := ⟨_, rfl⟩
          obtain ⟨q, hq⟩ : ∃ q : Int, ((conf m L2 j : Nat) : Int) = q := ⟨_, rfl⟩
          have hpq : p ≤ q := by omega
          rw [hp] at hcell
          rw [hq] at hcell2
          have hq1 : ∀ w', Ext wr w' → w'.cell? (ad.add j) = some (.int .i64 p) := fun w' h => by
            obtain ⟨a8, e8, z⟩ := at_num (C_ext hC1 h) j hlt
            cases e8
            rw [confs_get hlt, hp] at z
            exact z
          have hq2 : ∀ w', Ext wr w' → w'.cell? (ad2.add j) = some (.int .i64 q) := fun w' h => by
            obtain ⟨a8, e8, z⟩ := at_num (C_ext hC2 h) j hlt
            cases e8
            rw [confs_get hlt, hq] at z
            exact z
          clear hp hq hle
          have hD : decide (q < p) = false := by simp; omega
          clear hrr hrA hr2 h2C hC81' hC82
          go_wp2
          refine wp_region_e (by kernel_rfl) ?_
          repeat (
            first
              | go_big_quiet_skip
              | (go_big_quiet_want
                 go_big_quiet_op
                 first
                   | go_big_quiet_on
                   | (apply Exists.intro
                      refine ⟨fun w' hw' => ?_, ?_⟩
                      · (first
                        | (have q1 := hq1 w' hw'; have q2 := hq2 w' hw'; go_simp; rfl))
                      go_big_quiet_on)
                   | (refine wpQuiet_step (fun K hK => ?_)
                      go_simp
                      first
                        | (refine hK _ ?_; clear hK K)
                        | (apply Exists.intro
                           refine ⟨fun w' hw' => ?_, hK _ ?_⟩
                           · (go_simp; rfl)
                           clear hK K))))
          refine wpQuiet_nil ?_
          intro w5 hb5
          go_wp2
          refine ⟨⟨j + 1, by go_num, by omega, hext.trans hb5⟩, ?_⟩
          simp [Go.RowKit.intOf]
          omega
        · obtain rfl : m = j := by omega
          clear hr2 h2C hC81' hC82 hC1 hC2 t0 t1 t2 hx2
          go_wp2_with (first
            | (have gq := hf6; clear gq; go_at_call 15; refine Calls.mono (hpe2 _ _ _ (C_ext hrA (hb5.trans hb6))) ?_; rintro e w7 ⟨A7', c7', rfl, hM7, hb7⟩; obtain ⟨A9, c9, e9, _, hC7⟩ := hM7.C; cases e9)
            | (go_at_call 23; (refine Calls.mono (contains_at A5 c5 (pers W m L).length (pers W m L) _ hC5 HPB.out HPL.out) ?_; rintro e w6 ⟨b3, bm, rfl, hf6, hb6⟩; obtain ⟨z0, z1, z2⟩ := (yc.ext (hb5.trans hb6)).c3))
            | (go_at_call 15; refine Calls.mono (hpe _ hrr) ?_; rintro e w5 ⟨A5, c5, rfl, hM5, hb5⟩; obtain ⟨A9, c9, e9, _, hC5⟩ := hM5.C; cases e9))
          have hx7 := hxr.trans (hb5.trans (hb6.trans hb7))
          have hr7 := C_ext hrr (hb5.trans (hb6.trans hb7))
          have zf := hf6.ext hb7
          obtain ⟨P, hP⟩ : ∃ P, pers W m L = P := ⟨_, rfl⟩
          obtain ⟨P2, hP2⟩ : ∃ P2, pers W m L2 = P2 := ⟨_, rfl⟩
          rw [hP] at zf
          rw [hP] at HPM
          rw [hP2] at HPM HPL2 HPB2 hC7 ⊢
          clear hP hP2 HPL HPB hM7 hM5 hC5 hf6 hb5 hb6 hb7 hrr hrA hpe hpe2 hxr hext yc kc2 y0 y1 y2 z0 z1 z2
          obtain ⟨N, hN⟩ : ∃ N, P2.length = N := ⟨_, rfl⟩
          rw [hN] at hC7 HPB2 ⊢
          have HNN := Lib.hid hN
          clear hN
          go_loopw [66] (fun i wz => ∃ j : Nat, i = .int .i64 j ∧ j ≤ N ∧ Ext w7 wz) (fun i _ => N - (Go.RowKit.intOf i).toNat)
          case atStart => exact ⟨0, rfl, Nat.zero_le _, Ext.refl _⟩
          case round =>
            obtain ⟨j, rfl, hj, hez⟩ := hrel
            by_cases hlt : j < N
            · obtain ⟨ad, rfl, hcell⟩ := at_num (C_ext hC7 hez) j hlt
              have hjl : j < P2.length := by rw [HNN.out]; exact hlt
              have hxm : P2.getD j 0 ∈ P2 := by rw [List.getD_eq_getElem?_getD, List.getElem?_eq_getElem hjl]; exact List.getElem_mem _
              obtain ⟨x, hx⟩ : ∃ x, x = P2.getD j 0 := ⟨_, rfl⟩
              rw [← hx] at hcell hxm
              have hxb := HPL2.out x hxm
              have hin := HPM.out x hxm
              clear hx hjl hxm
              have hrz := C_ext hr7 hez
              have fz := zf.ext hez
              obtain ⟨B, hB⟩ : ∃ B, accS l x = B := ⟨_, rfl⟩
              rw [hB] at hin
              have HB := Lib.hid hB
              clear hB
              cases B with
              | false =>
                go_wp2_with (first
                  | (have gq := hR71; clear gq; go_at_call 24; refine Calls.mono (accR_at A71 c71 n l x _ hR71 hc71 (by omega) false HB.out) ?_; rintro e w72 ⟨rfl, hb72⟩)
                  | (go_at_call 13; refine Calls.mono (plain_at A c n l _ hrz hc (by omega)) ?_; rintro e w71 ⟨A71, c71, rfl, hc71, hP71, hR71, hb71⟩))
                refine ⟨⟨j + 1, by go_num, by omega, hez.trans (hb71.trans hb72)⟩, ?_⟩
                simp [Go.RowKit.intOf]
                omega
              | true =>
                have hmem : decide (x ∈ P) = true := decide_eq_true (hin rfl)
                have hfun := fun w h => fun_at (FunB.ext fz (w' := w) h) x hxb.1 hxb.2 true hmem
                clear hin hmem
                obtain ⟨hx0, hx1⟩ := hxb
                go_wp2_with (first
                  | (have gq := hb72; clear gq; go_at_call 34; refine Calls.mono (hfun _ (hb71.trans hb72)) ?_; rintro e w73 ⟨rfl, hb73⟩)
                  | (have gq := hR71; clear gq; go_at_call 24; refine Calls.mono (accR_at A71 c71 n l x _ hR71 hc71 (by omega) true HB.out) ?_; rintro e w72 ⟨rfl, hb72⟩)
                  | (go_at_call 13; refine Calls.mono (plain_at A c n l _ hrz hc (by omega)) ?_; rintro e w71 ⟨A71, c71, rfl, hc71, hP71, hR71, hb71⟩))
                refine ⟨⟨j + 1, by go_num, by omega, hez.trans (hb71.trans (hb72.trans hb73))⟩, ?_⟩
                simp [Go.RowKit.intOf]
                omega
            · obtain rfl : j = N := by omega
              go_wp2
              go_ret
              exact ⟨rfl, hx7.trans hez⟩
end Go.Proofs.Ytdbgnniedcibeaa
