/- The reference of layer 32 in plain Lean: its printed forms against the lines, the conflicts and the persistent lines; the contract of plain. -/
import Derived.Test.YtdbgnniedcibeaaPe5
import Derived.Test.YtdbgnniedcibeaaPPersistentx1
namespace Go.Proofs.Ytdbgnniedcibeaa
open Go.RowKit Go.Maps Go.Proofs.YtdbgnniedcibeaaW.PrintWords Go.Proofs.Ytdbgnniedcibeaa.Pusable
set_option linter.unusedVariables false

abbrev R56 : Type := PPersistent.S56
abbrev kR : Kd R56 := PPersistent.k56
def toR (r : S44) : R56 := ⟨r.f0, r.f1⟩
theorem C_conv {w : World} {A : Option Addr} {n : Nat} {l : List S44} (h : k56.C w A n (l.map toRef)) : kR.C w A n (l.map toR) := by
  refine ⟨by have := h.1; simpa using this, h.2.1, fun hp => ?_⟩
  obtain ⟨ad, ha, hc⟩ := h.2.2 hp
  refine ⟨ad, ha, fun j p hj => ?_⟩
  rw [List.getElem?_map] at hj
  cases hx : l[j]? with
  | none => rw [hx] at hj; cases hj
  | some x =>
    rw [hx] at hj
    simp only [Option.map_some, Option.some.injEq] at hj
    subst hj
    obtain ⟨cs, h1, h2, h3⟩ := hc j (toRef x) (by rw [List.getElem?_map, hx]; rfl)
    obtain rfl := k56_open h2
    exact ⟨_, rfl, PPersistent.k56_mk _ _, h3⟩
/-- ontimelaw32.plain. -/
theorem plain_at (A : Option Addr) (c n : Nat) (l : List S44) (w : World) (hC : k44.C w A n l) (hc : n ≤ c) (hl : n < 50000) :
    Calls Try.prog 13 #[.slice A n c] w fun e w' => ∃ A' c', e = .returned (.slice A' n c') ∧ n ≤ c' ∧ k56.C w' A' n (l.map toRef) ∧ kR.C w' A' n (l.map toR) ∧ Ext w w' := by
  obtain rfl : l.length = n := hC.1
  refine (ontimelaw32_plain.calls (l.length + 1) A c l _ w hC hc (plain_f l hl _ (Nat.le_refl _))).mono ?_
  rintro e w' ⟨v, rfl, h1, h2⟩
  obtain ⟨A', c', rfl⟩ := Kd.R_slice h1
  have h3 := (Kd.R_reads' h1).2
  rw [List.length_map] at h3 ⊢
  exact ⟨A', c', rfl, h3.1, h3.2, C_conv h3.2, h2⟩

theorem rdR {l : List S44} {a : S44} {r pre : List S44} (h : l = pre ++ a :: r) : PPersistent.rd_T56 (l.map toR) (pre.length : Int) = toR a := by
  subst h
  simp [PPersistent.rd_T56, List.getD]
theorem allows_f (r : S44) (x : Int) : PPersistent.ontimeref32_Allows.f (toR r).f0 (toR r).f1 x = some (acc1 r x) := by
  show PPersistent.ontimeref32_Allows.f r.f0 r.f1 x = _
  unfold PPersistent.ontimeref32_Allows.f acc1
  by_cases h1 : x ≥ 0
  · rw [if_pos h1]
    by_cases h2 : x ≤ 65535
    · rw [if_pos h2]
      by_cases h3 : x ≥ r.f0
      · rw [if_pos h3]
        congr 1
        rw [decide_eq_decide]
        omega
      · rw [if_neg h3]
        congr 1
        symm
        rw [decide_eq_false_iff_not]
        omega
    · rw [if_neg h2]
      congr 1
      symm
      rw [decide_eq_false_iff_not]
      omega
  · rw [if_neg h1]
    congr 1
    symm
    rw [decide_eq_false_iff_not]
    omega
theorem accessed_l0 (l : List S44) (x : Int) (hl : l.length < 100000) : ∀ (r pre : List S44) (k : Nat), l = pre ++ r → r.length + 1 ≤ k → PPersistent.ontimeref32_Accessed.l0 k (l.map toR) x (pre.length : Int) = some (accS r x) := by
  intro r
  induction r with
  | nil =>
    intro pre k h hk
    obtain ⟨k, rfl⟩ : ∃ j, k = j + 1 := ⟨k - 1, by omega⟩
    simp only [List.append_nil] at h
    subst h
    rw [PPersistent.ontimeref32_Accessed.l0, if_neg (by simp)]
    rfl
  | cons a t ih =>
    intro pre k h hk
    simp only [List.length_cons] at hk
    obtain ⟨k, rfl⟩ : ∃ j, k = j + 1 := ⟨k - 1, by omega⟩
    have hlt : (pre.length : Int) < ((l.map toR).length : Int) := by subst h; simp; omega
    have hll : l.length = pre.length + (t.length + 1) := by rw [h]; simp
    have hw : wrap64 ((pre.length : Int) + 1) = ((pre ++ [a]).length : Int) := by
      simp only [List.length_append, List.length_singleton]
      rw [w64] <;> omega
    rw [PPersistent.ontimeref32_Accessed.l0, if_pos hlt, if_pos (by omega), rdR h, allows_f]
    simp only [Option.bind_some]
    by_cases c : acc1 a x = true
    · rw [if_pos c]
      simp [accS, c]
    · rw [if_neg c, hw, ih (pre ++ [a]) k (by simp [h]) (by omega)]
      simp [accS, c]
theorem accessed_f (l : List S44) (x : Int) (hl : l.length < 100000) (k : Nat) (hk : l.length + 1 ≤ k) : PPersistent.ontimeref32_Accessed.f k (l.map toR) x = some (accS l x) := accessed_l0 l x hl l [] k rfl hk

/-- The greatest line worth a look. -/
theorem mostR_l0 (l : List S44) (hl : l.length < 100000) (hh : ∀ r ∈ l, r.f1 ≤ 3000) : ∀ (r pre : List S44) (m : Int) (k : Nat), l = pre ++ r → r.length + 1 ≤ k → -1 ≤ m → m ≤ 3000 → ∃ v, PPersistent.ontimeref32_Most.l0 k (l.map toR) m (pre.length : Int) = some v ∧ m ≤ v ∧ v ≤ 3000 ∧ ∀ x ∈ r, x.f1 ≤ v := by
  intro r
  induction r with
  | nil =>
    intro pre m k h hk h0 h1
    obtain ⟨k, rfl⟩ : ∃ j, k = j + 1 := ⟨k - 1, by omega⟩
    simp only [List.append_nil] at h
    subst h
    rw [PPersistent.ontimeref32_Most.l0, if_neg (by simp), if_neg (by omega)]
    exact ⟨m, rfl, Int.le_refl _, h1, fun x hx => by cases hx⟩
  | cons a t ih =>
    intro pre m k h hk h0 h1
    simp only [List.length_cons] at hk
    obtain ⟨k, rfl⟩ : ∃ j, k = j + 1 := ⟨k - 1, by omega⟩
    have hlt : (pre.length : Int) < ((l.map toR).length : Int) := by subst h; simp; omega
    have hll : l.length = pre.length + (t.length + 1) := by rw [h]; simp
    have hw : wrap64 ((pre.length : Int) + 1) = ((pre ++ [a]).length : Int) := by
      simp only [List.length_append, List.length_singleton]
      rw [w64] <;> omega
    have ha := hh a (by rw [h]; simp)
    have hta : (toR a).f1 = a.f1 := rfl
    rw [PPersistent.ontimeref32_Most.l0, if_pos hlt, if_pos (by omega), rdR h, hw, hta]
    by_cases c : a.f1 > m
    · rw [if_pos c]
      obtain ⟨v, h2, h3, h4, h5⟩ := ih (pre ++ [a]) a.f1 k (by simp [h]) (by omega) (by omega) ha
      refine ⟨v, h2, by omega, h4, fun x hx => ?_⟩
      rcases List.mem_cons.1 hx with rfl | hx
      · exact h3
      · exact h5 x hx
    · rw [if_neg c]
      obtain ⟨v, h2, h3, h4, h5⟩ := ih (pre ++ [a]) m k (by simp [h]) (by omega) h0 h1
      refine ⟨v, h2, h3, h4, fun x hx => ?_⟩
      rcases List.mem_cons.1 hx with rfl | hx
      · omega
      · exact h5 x hx
theorem mostR_f (l : List S44) (hl : l.length < 100000) (hh : ∀ r ∈ l, r.f1 ≤ 3000) : ∃ v : Int, (∀ k, l.length + 1 ≤ k → PPersistent.ontimeref32_Most.f k (l.map toR) = some v) ∧ -1 ≤ v ∧ v ≤ 3000 ∧ ∀ x ∈ l, x.f1 ≤ v := by
  obtain ⟨v, h1, h2, h3, h4⟩ := mostR_l0 l hl hh l [] (-1) (l.length + 1) rfl (Nat.le_refl _) (Int.le_refl _) (by omega)
  refine ⟨v, fun k hk => ?_, h2, h3, h4⟩
  obtain ⟨v', h1', _⟩ := mostR_l0 l hl hh l [] (-1) k rfl hk (Int.le_refl _) (by omega)
  have e : v' = v := by
    have m1 : ∀ d, PPersistent.ontimeref32_Most.f (l.length + 1 + d) (l.map toR) = some v := fun d => by
      induction d with
      | zero => exact h1
      | succ d ih => exact (PPersistent.ontimeref32_Most.mono _ _ _ ih)
    have := m1 (k - (l.length + 1))
    rw [show l.length + 1 + (k - (l.length + 1)) = k by omega] at this
    unfold PPersistent.ontimeref32_Most.f at this
    have h1'' : PPersistent.ontimeref32_Most.l0 k (l.map toR) (-1) 0 = some v' := h1'
    rw [this] at h1''
    exact (Option.some.inj h1'').symm
  subst e
  exact h1'
/-- The lines below t. -/
def LL (l : List S44) (t : Nat) : List Int := ((List.range t).map fun n : Nat => (n : Int)).filter (accS l)
theorem LL_succ (l : List S44) (t : Nat) : LL l (t + 1) = LL l t ++ (if accS l (t : Int) = true then [(t : Int)] else []) := by
  unfold LL
  rw [List.range_succ, List.map_append, List.filter_append]
  congr 1
  by_cases c : accS l (t : Int) = true
  · simp [c]
  · simp [c]
theorem LL_len (l : List S44) (t : Nat) : (LL l t).length ≤ t := by
  unfold LL
  have := List.length_filter_le (accS l) ((List.range t).map fun n : Nat => (n : Int))
  simpa using this
theorem LL_all {l : List S44} {L : List Int} (h : IsLines l L) {t : Nat} (ht : ∀ x ∈ l, x.f1 < (t : Int)) : LL l t = L := by
  refine IsLines.unique (l := l) ⟨?_, fun x => ?_⟩ h
  · unfold LL
    refine List.Pairwise.filter _ ?_
    rw [List.pairwise_map]
    exact List.pairwise_lt_range.imp (fun h => by omega)
  · unfold LL
    rw [List.mem_filter, List.mem_map]
    constructor
    · exact fun h => h.2
    · intro hx
      refine ⟨?_, hx⟩
      unfold accS at hx
      rw [List.any_eq_true] at hx
      obtain ⟨r, hr, hx⟩ := hx
      unfold acc1 at hx
      rw [decide_eq_true_eq] at hx
      have := ht r hr
      exact ⟨x.toNat, List.mem_range.2 (by omega), by omega⟩
theorem conf_le (m : Nat) (L : List Int) (s : Nat) : conf m L s ≤ L.length := List.countP_le_length
theorem conflR_l0 {m : Nat} (hm : 0 < m) (W Ln : Int) (l : List S44) (hl : l.length < 100000) (T : Nat) (hT : T ≤ 3001) : ∀ (d t : Nat) (k : Nat), t + d = T → d + l.length + 2 ≤ k → PPersistent.ontimeref32_Conflicts.l0 k (l.map toR) (confs m (LL l t)) ((T : Int) - 1) (t : Int) (m : Int) W Ln = some (confs m (LL l T)) := by
  intro d
  induction d with
  | zero =>
    intro t k ht hk
    obtain ⟨k, rfl⟩ : ∃ j, k = j + 1 := ⟨k - 1, by omega⟩
    obtain rfl : t = T := by omega
    rw [PPersistent.ontimeref32_Conflicts.l0, if_neg (by omega)]
  | succ d ih =>
    intro t k ht hk
    obtain ⟨k, rfl⟩ : ∃ j, k = j + 1 := ⟨k - 1, by omega⟩
    have hw : wrap64 ((t : Int) + 1) = ((t + 1 : Nat) : Int) := by rw [w64] <;> omega
    have htm : Int.tmod (t : Int) (m : Int) = (t : Int) % (m : Int) := Int.tmod_eq_emod_of_nonneg (by omega)
    have hm1 := Int.emod_nonneg (t : Int) (show (m : Int) ≠ 0 by omega)
    have hm2 := Int.emod_lt_of_pos (t : Int) (show (0 : Int) < m by omega)
    obtain ⟨i, hi⟩ : ∃ i : Nat, (t : Int) % (m : Int) = i := ⟨((t : Int) % (m : Int)).toNat, by omega⟩
    rw [PPersistent.ontimeref32_Conflicts.l0, if_pos (by omega), accessed_f l _ hl k (by omega)]
    simp only [Option.bind_some]
    rw [hw]
    by_cases c : accS l (t : Int) = true
    · have hs : LL l (t + 1) = LL l t ++ [(t : Int)] := by rw [LL_succ, if_pos c]
      have hcl := conf_le m (LL l t) i
      have hll := LL_len l t
      have hrd : rd (confs m (LL l t)) (i : Int) = ((conf m (LL l t) i : Nat) : Int) := by
        show (confs m (LL l t)).getD (i : Int).toNat 0 = _
        rw [Int.toNat_natCast]
        exact confs_get (by omega) _
      have hw2 : wrap64 (((conf m (LL l t) i : Nat) : Int) + 1) = ((conf m (LL l t) i : Nat) : Int) + 1 := w64 (by omega)
      rw [if_pos c, if_neg (by omega), htm, hi, if_pos (by omega), if_pos (by rw [confs_len]; omega), hrd, hw2, Int.toNat_natCast, ← confs_snoc (LL l t) (t : Int) (by omega) hi, ← hs]
      exact ih (t + 1) k (by omega) (by omega)
    · have hs : LL l (t + 1) = LL l t := by rw [LL_succ, if_neg c, List.append_nil]
      rw [if_neg c, ← hs]
      exact ih (t + 1) k (by omega) (by omega)
theorem conflR_f {m : Nat} (hm : 0 < m) (hm64 : m ≤ 64) (W Ln : Int) (l : List S44) (hl : l.length < 100000) (hh : ∀ r ∈ l, r.f1 ≤ 3000) {L : List Int} (hL : IsLines l L) (k : Nat) (hk : l.length + 4000 ≤ k) : PPersistent.ontimeref32_Conflicts.f k (m : Int) W Ln (l.map toR) = some (confs m L) := by
  obtain ⟨v, h1, h2, h3, h4⟩ := mostR_f l hl hh
  unfold PPersistent.ontimeref32_Conflicts.f
  rw [if_pos (by omega), if_pos (by omega), h1 k (by omega)]
  simp only [Option.bind_some]
  have := conflR_l0 hm W Ln l hl (v + 1).toNat (by omega) (v + 1).toNat 0 k (by omega) (by omega)
  rw [show (((v + 1).toNat : Nat) : Int) - 1 = v by omega, LL_all hL (t := (v + 1).toNat) (fun x hx => by have := h4 x hx; omega)] at this
  have e0 : confs m (LL l 0) = List.replicate (m : Int).toNat 0 := by
    rw [show LL l 0 = [] from rfl, confs_nil, Int.toNat_natCast]
  rw [e0] at this
  exact this
end Go.Proofs.Ytdbgnniedcibeaa
