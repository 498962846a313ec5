/- The reference's lists and the program's maps say the same; ontimeref31.Describes in plain Lean. -/
import Derived.Test.YtjckghdgogkeaaaRef0
namespace Go.Proofs.Ytjckghdgogkeaaa
open Go.RowKit Go.Maps Go.Proofs.YtjckghdgogkeaaaW.PrintWords Go.Proofs.Ytjckghdgogkeaaa.PMayDescribes
set_option linter.unusedVariables false

def Srt : List S81 → Prop
  | [] => True
  | a :: t => (∀ b ∈ t, a.f0 < b.f0) ∧ Srt t
/-- The list says what f says, in ascending order. -/
structure Rep (W : Int) (l : List S81) (f : FM) : Prop where
  look : ∀ y, look l y = f y
  srt : Srt l
  fit : FitL W l
theorem mem_done {x v : Int} {b : S81} : ∀ {l : List S81}, b ∈ putG x v true l → b ∈ l ∧ b.f0 ≠ x
  | [], h => by simp [putG] at h
  | a :: t, h => by
    simp only [putG, Bool.true_eq_false, false_and, if_false] at h
    split at h
    · have := mem_done h
      exact ⟨by simp [this.1], this.2⟩
    · rename_i he
      rcases List.mem_cons.1 h with rfl | h
      · exact ⟨by simp, he⟩
      · have := mem_done h
        exact ⟨by simp [this.1], this.2⟩
theorem mem_put {x v : Int} {b : S81} : ∀ {l : List S81}, b ∈ rPut l x v → b = ⟨x, v⟩ ∨ (b ∈ l ∧ b.f0 ≠ x)
  | [], h => by
    simp [rPut, putG] at h
    exact .inl h
  | a :: t, h => by
    unfold rPut at h
    simp only [putG] at h
    split at h
    · split at h
      · rcases List.mem_cons.1 h with rfl | h
        · exact .inl rfl
        · have := mem_done h
          exact .inr ⟨by simp [this.1], this.2⟩
      · rename_i he
        rcases List.mem_cons.1 h with rfl | h
        · exact .inl rfl
        · rcases List.mem_cons.1 h with rfl | h
          · exact .inr ⟨by simp, he⟩
          · have := mem_done h
            exact .inr ⟨by simp [this.1], this.2⟩
    · split at h
      · rcases mem_put (l := t) h with h | h
        · exact .inl h
        · exact .inr ⟨by simp [h.1], h.2⟩
      · rename_i he
        rcases List.mem_cons.1 h with rfl | h
        · exact .inr ⟨by simp, he⟩
        · rcases mem_put (l := t) h with h | h
          · exact .inl h
          · exact .inr ⟨by simp [h.1], h.2⟩
theorem srt_done {x v : Int} : ∀ {l : List S81}, Srt l → Srt (putG x v true l)
  | [], _ => by simp [putG, Srt]
  | a :: t, h => by
    simp only [putG, Bool.true_eq_false, false_and, if_false]
    split
    · exact srt_done h.2
    · exact ⟨fun b hb => h.1 b (mem_done hb).1, srt_done h.2⟩
theorem srt_put {x v : Int} : ∀ {l : List S81}, Srt l → Srt (rPut l x v)
  | [], _ => by simp [rPut, putG, Srt]
  | a :: t, h => by
    unfold rPut
    simp only [putG]
    split
    · rename_i hge
      have hge := hge.2
      split
      · rename_i he
        exact ⟨fun b hb => by have := h.1 b (mem_done hb).1; show x < b.f0; omega, srt_done h.2⟩
      · rename_i he
        have hd : Srt (putG x v true (a :: t)) := srt_done h
        refine ⟨fun b hb => ?_, ⟨fun b hb => h.1 b (mem_done hb).1, srt_done h.2⟩⟩
        show x < b.f0
        rcases List.mem_cons.1 hb with rfl | hb
        · omega
        · have := h.1 b (mem_done hb).1
          omega
    · rename_i hge
      split
      · exact srt_put h.2
      · refine ⟨fun b hb => ?_, srt_put h.2⟩
        rcases mem_put (l := t) hb with rfl | hb
        · show a.f0 < x
          by_cases c : a.f0 ≥ x
          · exact absurd ⟨trivial, c⟩ hge
          · omega
        · exact h.1 b hb.1
theorem fit_rput {W : Int} {l : List S81} (h : FitL W l) {x : Int} (hx : 0 ≤ x) {v : Int} (h0 : 0 ≤ v) (h1 : v < W) : FitL W (rPut l x v) := fun b hb => by
  rcases mem_put hb with rfl | hb
  · exact ⟨hx, h0, h1⟩
  · exact h b hb.1
theorem Rep.put {W : Int} {l : List S81} {f : FM} (h : Rep W l f) {x : Int} (hx : 0 ≤ x) {v : Int} (h0 : 0 ≤ v) (h1 : v < W) : Rep W (rPut l x v) (put f x v) :=
  ⟨fun y => by rw [look_put]; unfold Ytjckghdgogkeaaa.put; rw [h.look], srt_put h.srt, fit_rput h.fit hx h0 h1⟩
theorem Rep.nil (W : Int) : Rep W [] noF := ⟨fun _ => rfl, trivial, fun _ h => by cases h⟩

theorem look_none {l : List S81} {x : Int} (h : ∀ b ∈ l, b.f0 ≠ x) : look l x = none := by
  induction l with
  | nil => rfl
  | cons a t ih =>
    simp only [look]
    rw [if_neg (h a (by simp))]
    exact ih fun b hb => h b (by simp [hb])
theorem mem_aged {S W h x : Int} {b : S81} : ∀ {l : List S81}, b ∈ agedR S W h x l → ∃ a ∈ l, a.f0 = b.f0 ∧ (b.f1 = a.f1 ∨ b.f1 = a.f1 + 1) ∧ b.f1 < W
  | [], hb => by simp [agedR] at hb
  | a :: t, hb => by
    simp only [agedR] at hb
    have rest : b ∈ agedR S W h x t → ∃ a' ∈ a :: t, a'.f0 = b.f0 ∧ (b.f1 = a'.f1 ∨ b.f1 = a'.f1 + 1) ∧ b.f1 < W := fun hb => by
      obtain ⟨c, hc, he⟩ := mem_aged (l := t) hb
      exact ⟨c, by simp [hc], he⟩
    split at hb
    · split at hb
      · rename_i hlt
        rcases List.mem_cons.1 hb with rfl | hb
        · exact ⟨a, by simp, rfl, .inr rfl, hlt⟩
        · exact rest hb
      · exact rest hb
    · split at hb
      · rename_i hlt
        rcases List.mem_cons.1 hb with rfl | hb
        · exact ⟨b, by simp, rfl, .inl rfl, hlt⟩
        · exact rest hb
      · exact rest hb
theorem srt_aged {S W h x : Int} : ∀ {l : List S81}, Srt l → Srt (agedR S W h x l)
  | [], _ => by simp [agedR, Srt]
  | a :: t, hs => by
    have hm : ∀ b ∈ agedR S W h x t, a.f0 < b.f0 := fun b hb => by
      obtain ⟨c, hc, he, _⟩ := mem_aged hb
      have := hs.1 c hc
      omega
    simp only [agedR]
    split
    · split
      · exact ⟨hm, srt_aged hs.2⟩
      · exact srt_aged hs.2
    · split
      · exact ⟨hm, srt_aged hs.2⟩
      · exact srt_aged hs.2
theorem fit_agedR {S W h x : Int} {l : List S81} (hf : FitL W l) : FitL W (agedR S W h x l) := fun b hb => by
  obtain ⟨a, ha, he, h1, h2⟩ := mem_aged hb
  obtain ⟨p, q, r⟩ := hf a ha
  omega
theorem look_aged {S W h x : Int} (hx : 0 ≤ x) (hS : 0 < S) : ∀ {l : List S81}, Srt l → FitL W l → ∀ y, look (agedR S W h x l) y = aged S W h x (look l) y
  | [], _, _, y => by simp [agedR, look, aged]
  | a :: t, hs, hf, y => by
    have ih := look_aged (h := h) hx hS hs.2 (fun b hb => hf b (by simp [hb])) y
    obtain ⟨g0, g1, g2⟩ := hf a (by simp)
    have e1 : Int.tmod a.f0 S = a.f0 % S := Int.tmod_eq_emod_of_nonneg g0
    have e2 : Int.tmod x S = x % S := Int.tmod_eq_emod_of_nonneg hx
    simp only [agedR, e1, e2]
    by_cases hy : a.f0 = y
    · have hn : look (agedR S W h x t) y = none := look_none fun b hb => by
        obtain ⟨c, hc, he, _⟩ := mem_aged hb
        have := hs.1 c hc
        omega
      subst hy
      have hlk : look (a :: t) a.f0 = some a.f1 := by simp [look]
      by_cases hc : a.f0 ≠ x ∧ a.f0 % S = x % S ∧ a.f1 ≤ h
      · by_cases hl : a.f1 + 1 < W
        · rw [aged_up hlk hc.1 hc.2.1 hc.2.2 hl, if_pos hc, if_pos hl]
          simp [look]
        · rw [aged_out hlk hc.1 hc.2.1 hc.2.2 (by omega), if_pos hc, if_neg hl]
          exact hn
      · rw [aged_keep hlk (by by_cases k1 : a.f0 = x <;> by_cases k2 : a.f0 % S = x % S <;> simp_all), if_neg hc, if_pos g2]
        simp [look]
    · have e3 : aged S W h x (look (a :: t)) y = aged S W h x (look t) y := by
        unfold aged
        simp only [look, if_neg hy]
      rw [e3, ← ih]
      split <;> (try split) <;> simp [look, hy]
theorem Rep.acc {S W : Int} {l : List S81} {f : FM} (h : Rep W l f) (hS : 0 < S) (hW : 1 ≤ W) {x : Int} (hx : 0 ≤ x) : Rep W (rPut (agedR S W ((Ytjckghdgogkeaaa.look l x).getD W) x l) x 0) (mayAcc S W f x) := by
  have hl : Ytjckghdgogkeaaa.look l = f := funext h.look
  have h1 : Rep W (agedR S W ((Ytjckghdgogkeaaa.look l x).getD W) x l) (aged S W ((f x).getD W) x f) := ⟨fun y => by rw [look_aged hx hS h.srt h.fit, hl], srt_aged h.srt, fit_agedR h.fit⟩
  exact h1.put hx (by omega) (by omega)
theorem Rep.puts {W : Int} (hW : 1 ≤ W) : ∀ (n : Nat) {l : List S81} {f : FM} (x : Int), Rep W l f → 0 ≤ x → Rep W (rPuts n l x) (puts f x (x + n - 1))
  | 0, l, f, x, h, hx => by
    have e : x + ((0 : Nat) : Int) - 1 = x - 1 := by omega
    rw [e, puts_nil]
    exact h
  | n + 1, l, f, x, h, hx => by
    have ih := Rep.puts hW n (x + 1) (h.put hx (v := 0) (by omega) (by omega)) (by omega)
    have e : Ytjckghdgogkeaaa.puts f x (x + ((n + 1 : Nat) : Int) - 1) = Ytjckghdgogkeaaa.puts (Ytjckghdgogkeaaa.put f x 0) (x + 1) (x + 1 + (n : Int) - 1) := by
      funext y
      unfold Ytjckghdgogkeaaa.puts Ytjckghdgogkeaaa.put
      by_cases c : y = x
      · subst c
        rw [if_pos (by omega), if_neg (by omega), if_pos rfl]
      · by_cases k : x ≤ y ∧ y ≤ x + ((n + 1 : Nat) : Int) - 1
        · rw [if_pos k, if_pos (by omega)]
        · rw [if_neg k, if_neg (by omega), if_neg c]
    rw [e]
    exact ih

/-- The reference's state says what st says. -/
def Rel (W : Int) (st : St) (s : RS) : Prop := (st = none ∧ s = (true, [])) ∨ ∃ f, st = some f ∧ s.1 = false ∧ Rep W s.2 f
theorem Rel.start (W : Int) : Rel W (some noF) (false, []) := .inr ⟨noF, rfl, rfl, Rep.nil W⟩
theorem Rel.fit {W : Int} {st : St} {s : RS} (h : Rel W st s) : FitL W s.2 := by
  rcases h with ⟨_, rfl⟩ | ⟨f, _, _, h⟩
  · intro _ h; cases h
  · exact h.fit
theorem Rel.acc {S W : Int} {st : St} {s : RS} (h : Rel W st s) (hS : 0 < S) (hW : 1 ≤ W) (x : Int) : Rel W (sAcc S W st x) (rAcc S W s x) := by
  rcases h with ⟨rfl, rfl⟩ | ⟨f, rfl, hu, h⟩
  · exact .inl ⟨rfl, rfl⟩
  · unfold rAcc sAcc
    rw [hu]
    simp only [Bool.false_eq_true, if_false]
    by_cases hx : x < 0
    · rw [if_pos hx, if_pos hx]
      exact .inr ⟨f, rfl, hu, h⟩
    · rw [if_neg hx, if_neg hx]
      exact .inr ⟨_, rfl, rfl, h.acc hS hW (by omega)⟩
theorem Rel.range {S W : Int} {st : St} {s : RS} (h : Rel W st s) (hS : 0 < S) (hW : 1 ≤ W) (lo hi : Int) : Rel W (sRange S W st lo hi) (rRange S W s lo hi) := by
  rcases h with ⟨rfl, rfl⟩ | ⟨f, rfl, hu, h⟩
  · exact .inl ⟨rfl, rfl⟩
  · unfold rRange sRange
    rw [hu]
    simp only [Bool.false_eq_true, if_false]
    by_cases h1 : hi < max lo 0
    · rw [if_pos h1, if_pos h1]
      exact .inr ⟨f, rfl, hu, h⟩
    · rw [if_neg h1, if_neg h1]
      by_cases h2 : max lo 0 = hi
      · rw [if_pos h2, if_pos h2]
        have := Rel.acc (S := S) (.inr ⟨f, rfl, hu, h⟩) hS hW (max lo 0)
        unfold sAcc at this
        rw [h2] at this ⊢
        simp only at this
        rwa [if_neg (by omega)] at this
      · rw [if_neg h2, if_neg h2]
        by_cases h3 : 64 ≤ hi - max lo 0
        · rw [if_pos h3, if_pos h3]
          exact .inl ⟨rfl, rfl⟩
        · rw [if_neg h3, if_neg h3]
          refine .inr ⟨_, rfl, rfl, ?_⟩
          have := Rep.puts hW (hi - max lo 0 + 1).toNat (max lo 0) h (by omega)
          have e : max lo 0 + ((hi - max lo 0 + 1).toNat : Int) - 1 = hi := by omega
          rwa [e] at this
def rStep (S W : Int) (s : RS) (lo hi : Int) : RS := if lo = hi then rAcc S W s lo else rRange S W s lo hi
theorem Rel.step {S W : Int} {st : St} {s : RS} (h : Rel W st s) (hS : 0 < S) (hW : 1 ≤ W) (lo hi : Int) : Rel W (sStep S W st lo hi) (rStep S W s lo hi) := by
  unfold sStep rStep
  split
  · exact h.acc hS hW lo
  · exact h.range hS hW lo hi
theorem rAcc_len (S W : Int) (s : RS) (x : Int) : (rAcc S W s x).2.length ≤ s.2.length + 64 := by
  unfold rAcc
  split
  · omega
  · split
    · omega
    · have h1 := rPut_len (agedR S W ((look s.2 x).getD W) x s.2) x 0
      have h2 := agedR_len S W ((look s.2 x).getD W) x s.2
      simp only
      omega
theorem rRange_len (S W : Int) (s : RS) (lo hi : Int) : (rRange S W s lo hi).2.length ≤ s.2.length + 64 := by
  unfold rRange
  split
  · omega
  · split
    · omega
    · split
      · exact rAcc_len S W s _
      · split
        · simp
        · have := rPuts_len (hi - max lo 0 + 1).toNat s.2 (max lo 0)
          simp only
          omega
theorem rStep_len (S W : Int) (s : RS) (lo hi : Int) : (rStep S W s lo hi).2.length ≤ s.2.length + 64 := by
  unfold rStep
  split
  · exact rAcc_len S W s lo
  · exact rRange_len S W s lo hi

/-! ### Describes -/
def okFrom (l : List S81) : List Int → Int → Bool
  | [], _ => true
  | x :: t, j => if (look l x).getD (-1) < 0 then false else if (look l x).getD (-1) > j then false else okFrom l t (j + 1)
def rowsOk (s : RS) : List (List Int) → Bool
  | [] => true
  | r :: t => if s.1 = true then rowsOk s t else if okFrom s.2 r 0 = true then rowsOk s t else false
/-- The fuel that the rows want. -/
def fuelOf : List (List Int) → Nat
  | [] => 1
  | r :: t => r.length + 3 + fuelOf t
theorem rowAt {α : Type} {ls pre : List α} {r : α} {t : List α} (h : ls = pre ++ r :: t) (z : α) : ls.getD (pre.length : Int).toNat z = r := by
  subst h
  simp [List.getD_eq_getElem?_getD]
theorem descr_l1 (S W L : Int) (s : RS) (hl : s.2.length < 100000) (ls : List (List Int)) (hls : ls.length < 100000) (pre t : List (List Int)) (row : List Int) (hrow : row.length < 100000) (hh : ls = pre ++ row :: t) (N : Nat) (hN : s.2.length + 1 ≤ N)
    (next : ∀ k, N + fuelOf t ≤ k → ontimeref31_Describes.l0 k ls ((pre ++ [row]).length : Int) S W L s.1 s.2 = some (rowsOk s t)) :
    ∀ (r p : List Int) (k : Nat), row = p ++ r → N + fuelOf t + r.length + 1 ≤ k → ontimeref31_Describes.l1 k ls (pre.length : Int) (p.length : Int) S W L s.1 s.2 = some (if s.1 = true then rowsOk s t else if okFrom s.2 r (p.length : Int) = true then rowsOk s t else false) := by
  intro r
  have hw0 : wrap64 ((pre.length : Int) + 1) = ((pre ++ [row]).length : Int) := by
    have : pre.length < ls.length := by subst hh; simp
    simp only [List.length_append, List.length_singleton]
    rw [w64] <;> omega
  have hlt : (pre.length : Int) < (ls.length : Int) := by subst hh; simp; omega
  have hr : rd_L4 ls (pre.length : Int) = row := rowAt hh _
  induction r with
  | nil =>
    intro p k hp hk
    obtain ⟨k, rfl⟩ : ∃ j, k = j + 1 := ⟨k - 1, by omega⟩
    rw [ontimeref31_Describes.l1, if_pos (by omega), if_pos hlt, hr]
    simp only [List.append_nil] at hp
    subst hp
    rw [if_neg (by omega), hw0, next k (by simp at hk; omega)]
    simp [okFrom]
  | cons x r ih =>
    intro p k hp hk
    obtain ⟨k, rfl⟩ : ∃ j, k = j + 1 := ⟨k - 1, by omega⟩
    simp only [List.length_cons] at hk
    have hplt : (p.length : Int) < (row.length : Int) := by subst hp; simp; omega
    have hx : rd row (p.length : Int) = x := rowAt hp _
    have hw : wrap64 ((p.length : Int) + 1) = ((p ++ [x]).length : Int) := by
      simp only [List.length_append, List.length_singleton]
      rw [w64] <;> omega
    have ih := ih (p ++ [x]) k (by simp [hp]) (by omega)
    have hpl : ((p ++ [x]).length : Int) = (p.length : Int) + 1 := by simp
    rw [ontimeref31_Describes.l1, if_pos (by omega), if_pos hlt, hr, if_pos hplt, if_pos (by omega), hx, age_f _ _ _ _ _ _ (by omega) _ (by omega)]
    rw [hpl] at hw ih
    simp only [Option.bind_some]
    rw [hw]
    by_cases hu : s.1 = true
    · rw [if_pos hu, if_pos hu, ih, if_pos hu]
    · rw [if_neg hu, if_neg hu]
      rw [if_neg hu] at ih
      by_cases c1 : (look s.2 x).getD (-1) < 0
      · have e : okFrom s.2 (x :: r) (p.length : Int) = false := by
          simp only [okFrom]
          rw [if_pos c1]
        rw [if_pos c1, e]
        rfl
      · by_cases c2 : (look s.2 x).getD (-1) > (p.length : Int)
        · have e : okFrom s.2 (x :: r) (p.length : Int) = false := by
            simp only [okFrom]
            rw [if_neg c1, if_pos c2]
          rw [if_neg c1, if_pos c2, e]
          rfl
        · have e : okFrom s.2 (x :: r) (p.length : Int) = okFrom s.2 r ((p.length : Int) + 1) := by
            simp only [okFrom]
            rw [if_neg c1, if_neg c2]
          rw [if_neg c1, if_neg c2, e, ih]
theorem descr_l0 (S W L : Int) (s : RS) (hl : s.2.length < 100000) (ls : List (List Int)) (hls : ls.length < 100000) (hrows : ∀ r ∈ ls, r.length < 100000) (N : Nat) (hN : s.2.length + 1 ≤ N) :
    ∀ (t pre : List (List Int)) (k : Nat), ls = pre ++ t → N + fuelOf t ≤ k → ontimeref31_Describes.l0 k ls (pre.length : Int) S W L s.1 s.2 = some (rowsOk s t) := by
  intro t
  induction t with
  | nil =>
    intro pre k hh hk
    obtain ⟨k, rfl⟩ : ∃ j, k = j + 1 := ⟨k - 1, by simp [fuelOf] at hk; omega⟩
    rw [ontimeref31_Describes.l0]
    simp only [List.append_nil] at hh
    subst hh
    rw [if_neg (by omega)]
    rfl
  | cons row t ih =>
    intro pre k hh hk
    simp only [fuelOf] at hk
    obtain ⟨k, rfl⟩ : ∃ j, k = j + 1 := ⟨k - 1, by omega⟩
    have hlt : (pre.length : Int) < (ls.length : Int) := by subst hh; simp; omega
    rw [ontimeref31_Describes.l0, if_pos hlt]
    exact descr_l1 S W L s hl ls hls pre t row (hrows row (by subst hh; simp)) hh N hN (fun k hk => ih (pre ++ [row]) k (by simp [hh]) hk) row [] k rfl (by omega)
theorem descr_f (S W L : Int) (s : RS) (hl : s.2.length < 100000) (ls : List (List Int)) (hls : ls.length < 100000) (hrows : ∀ r ∈ ls, r.length < 100000) :
    ∃ k, ontimeref31_Describes.f k S W L s.1 s.2 ls = some (decide ((ls.length : Int) = S) && rowsOk s ls) := by
  refine ⟨s.2.length + 1 + fuelOf ls, ?_⟩
  unfold ontimeref31_Describes.f
  by_cases h : (ls.length : Int) = S
  · rw [if_pos h]
    have := descr_l0 S W L s hl ls hls hrows (s.2.length + 1) (Nat.le_refl _) ls [] _ rfl (Nat.le_refl _)
    simp only [List.length_nil] at this
    rw [show ((0 : Nat) : Int) = 0 from rfl] at this
    rw [this]
    simp [h]
  · rw [if_neg h]
    simp [h]
theorem okFrom_iff {W : Int} {l : List S81} {f : FM} (h : Rep W l f) : ∀ (r : List Int) (j : Nat), okFrom l r (j : Int) = true ↔ ∀ i, i < r.length → ∃ b, f (r.getD i 0) = some b ∧ b ≤ ((j + i : Nat) : Int)
  | [], j => by simp [okFrom]
  | x :: t, j => by
    have ih := okFrom_iff h t (j + 1)
    have ej : ((j + 1 : Nat) : Int) = (j : Int) + 1 := by omega
    rw [ej] at ih
    simp only [okFrom, h.look]
    cases hx : f x with
    | none =>
      simp only [Option.getD_none]
      rw [if_pos (by omega)]
      simp only [Bool.false_eq_true, false_iff]
      intro hall
      obtain ⟨b, hb, _⟩ := hall 0 (by simp)
      simp only [List.getD_cons_zero] at hb
      rw [hx] at hb
      cases hb
    | some b =>
      have hb0 := (look_fit h.fit ((h.look x).trans hx)).2.1
      simp only [Option.getD_some]
      rw [if_neg (by omega)]
      by_cases hbj : b > (j : Int)
      · rw [if_pos hbj]
        simp only [Bool.false_eq_true, false_iff]
        intro hall
        obtain ⟨b', hb, hle⟩ := hall 0 (by simp)
        simp only [List.getD_cons_zero] at hb
        rw [hx] at hb
        cases hb
        omega
      · rw [if_neg hbj, ih]
        constructor
        · intro hall i hi
          cases i with
          | zero => exact ⟨b, by simpa using hx, by omega⟩
          | succ i =>
            obtain ⟨b', h1, h2⟩ := hall i (by simp at hi; omega)
            exact ⟨b', by simpa using h1, by omega⟩
        · intro hall i hi
          obtain ⟨b', h1, h2⟩ := hall (i + 1) (by simp; omega)
          exact ⟨b', by simpa using h1, by omega⟩
theorem rowsOk_iff {W : Int} {st : St} {s : RS} (h : Rel W st s) : ∀ (ls : List (List Int)), rowsOk s ls = true ↔ ∀ f, st = some f → ∀ k, k < ls.length → OkRow f (ls.getD k [])
  | [] => by simp [rowsOk]
  | r :: t => by
    have ih := rowsOk_iff h t
    simp only [rowsOk]
    rcases h with ⟨rfl, rfl⟩ | ⟨f, rfl, hu, h⟩
    · simp only [if_true]
      rw [ih]
      simp
    · rw [hu]
      simp only [Bool.false_eq_true, if_false]
      have h0 := okFrom_iff h r 0
      rw [show ((0 : Nat) : Int) = 0 from rfl] at h0
      by_cases hr : okFrom s.2 r 0 = true
      · rw [if_pos hr, ih]
        have hr := h0.1 hr
        constructor
        · intro hall f' e k hk
          cases e
          cases k with
          | zero =>
            intro i hi
            obtain ⟨b, h1, h2⟩ := hr i (by simpa using hi)
            exact ⟨b, by simpa using h1, by omega⟩
          | succ k => simpa using hall f rfl k (by simp at hk; omega)
        · intro hall f' e k hk
          cases e
          simpa using hall f rfl (k + 1) (by simp; omega)
      · rw [if_neg hr]
        simp only [Bool.false_eq_true, false_iff]
        intro hall
        apply hr
        rw [h0]
        intro i hi
        obtain ⟨b, h1, h2⟩ := hall f rfl 0 (by simp) i (by simpa using hi)
        exact ⟨b, by simpa using h1, by omega⟩
theorem descr_iff {W S : Int} {st : St} {s : RS} (h : Rel W st s) (ls : List (List Int)) : (decide ((ls.length : Int) = S) && rowsOk s ls) = true ↔ Descr S st ls := by
  simp only [Bool.and_eq_true, decide_eq_true_eq, rowsOk_iff h ls]
  exact Iff.rfl
end Go.Proofs.Ytjckghdgogkeaaa
