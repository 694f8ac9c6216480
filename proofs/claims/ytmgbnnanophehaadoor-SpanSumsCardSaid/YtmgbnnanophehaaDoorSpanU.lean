/- The text of a number, in plain words: the reference's is the same, and it is parsed to the number. -/
import Derived.Test.YtmgbnnanophehaaDoorSpanR
import Derived.Test.YtmgbnnanophehaaDoorSx51
namespace Go.Proofs.YtmgbnnanophehaaDoor.Span
open Go.Proofs Go.RowKit Go.Proofs.YtmgbnnanophehaaDoorW.PrintWords Go.Proofs.YtmgbnnanophehaaDoorW.PrintLast Go.Proofs.YtmgbnnanophehaaDoor.S
set_option linter.unusedVariables false
theorem dec_small {u : Nat} (h : u < 10) : Lib.decDigits u = [UInt8.ofNat (48 + u)] := by rw [Lib.decDigits, dif_pos h]
theorem dec_big {u : Nat} (h : ¬ u < 10) : Lib.decDigits u = Lib.decDigits (u / 10) ++ [UInt8.ofNat (48 + u % 10)] := by rw [Lib.decDigits, dif_neg h]
theorem dig_of {d : Nat} (h : d < 10) : isDig (UInt8.ofNat (48 + d)) = true ∧ (UInt8.ofNat (48 + d)).toNat = 48 + d := by
  have e : (UInt8.ofNat (48 + d)).toNat = 48 + d := by simp; omega
  refine ⟨?_, e⟩
  unfold isDig
  rw [e]
  simp; omega
theorem dec_pow (k : Nat) : ∀ u : Nat, u < 10 ^ (k + 1) → (Lib.decDigits u).length ≤ k + 1 := by
  induction k with
  | zero => intro u h; rw [dec_small (by omega)]; simp
  | succ k ih =>
    intro u h
    by_cases h1 : u < 10
    · rw [dec_small h1]; simp
    · rw [dec_big h1, List.length_append]
      have := ih (u / 10) (by rw [Nat.pow_succ] at h; omega)
      simp only [List.length_cons, List.length_nil]; omega
theorem dec_all (u : Nat) : ∀ c ∈ Lib.decDigits u, isDig c = true := by
  induction u using Nat.strongRecOn with
  | _ u ih =>
    by_cases h1 : u < 10
    · rw [dec_small h1]; intro c hc; rw [List.mem_singleton.1 hc]; exact (dig_of h1).1
    · rw [dec_big h1]
      intro c hc
      rcases List.mem_append.1 hc with h | h
      · exact ih (u / 10) (by omega) c h
      · rw [List.mem_singleton.1 h]; exact (dig_of (by omega)).1
theorem dec_ne (u : Nat) : Lib.decDigits u ≠ [] := by
  by_cases h1 : u < 10
  · rw [dec_small h1]; simp
  · rw [dec_big h1]; simp
theorem cap_dec (u : Nat) : ∀ r : List UInt8, (u : Int) ≤ M → capL 0 (Lib.decDigits u ++ r) = capL (u : Int) r := by
  induction u using Nat.strongRecOn with
  | _ u ih =>
    intro r hu
    by_cases h1 : u < 10
    · have hd := dig_of h1
      rw [dec_small h1, List.singleton_append]
      simp only [capL]
      rw [if_pos hd.1, hd.2, if_neg (by unfold M; omega)]
      congr 1; omega
    · have hd := dig_of (show u % 10 < 10 by omega)
      rw [dec_big h1, List.append_assoc, ih (u / 10) (by omega) _ (by omega), List.singleton_append]
      simp only [capL]
      rw [if_pos hd.1, hd.2, if_neg (by unfold M at *; omega)]
      congr 1; omega
/-- Nothing, or no digit, ahead. -/
def NoDig (r : List UInt8) : Prop := r = [] ∨ ∃ c t, r = c :: t ∧ isDig c = false
def YesDig (r : List UInt8) : Prop := r = [] ∨ ∃ c t, r = c :: t ∧ isDig c = true
theorem num_dec (u : Nat) (r : List UInt8) (hu : (u : Int) ≤ M) (hr : NoDig r) : numL 0 0 (Lib.decDigits u ++ r) = ((u : Int), r, true) := by
  have hc : capL (u : Int) r = (u : Int) := by
    rcases hr with rfl | ⟨c, t, rfl, h⟩
    · rfl
    · simp only [capL]; rw [if_neg (by simp [h])]
  have ht : r.takeWhile isDig = [] ∧ r.dropWhile isDig = r := by
    rcases hr with rfl | ⟨c, t, rfl, h⟩
    · exact ⟨rfl, rfl⟩
    · exact ⟨List.takeWhile_cons_of_neg (by simp [h]), List.dropWhile_cons_of_neg (by simp [h])⟩
  have hcap := (numL_cap (Lib.decDigits u ++ r) 0 0 (Int.le_refl _)).1
  rw [if_neg (show ¬ (0 : Int) > M + 1 by decide), Nat.zero_add, cap_dec u r hu, hc, List.takeWhile_append_of_pos (dec_all u), ht.1, List.dropWhile_append_of_pos (dec_all u), ht.2] at hcap
  rw [hcap hu, decide_eq_true]
  have := List.length_pos_iff.2 (dec_ne u)
  rw [List.append_nil]; exact this
theorem named_dec (nm rest : List UInt8) (j : Nat) (hj : findU nm units 0 = some j) (hn : ∀ c ∈ nm, nonDig c = true) (hr : YesDig rest) : namedL (nm ++ rest) = ((j : Int), rest) := by
  have ht : rest.takeWhile nonDig = [] ∧ rest.dropWhile nonDig = rest := by
    rcases hr with rfl | ⟨c, t, rfl, h⟩
    · exact ⟨rfl, rfl⟩
    · exact ⟨List.takeWhile_cons_of_neg (by unfold nonDig; simp [h]), List.dropWhile_cons_of_neg (by unfold nonDig; simp [h])⟩
  have h1 : (nm ++ rest).takeWhile nonDig = nm := by rw [List.takeWhile_append_of_pos hn, ht.1, List.append_nil]
  have h2 : (nm ++ rest).dropWhile nonDig = rest := by rw [List.dropWhile_append_of_pos hn, ht.2]
  rw [named_unit (nm ++ rest) j (by rw [h1]; exact hj), h2]
theorem tex_yes (us : List (List UInt8 × Int)) : ∀ y, YesDig (texL us y) := by
  induction us with
  | nil => intro y; exact Or.inl rfl
  | cons u us ih =>
    intro y
    simp only [texL]
    by_cases h : 0 < y / u.2
    · rw [if_pos h]
      right
      obtain ⟨c, t, e⟩ := List.exists_cons_of_ne_nil (dec_ne (y / u.2).toNat)
      refine ⟨c, t ++ u.1 ++ texL us (y % u.2), by rw [e]; simp, dec_all _ c (by rw [e]; simp)⟩
    · rw [if_neg h, List.nil_append]; exact ih _

theorem unit_facts (j : Nat) (hj : j < 7) : ∃ nm L, units[j]? = some (nm, L) ∧ findU nm units 0 = some j ∧ (∀ c ∈ nm, nonDig c = true) ∧ nm ≠ [] ∧ longU (j : Int) = L ∧ 1 ≤ L ∧ (j = 6 → L = 1) ∧ nm.length ≤ 2 := by
  rcases (show j = 0 ∨ j = 1 ∨ j = 2 ∨ j = 3 ∨ j = 4 ∨ j = 5 ∨ j = 6 by omega) with rfl | rfl | rfl | rfl | rfl | rfl | rfl <;> exact ⟨_, _, rfl, by decide, by decide, by decide, rfl, by decide, by decide, by decide⟩
theorem units_drop (j : Nat) (u : List UInt8 × Int) (h : units[j]? = some u) : units.drop j = u :: units.drop (j + 1) := by
  obtain ⟨hl, e⟩ := List.getElem?_eq_some_iff.1 h
  rw [← e]; exact List.drop_eq_getElem_cons hl
theorem par_text (n : Nat) : ∀ (j : Nat) (f : Nat) (sum next y : Int), j + n = 7 → 0 ≤ sum → 0 ≤ y → sum + y ≤ M → 0 ≤ next → next ≤ j → (j = 7 → y = 0) → (texL (units.drop j) y).length < f → parL f sum next (texL (units.drop j) y) = (sum + y, none) := by
  induction n with
  | zero =>
    intro j f sum next y hj h0 h1 h2 h3 h4 h5 hf
    obtain rfl : j = 7 := by omega
    obtain ⟨f, rfl⟩ : ∃ m, f = m + 1 := ⟨f - 1, by omega⟩
    rw [h5 rfl]
    simp [parL, texL, units]
  | succ n ih =>
    intro j f sum next y hj h0 h1 h2 h3 h4 h5 hf
    obtain ⟨nm, L, hu, hfu, hnd, hne, hlo, hL, h6, _⟩ := unit_facts j (by omega)
    have hdr := units_drop j _ hu
    have hst : texL (units.drop j) y = (if 0 < y / L then Lib.decDigits (y / L).toNat ++ nm else []) ++ texL (units.drop (j + 1)) (y % L) := by rw [hdr]; rfl
    have hm0 : 0 ≤ y % L := Int.emod_nonneg _ (by omega)
    have hdm := Int.mul_ediv_add_emod y L
    have hz : j + 1 = 7 → y % L = 0 := fun h => by rw [h6 (by omega), Int.emod_one]
    rw [hst] at hf ⊢
    by_cases hq : 0 < y / L
    · rw [if_pos hq] at hf ⊢
      obtain ⟨f, rfl⟩ : ∃ m, f = m + 1 := ⟨f - 1, by omega⟩
      obtain ⟨q, hqe⟩ : ∃ q : Nat, (q : Int) = y / L := ⟨(y / L).toNat, by omega⟩
      have hqt : (y / L).toNat = q := by omega
      rw [hqt] at hf ⊢
      have hqL : (q : Int) * L = L * (y / L) := by rw [hqe, Int.mul_comm]
      have hqq : (q : Int) ≤ (q : Int) * L := by
        have := Int.mul_le_mul_of_nonneg_left hL (show (0 : Int) ≤ q by omega)
        omega
      have hnum := num_dec q (nm ++ texL (units.drop (j + 1)) (y % L)) (by omega) (by
        obtain ⟨c, t, e⟩ := List.exists_cons_of_ne_nil hne
        refine Or.inr ⟨c, t ++ texL (units.drop (j + 1)) (y % L), by rw [e]; rfl, ?_⟩
        have := hnd c (by rw [e]; simp)
        unfold nonDig at this; simpa using this)
      rw [← List.append_assoc] at hnum
      have hnam := named_dec nm (texL (units.drop (j + 1)) (y % L)) j hfu hnd (tex_yes _ _)
      have hnil : Lib.decDigits q ++ nm ++ texL (units.drop (j + 1)) (y % L) ≠ [] := by
        intro h
        exact dec_ne q (List.append_eq_nil_iff.1 (List.append_eq_nil_iff.1 h).1).1
      have hno : ¬ ((numL 0 0 (Lib.decDigits q ++ nm ++ texL (units.drop (j + 1)) (y % L))).2.2 = false ∨ (namedL (numL 0 0 (Lib.decDigits q ++ nm ++ texL (units.drop (j + 1)) (y % L))).2.1).1 < next ∨ (numL 0 0 (Lib.decDigits q ++ nm ++ texL (units.drop (j + 1)) (y % L))).1 > Int.tdiv (M - sum) (longU (namedL (numL 0 0 (Lib.decDigits q ++ nm ++ texL (units.drop (j + 1)) (y % L))).2.1).1)) := by
        rw [hnum]; simp only
        rw [hnam]; simp only
        rw [hlo, Int.tdiv_eq_ediv_of_nonneg (by omega)]
        rintro (h | h | h)
        · cases h
        · omega
        · have := (Int.ediv_lt_iff_lt_mul (show 0 < L by omega)).1 h
          omega
      rw [parL_go f sum next _ hnil hno, hnum]
      simp only
      rw [hnam]
      simp only
      rw [hlo]
      have := ih (j + 1) f (sum + (q : Int) * L) ((j : Int) + 1) (y % L) (by omega) (by omega) hm0 (by omega) (by omega) (by omega) hz (by
        have := List.length_pos_iff.2 (dec_ne q)
        simp only [List.length_append] at hf; omega)
      rw [this]
      congr 1
      omega
    · rw [if_neg hq, List.nil_append] at hf ⊢
      have hq0 : y / L = 0 := by have := Int.ediv_nonneg h1 (show 0 ≤ L by omega); omega
      rw [hq0, Int.mul_zero, Int.zero_add] at hdm
      rw [hdm] at hf hz ⊢
      exact ih (j + 1) f sum next y (by omega) h0 h1 h2 h3 (by omega) hz hf
theorem tex_len (n : Nat) : ∀ (j : Nat) (y : Int), j + n = 7 → 0 ≤ y → y ≤ M → (texL (units.drop j) y).length ≤ 16 * n := by
  induction n with
  | zero => intro j y hj h0 h1; obtain rfl : j = 7 := by omega
            simp [texL, units]
  | succ n ih =>
    intro j y hj h0 h1
    obtain ⟨nm, L, hu, hfu, hnd, hne, hlo, hL, h6, hnl⟩ := unit_facts j (by omega)
    have hst : texL (units.drop j) y = (if 0 < y / L then Lib.decDigits (y / L).toNat ++ nm else []) ++ texL (units.drop (j + 1)) (y % L) := by rw [units_drop j _ hu]; rfl
    have hm0 : 0 ≤ y % L := Int.emod_nonneg _ (by omega)
    have hdm := Int.mul_ediv_add_emod y L
    have hdn := Int.ediv_nonneg h0 (show 0 ≤ L by omega)
    have hle : y / L ≤ y := Int.ediv_le_self _ h0
    have hml : y % L ≤ y := by have := Int.mul_nonneg (show 0 ≤ L by omega) hdn; omega
    have h2 := ih (j + 1) (y % L) (by omega) hm0 (by omega)
    have h3 := dec_pow 13 (y / L).toNat (by unfold M at h1; omega)
    rw [hst, List.length_append]
    split
    · rw [List.length_append]; omega
    · simp only [List.length_nil]; omega
theorem parse_text (v : Int) (h0 : 0 ≤ v) (h1 : v ≤ M) : (textL v).2 = none ∧ parseL (textL v).1 = (v, none) := by
  unfold textL
  rw [if_neg (by omega)]
  by_cases hv : v = 0
  · rw [if_pos hv, hv]; exact ⟨rfl, by decide +kernel⟩
  · rw [if_neg hv]
    refine ⟨rfl, ?_⟩
    simp only
    have hp := par_text 7 0 ((texL units v).length + 1) 0 0 v (by omega) (by omega) h0 (by omega) (by omega) (by omega) (by omega) (Nat.lt_succ_self _)
    have hl := tex_len 7 0 v (by omega) h0 h1
    simp only [List.drop_zero, Int.zero_add] at hp hl
    have hne : (texL units v).length ≠ 0 := by
      intro h
      have e := List.length_eq_zero_iff.1 h
      rw [e] at hp
      simp [parL] at hp
      omega
    unfold parseL
    rw [if_neg (by omega)]
    exact hp
end Go.Proofs.YtmgbnnanophehaaDoor.Span
