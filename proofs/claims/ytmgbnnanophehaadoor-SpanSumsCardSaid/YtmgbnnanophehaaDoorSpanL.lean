/- span.Parse's number and unit, as the reference cuts a text: lists alone. -/
import Derived.Test.YtmgbnnanophehaaDoorSpanP
namespace Go.Proofs.YtmgbnnanophehaaDoor.Span
/-- The digits ahead of a text as a number that stops at M + 1. -/
def capL (n : Int) : List UInt8 → Int
  | [] => n
  | c :: r => if isDig c = true then capL (if 10 * n + ((c.toNat : Int) - 48) > M + 1 then M + 1 else 10 * n + ((c.toNat : Int) - 48)) r else n
theorem dig_rng {c : UInt8} (h : isDig c = true) : 48 ≤ c.toNat ∧ c.toNat ≤ 57 := by unfold isDig at h; simp at h; omega
theorem capL_top (l : List UInt8) : capL (M + 1) l = M + 1 := by
  induction l with
  | nil => rfl
  | cons c r ih =>
    simp only [capL]
    by_cases h : isDig c = true
    · have := dig_rng h
      rw [if_pos h, if_pos (by unfold M; omega), ih]
    · rw [if_neg h]
theorem capL_ge (l : List UInt8) : ∀ n : Int, 0 ≤ n → n ≤ M + 1 → 0 ≤ capL n l ∧ capL n l ≤ M + 1 := by
  induction l with
  | nil => intro n h0 h1; exact ⟨h0, h1⟩
  | cons c r ih =>
    intro n h0 h1
    simp only [capL]
    by_cases h : isDig c = true
    · have := dig_rng h
      rw [if_pos h]
      split
      · exact ih _ (by decide) (Int.le_refl _)
      · exact ih _ (by omega) (by omega)
    · rw [if_neg h]; exact ⟨h0, h1⟩
theorem numL_cap (l : List UInt8) : ∀ (n : Int) (k : Nat), 0 ≤ n →
    (capL (if n > M + 1 then M + 1 else n) l ≤ M → numL n k l = (capL (if n > M + 1 then M + 1 else n) l, l.dropWhile isDig, decide (0 < k + (l.takeWhile isDig).length))) ∧
    (M < capL (if n > M + 1 then M + 1 else n) l → (numL n k l).2.2 = false) := by
  induction l with
  | nil =>
    intro n k h0
    simp only [capL, numL, List.takeWhile_nil, List.dropWhile_nil, List.length_nil, Nat.add_zero]
    constructor
    · intro h
      split at h
      · unfold M at *; omega
      · rename_i h2
        rw [if_neg h2, decide_eq_true h, Bool.and_true]
        rfl
    · intro h
      have : ¬ n ≤ M := by split at h <;> omega
      rw [decide_eq_false this, Bool.and_false]
  | cons c r ih =>
    intro n k h0
    by_cases hd : isDig c = true
    · have hr := dig_rng hd
      simp only [capL, numL]
      rw [if_pos hd, if_pos hd]
      by_cases hn : n > M
      · rw [if_pos hn]
        have e1 : (if n > M + 1 then M + 1 else n) = M + 1 := by split <;> omega
        rw [e1, if_pos (by unfold M; omega), capL_top]
        exact ⟨fun h => absurd h (by omega), fun _ => rfl⟩
      · rw [if_neg hn]
        have e1 : (if n > M + 1 then M + 1 else n) = n := by rw [if_neg (by omega)]
        rw [e1]
        have := ih (10 * n + ((c.toNat : Int) - 48)) (k + 1) (by omega)
        rw [List.takeWhile_cons_of_pos hd, List.dropWhile_cons_of_pos hd, List.length_cons, show k + ((r.takeWhile isDig).length + 1) = k + 1 + (r.takeWhile isDig).length by omega]
        exact this
    · simp only [capL, numL]
      rw [if_neg hd, if_neg hd, List.takeWhile_cons_of_neg hd, List.dropWhile_cons_of_neg hd]
      simp only [List.length_nil, Nat.add_zero]
      constructor
      · intro h
        split at h
        · unfold M at *; omega
        · rename_i h2
          rw [if_neg h2, decide_eq_true h, Bool.and_true]
      · intro h
        have : ¬ n ≤ M := by split at h <;> omega
        rw [decide_eq_false this, Bool.and_false]
def nonDig (c : UInt8) : Bool := !isDig c
theorem cuts_non {c : UInt8} (h : cuts.contains c = true) : isDig c = false := by
  simp only [cuts, List.contains_eq_mem, List.mem_cons, List.mem_nil_iff, or_false, decide_eq_true_eq] at h
  rcases h with rfl | rfl | rfl | rfl | rfl | rfl <;> decide
theorem units_cuts : ∀ u ∈ units, u.1.all (cuts.contains ·) = true := by decide
theorem findU_mem (nm : List UInt8) (us : List (List UInt8 × Int)) : ∀ k j, findU nm us k = some j → ∃ u ∈ us, u.1 = nm := by
  induction us with
  | nil => intro k j h; cases h
  | cons u r ih =>
    intro k j h
    simp only [findU] at h
    by_cases h1 : u.1 = nm
    · exact ⟨u, List.mem_cons_self, h1⟩
    · rw [if_neg h1] at h
      obtain ⟨v, hv, e⟩ := ih _ _ h
      exact ⟨v, List.mem_cons_of_mem _ hv, e⟩
theorem tw_nil {p : UInt8 → Bool} (r : List UInt8) : (r.dropWhile p) = [] ∨ ∃ c t, r.dropWhile p = c :: t ∧ p c = false := by
  induction r with
  | nil => exact Or.inl rfl
  | cons c t ih =>
    by_cases h : p c = true
    · rw [List.dropWhile_cons_of_pos h]; exact ih
    · rw [List.dropWhile_cons_of_neg h]; exact Or.inr ⟨c, t, rfl, by simpa using h⟩
theorem named_unit (r : List UInt8) (k : Nat) (h : findU (r.takeWhile nonDig) units 0 = some k) : namedL r = ((k : Int), r.dropWhile nonDig) := by
  have hall : ∀ c ∈ r.takeWhile nonDig, cuts.contains c = true := by
    obtain ⟨u, hu, e⟩ := findU_mem _ _ _ _ h
    have := units_cuts u hu
    rw [e] at this
    exact List.all_eq_true.1 this
  have hb : (r.dropWhile nonDig).takeWhile (cuts.contains ·) = [] := by
    rcases tw_nil (p := nonDig) r with e | ⟨c, t, e, hc⟩
    · rw [e]; rfl
    · rw [e]
      refine List.takeWhile_cons_of_neg ?_
      intro h2
      have := cuts_non h2
      unfold nonDig at hc
      rw [this] at hc
      cases hc
  have e1 : r.takeWhile (cuts.contains ·) = r.takeWhile nonDig := by
    have e2 := List.takeWhile_append_dropWhile (p := nonDig) (l := r)
    calc r.takeWhile (cuts.contains ·) = (r.takeWhile nonDig ++ r.dropWhile nonDig).takeWhile (cuts.contains ·) := by rw [e2]
      _ = r.takeWhile nonDig ++ (r.dropWhile nonDig).takeWhile (cuts.contains ·) := List.takeWhile_append_of_pos hall
      _ = r.takeWhile nonDig := by rw [hb, List.append_nil]
  have e3 : r.drop (r.takeWhile nonDig).length = r.dropWhile nonDig := by
    have e2 := List.takeWhile_append_dropWhile (p := nonDig) (l := r)
    calc r.drop (r.takeWhile nonDig).length = (r.takeWhile nonDig ++ r.dropWhile nonDig).drop (r.takeWhile nonDig).length := by rw [e2]
      _ = r.dropWhile nonDig := List.drop_left
  unfold namedL
  rw [e1, h, e3]
theorem named_other (r : List UInt8) (h : findU (r.takeWhile nonDig) units 0 = none) : (namedL r).1 = -1 ∨ ∃ c t, (namedL r).2 = c :: t ∧ isDig c = false := by
  unfold namedL
  cases h2 : findU (r.takeWhile (cuts.contains ·)) units 0 with
  | none => exact Or.inl rfl
  | some k =>
    right
    simp only
    have e2 := List.takeWhile_append_dropWhile (p := nonDig) (l := r)
    have hc : r.takeWhile (cuts.contains ·) = ((r.takeWhile nonDig) ++ r.dropWhile nonDig).takeWhile (cuts.contains ·) := by rw [e2]
    rw [List.takeWhile_append] at hc
    split at hc
    · rename_i h3
      exfalso
      have hb : (r.dropWhile nonDig).takeWhile (cuts.contains ·) = [] := by
        rcases tw_nil (p := nonDig) r with e | ⟨c, t, e, hc⟩
        · rw [e]; rfl
        · rw [e]
          refine List.takeWhile_cons_of_neg ?_
          intro h2
          have := cuts_non h2
          unfold nonDig at hc
          rw [this] at hc
          cases hc
      rw [hb, List.append_nil] at hc
      rw [hc, h] at h2
      cases h2
    · rename_i h3
      have e4 := List.takeWhile_append_dropWhile (p := (cuts.contains ·)) (l := r.takeWhile nonDig)
      have h5 : (r.takeWhile nonDig).dropWhile (cuts.contains ·) ≠ [] := by
        intro h6
        rw [h6, List.append_nil] at e4
        exact h3 (by rw [e4])
      obtain ⟨c, t, e5⟩ := List.exists_cons_of_ne_nil h5
      have hm : c ∈ r.takeWhile nonDig := by
        rw [← e4, e5]; simp
      have hn : nonDig c = true := (List.all_eq_true.1 (List.all_takeWhile (p := nonDig) (l := r))) c hm
      refine ⟨c, t ++ r.dropWhile nonDig, ?_, by unfold nonDig at hn; simpa using hn⟩
      rw [hc]
      calc r.drop ((r.takeWhile nonDig).takeWhile (cuts.contains ·)).length
          = ((r.takeWhile nonDig).takeWhile (cuts.contains ·) ++ ((r.takeWhile nonDig).dropWhile (cuts.contains ·) ++ r.dropWhile nonDig)).drop ((r.takeWhile nonDig).takeWhile (cuts.contains ·)).length := by rw [← List.append_assoc, e4, e2]
        _ = (r.takeWhile nonDig).dropWhile (cuts.contains ·) ++ r.dropWhile nonDig := List.drop_left
        _ = c :: (t ++ r.dropWhile nonDig) := by rw [e5]; rfl
end Go.Proofs.YtmgbnnanophehaaDoor.Span
