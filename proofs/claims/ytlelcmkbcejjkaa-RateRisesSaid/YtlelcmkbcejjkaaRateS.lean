/- rate.Grow's numbers, plain: what points grew by is no number below 0; seconds lie between powers of two. -/
import Derived.Test.YtlelcmkbcejjkaaFltB
namespace Go.Proofs.Ytlelcmkbcejjkaa.Flt
open Ieee
set_option linter.unusedVariables false
/-- What points grew by, over each fall: the values' words, in order; the sum so far. -/
def gainL : List Nat → Nat → Option Nat
  | a :: b :: r, g => if b < a then (double.add g a).bind (gainL (b :: r)) else gainL (b :: r) g
  | _, g => some g
theorem gain_up (l : List Nat) : ∀ g, g ≤ 9218868437227405312 → (∀ x ∈ l, x < 9218868437227405312) → ∃ r, gainL l g = some r ∧ r ≤ 9218868437227405312 := by
  induction l with
  | nil => intro g hg _; exact ⟨g, rfl, hg⟩
  | cons a r ih =>
    intro g hg hl
    cases r with
    | nil => exact ⟨g, rfl, hg⟩
    | cons b r =>
      simp only [gainL]
      by_cases h : b < a
      · rw [if_pos h]
        obtain ⟨q, hq, hqi, _⟩ := add_nn hg (Nat.le_of_lt (hl a (by simp)))
        rw [hq]
        exact ih q hqi fun x hx => hl x (List.mem_cons_of_mem _ hx)
      · rw [if_neg h]
        exact ih g hg fun x hx => hl x (List.mem_cons_of_mem _ hx)
theorem gain_low (l : List Nat) : ∀ a p, p ≤ a → (∀ x ∈ a :: l, x < 9218868437227405312) →
    (∃ r, gainL (a :: l) (9223372036854775808 + p) = some r ∧ r ≤ 9218868437227405312) ∨ (gainL (a :: l) (9223372036854775808 + p) = some (9223372036854775808 + p) ∧ a ≤ (a :: l).getLast (by simp)) := by
  induction l with
  | nil => intro a p _ _; exact Or.inr ⟨rfl, Nat.le_refl _⟩
  | cons b r ih =>
    intro a p hp hl
    simp only [gainL]
    by_cases h : b < a
    · rw [if_pos h]
      obtain ⟨q, hq, hqi⟩ := add_neg hp (hl a (by simp))
      rw [hq]
      exact Or.inl (gain_up (b :: r) q hqi fun x hx => hl x (List.mem_cons_of_mem _ hx))
    · rw [if_neg h]
      rcases ih b p (by omega) fun x hx => hl x (List.mem_cons_of_mem _ hx) with h1 | ⟨h1, h2⟩
      · exact Or.inl h1
      · refine Or.inr ⟨h1, ?_⟩
        rw [List.getLast_cons (by simp)]
        omega
/-- The growth of points whose values are finite and of at least 0. -/
theorem gain_ok (a : Nat) (l : List Nat) (hl : ∀ x ∈ a :: l, x < 9218868437227405312) : ∃ g0 g, double.sub ((a :: l).getLast (by simp)) a = some g0 ∧ gainL (a :: l) g0 = some g ∧ g ≤ 9218868437227405312 := by
  have hla : (a :: l).getLast (by simp) < 9218868437227405312 := hl _ (List.getLast_mem _)
  rcases sub_nn hla (hl a (by simp)) with ⟨hle, r, hr, hri⟩ | ⟨hlt, r, hr, hri⟩
  · obtain ⟨g, hg, hgi⟩ := gain_up (a :: l) r (by omega) hl
    exact ⟨r, g, hr, hg, hgi⟩
  · rcases gain_low l a r hri hl with ⟨g, hg, hgi⟩ | ⟨_, h2⟩
    · exact ⟨_, g, hr, hg, hgi⟩
    · exact absurd h2 (by omega)
theorem thousand : Bd 4652007308841189376 9 10 := by
  have hm : magR 4652007308841189376 = 8796093022208000 := by decide
  have hp : placeR 4652007308841189376 = -43 := by decide
  refine ⟨⟨by decide, ?_⟩, ?_⟩
  · rw [hm, hp]; exact Le.of 0 53 (by omega) (by decide)
  · rw [hm, hp]; exact Le.of 52 0 (by omega) (by decide)
/-- Seconds between two times. -/
def secO (n : Nat) : Option Nat := double.div (rung n 0) 4652007308841189376
theorem sec_bd (n : Nat) (h0 : 1 ≤ n) (h1 : n ≤ 2 ^ 54) : ∃ r, secO n = some r ∧ Bd r (-10) 45 :=
  div_bd (int_bd n h0 h1) thousand (by omega) (by omega)
theorem sec_zero : secO 0 = some 0 := div_zero (by decide) (by decide)
theorem int_of (n : Nat) : Go.floatOfInt .f64 (n : Int) = rung n 0 := by
  show double.write (.number (decide ((n : Int) < 0)) (n : Int).natAbs 0) = _
  rw [decide_eq_false (by omega), write_pos]
  simp
end Go.Proofs.Ytlelcmkbcejjkaa.Flt
