/- What span.number, span.named, span.Parse and span.Text answer, in plain Lean: no program in sight. -/
import Derived.Below
namespace Go.Proofs.YtmgbnnanophehaaDoor.Span
/-- 2^45, the longest span. -/
abbrev M : Int := 35184372088832
def isDig (c : UInt8) : Bool := 48 ≤ c.toNat && c.toNat ≤ 57
/-- The number ahead of a text, at most M: what it is, what is behind. -/
def numL (n : Int) (k : Nat) : List UInt8 → Int × List UInt8 × Bool
  | [] => (n, [], decide (0 < k) && decide (n ≤ M))
  | c :: r => if isDig c = true then (if n > M then (0, [], false) else numL (10 * n + ((c.toNat : Int) - 48)) (k + 1) r) else (n, c :: r, decide (0 < k) && decide (n ≤ M))
def units : List (List UInt8 × Int) := [([121], 31536000000), ([119], 604800000), ([100], 86400000), ([104], 3600000), ([109], 60000), ([115], 1000), ([109, 115], 1)]
def cuts : List UInt8 := [121, 119, 100, 104, 109, 115]
/-- Where a name stands among the units, from a place on. -/
def findU (nm : List UInt8) : List (List UInt8 × Int) → Nat → Option Nat
  | [], _ => none
  | u :: us, k => if u.1 = nm then some k else findU nm us (k + 1)
/-- The unit ahead of a text and what is behind. -/
def namedL (l : List UInt8) : Int × List UInt8 :=
  match findU (l.takeWhile (cuts.contains ·)) units 0 with
  | some k => ((k : Int), l.drop (l.takeWhile (cuts.contains ·)).length)
  | none => (-1, [])
def longU (k : Int) : Int := (units.getD k.toNat ([], 0)).2
/-- The sum of the parts. -/
def parL : Nat → Int → Int → List UInt8 → Int × Option Int
  | 0, _, _, _ => (0, some 13)
  | f + 1, sum, next, l =>
    if l = [] then (sum, none) else
    if (numL 0 0 l).2.2 = false ∨ (namedL (numL 0 0 l).2.1).1 < next ∨ (numL 0 0 l).1 > Int.tdiv (M - sum) (longU (namedL (numL 0 0 l).2.1).1) then (0, some 13)
    else parL f (sum + (numL 0 0 l).1 * longU (namedL (numL 0 0 l).2.1).1) ((namedL (numL 0 0 l).2.1).1 + 1) (namedL (numL 0 0 l).2.1).2
def parseL (l : List UInt8) : Int × Option Int := if l.length = 0 ∨ 200 < l.length then (0, some 13) else parL (l.length + 1) 0 0 l
theorem numL_len (l : List UInt8) : ∀ (n : Int) (k : Nat), (numL n k l).2.2 = true → (numL n k l).2.1.length ≤ l.length ∧ (k = 0 → (numL n k l).2.1.length < l.length) := by
  induction l with
  | nil => intro n k h; simp [numL] at h ⊢; omega
  | cons c r ih =>
    intro n k h
    simp only [numL] at h ⊢
    by_cases h1 : isDig c = true
    · rw [if_pos h1] at h ⊢
      by_cases h2 : n > M
      · rw [if_pos h2] at h; cases h
      · rw [if_neg h2] at h ⊢
        have := (ih _ _ h).1
        simp only [List.length_cons]
        exact ⟨by omega, fun _ => by omega⟩
    · rw [if_neg h1] at h ⊢
      simp only [Bool.and_eq_true, decide_eq_true_eq] at h
      exact ⟨Nat.le_refl _, fun h0 => by omega⟩
theorem numL_le (l : List UInt8) : ∀ (n : Int) (k : Nat), (numL n k l).2.1.length ≤ l.length := by
  induction l with
  | nil => intro n k; simp [numL]
  | cons c r ih =>
    intro n k
    simp only [numL]
    by_cases h1 : isDig c = true
    · rw [if_pos h1]
      by_cases h2 : n > M
      · rw [if_pos h2]; simp
      · rw [if_neg h2]
        have := ih (10 * n + ((c.toNat : Int) - 48)) (k + 1)
        simp only [List.length_cons]; omega
    · rw [if_neg h1]; exact Nat.le_refl _
theorem numL_pos (l : List UInt8) : ∀ (n : Int) (k : Nat), 0 ≤ n → 0 ≤ (numL n k l).1 ∧ ((numL n k l).2.2 = true → (numL n k l).1 ≤ M) := by
  induction l with
  | nil => intro n k h; simp [numL]; omega
  | cons c r ih =>
    intro n k h
    simp only [numL]
    by_cases h1 : isDig c = true
    · rw [if_pos h1]
      by_cases h2 : n > M
      · rw [if_pos h2]; exact ⟨Int.le_refl _, fun h => by cases h⟩
      · rw [if_neg h2]
        refine ih _ _ ?_
        have : 48 ≤ c.toNat := by unfold isDig at h1; simp at h1; omega
        omega
    · rw [if_neg h1]
      refine ⟨h, fun h => ?_⟩
      simp only [Bool.and_eq_true, decide_eq_true_eq] at h
      exact h.2
theorem findU_rng (nm : List UInt8) (us : List (List UInt8 × Int)) : ∀ (k j : Nat), findU nm us k = some j → k ≤ j ∧ j < k + us.length := by
  induction us with
  | nil => intro k j h; cases h
  | cons u r ih =>
    intro k j h
    simp only [findU] at h
    by_cases h1 : u.1 = nm
    · rw [if_pos h1] at h
      obtain rfl := Option.some.inj h
      simp
    · rw [if_neg h1] at h
      have := ih _ _ h
      simp only [List.length_cons]; omega
theorem namedL_rng (l : List UInt8) : -1 ≤ (namedL l).1 ∧ (namedL l).1 ≤ 6 ∧ (namedL l).2.length ≤ l.length := by
  unfold namedL
  cases h : findU (l.takeWhile (cuts.contains ·)) units 0 with
  | none => simp
  | some k =>
    have := (findU_rng _ _ _ _ h).2
    have h7 : units.length = 7 := rfl
    simp only [List.length_drop]
    omega
end Go.Proofs.YtmgbnnanophehaaDoor.Span
