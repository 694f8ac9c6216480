/- Floats of 64 bits, plain: rounding is monotone, and leaves what is a float. -/
import Derived.Laws.FloatArith
namespace Go.Proofs.Ytlelcmkbcejjkaa.Flt
open Ieee
set_option linter.unusedVariables false
set_option linter.unusedSimpArgs false

/-- N / G to the nearest; between two, the even one. -/
def rne (N G : Nat) : Nat := N / G + (if G < 2 * (N % G) ∨ (G = 2 * (N % G) ∧ N / G % 2 = 1) then 1 else 0)
theorem rne_scale (N G c : Nat) (hc : 0 < c) : rne (N * c) (G * c) = rne N G := by
  unfold rne
  rw [Nat.mul_div_mul_right _ _ hc, Nat.mul_mod_mul_right]
  have e : (G * c < 2 * (N % G * c) ∨ (G * c = 2 * (N % G * c) ∧ N / G % 2 = 1)) ↔ (G < 2 * (N % G) ∨ (G = 2 * (N % G) ∧ N / G % 2 = 1)) := by
    rw [← Nat.mul_assoc 2]
    constructor
    · rintro (h | ⟨h, k⟩)
      · exact Or.inl (Nat.lt_of_mul_lt_mul_right h)
      · exact Or.inr ⟨Nat.eq_of_mul_eq_mul_right hc h, k⟩
    · rintro (h | ⟨h, k⟩)
      · exact Or.inl (Nat.mul_lt_mul_of_pos_right h hc)
      · exact Or.inr ⟨congrArg (· * c) h, k⟩
  simp only [e]
theorem rne_mono {N N' G : Nat} (hG : 0 < G) (h : N ≤ N') : rne N G ≤ rne N' G := by
  unfold rne
  have hq : N / G ≤ N' / G := Nat.div_le_div_right h
  have a := Nat.div_add_mod N G
  have b := Nat.div_add_mod N' G
  rcases Nat.lt_or_ge (N / G) (N' / G) with h1 | h1
  · split <;> split <;> omega
  · have e : N / G = N' / G := by omega
    have hr : N % G ≤ N' % G := by rw [e] at a; omega
    rw [e]; split <;> split <;> omega
theorem rne_cross {N G N' G' : Nat} (hG : 0 < G) (hG' : 0 < G') (h : N * G' ≤ N' * G) : rne N G ≤ rne N' G' := by
  rw [← rne_scale N G G' hG', ← rne_scale N' G' G hG, Nat.mul_comm G' G]
  exact rne_mono (Nat.mul_pos hG hG') h
theorem rne_lt {N G b : Nat} (hG : 0 < G) (h : N < b * G) : rne N G ≤ b := by
  have : N / G < b := (Nat.div_lt_iff_lt_mul hG).2 h
  unfold rne; split <;> omega
theorem rne_ge {N G b : Nat} (hG : 0 < G) (h : b * G ≤ N) : b ≤ rne N G := by
  have : b ≤ N / G := (Nat.le_div_iff_mul_le hG).2 h
  unfold rne; omega
theorem rne_one (N : Nat) : rne N 1 = N := by unfold rne; simp [Nat.mod_one]
theorem cut_even (neg : Bool) (n drop : Nat) : Toward.even.cut neg n drop = rne n (2 ^ drop) := by
  have key : ∀ g : Nat, 0 < g → Bool.toNat (decide (g < 2 * (n % g)) || (g == 2 * (n % g) && n / g % 2 == 1)) = (if g < 2 * (n % g) ∨ (g = 2 * (n % g) ∧ n / g % 2 = 1) then 1 else 0) := by
    intro g _
    by_cases h1 : g < 2 * (n % g)
    · simp [h1]
    · by_cases h2 : g = 2 * (n % g)
      · by_cases h3 : n / g % 2 = 1
        · rw [if_pos (Or.inr ⟨h2, h3⟩), decide_eq_false h1, beq_iff_eq.2 h2, beq_iff_eq.2 h3]; rfl
        · rw [if_neg (by rintro (h | h); exact h1 h; exact h3 h.2), decide_eq_false h1, beq_eq_false_iff_ne.2 h3]; simp
      · rw [if_neg (by rintro (h | h); exact h1 h; exact h2 h.1), decide_eq_false h1, beq_eq_false_iff_ne.2 h2]; rfl
  unfold Toward.cut
  simp only [Nat.one_shiftLeft]
  rw [key _ (Nat.two_pow_pos _)]
  rcases Nat.le_total drop (n.log2 + 2) with h | h
  · rw [Nat.min_eq_left h]; rfl
  · rw [Nat.min_eq_right h]
    have h1 : n < 2 ^ (n.log2 + 1) := Nat.lt_log2_self
    have h2 : (2 : Nat) ^ (n.log2 + 2) ≤ 2 ^ drop := Nat.pow_le_pow_right (by decide) h
    have h3 : (2 : Nat) ^ (n.log2 + 2) = 2 * 2 ^ (n.log2 + 1) := by rw [Nat.pow_succ, Nat.mul_comm]
    unfold rne
    have a1 : n / 2 ^ (n.log2 + 2) = 0 := Nat.div_eq_of_lt (by omega)
    have a2 : n % 2 ^ (n.log2 + 2) = n := Nat.mod_eq_of_lt (by omega)
    have b1 : n / 2 ^ drop = 0 := Nat.div_eq_of_lt (by omega)
    have b2 : n % 2 ^ drop = n := Nat.mod_eq_of_lt (by omega)
    rw [a1, a2, b1, b2, if_neg (by omega), if_neg (by omega)]

def lastP (m : Nat) (p : Int) : Int := max (p + m.log2 - 52) (-1074)
def keptN (m : Nat) (p : Int) : Nat := rne (m * 2 ^ (p - lastP m p).toNat) (2 ^ (lastP m p - p).toNat)
def raw (m : Nat) (p : Int) : Nat := (lastP m p + 1074).toNat * 4503599627370496 + keptN m p
/-- The rung of a magnitude. -/
def rung (m : Nat) (p : Int) : Nat := if m = 0 then 0 else min (raw m p) (2047 * 4503599627370496)
theorem leastP : double.leastPlace = -1074 := by decide
theorem binadeD : double.binade = 4503599627370496 := by decide
theorem infD : double.infRung = 2047 * 4503599627370496 := by decide
theorem signD : double.signWeight = 9223372036854775808 := by decide
theorem nearest_rung (neg : Bool) (m : Nat) (p : Int) : double.nearest neg m p = double.word neg (rung m p) := by
  unfold Format.nearest rung
  by_cases h : m = 0
  · rw [if_pos h, if_pos h]
  · rw [if_neg h, if_neg h]
    simp only [leastP, binadeD, infD, cut_even, Nat.shiftLeft_eq]
    rfl
/-- m1 * 2^p1 is at most m2 * 2^p2. -/
def Le (m1 : Nat) (p1 : Int) (m2 : Nat) (p2 : Int) : Prop := m1 * 2 ^ (p1 - min p1 p2).toNat ≤ m2 * 2 ^ (p2 - min p1 p2).toNat
theorem Le.at {m1 m2 : Nat} {p1 p2 : Int} (h : Le m1 p1 m2 p2) (e1 e2 : Nat) (he : (e1 : Int) - e2 = p1 - p2) : m1 * 2 ^ e1 ≤ m2 * 2 ^ e2 := by
  unfold Le at h
  obtain ⟨t, h1⟩ : ∃ t, e1 = (p1 - min p1 p2).toNat + t := ⟨e1 - (p1 - min p1 p2).toNat, by omega⟩
  have h2 : e2 = (p2 - min p1 p2).toNat + t := by omega
  rw [h1, h2, Nat.pow_add, Nat.pow_add, ← Nat.mul_assoc, ← Nat.mul_assoc]
  exact Nat.mul_le_mul_right _ h
theorem Le.of {m1 m2 : Nat} {p1 p2 : Int} (e1 e2 : Nat) (he : (e1 : Int) - e2 = p1 - p2) (h : m1 * 2 ^ e1 ≤ m2 * 2 ^ e2) : Le m1 p1 m2 p2 := by
  unfold Le
  obtain ⟨t, h1⟩ : ∃ t, e1 = (p1 - min p1 p2).toNat + t := ⟨e1 - (p1 - min p1 p2).toNat, by omega⟩
  have h2 : e2 = (p2 - min p1 p2).toNat + t := by omega
  rw [h1, h2, Nat.pow_add, Nat.pow_add, ← Nat.mul_assoc, ← Nat.mul_assoc] at h
  exact Nat.le_of_mul_le_mul_right h (Nat.two_pow_pos _)
theorem Le.total (m1 m2 : Nat) (p1 p2 : Int) : Le m1 p1 m2 p2 ∨ Le m2 p2 m1 p1 := by
  unfold Le
  rw [Int.min_comm p2 p1]
  exact Nat.le_total _ _
theorem Le.same {m1 m2 : Nat} {p : Int} (h : m1 ≤ m2) : Le m1 p m2 p := Le.of 0 0 (by omega) (by simpa using h)
theorem Le.trans {m1 m2 m3 : Nat} {p1 p2 p3 : Int} (h : Le m1 p1 m2 p2) (k : Le m2 p2 m3 p3) : Le m1 p1 m3 p3 := by
  have a := h.at (p1 - min p1 (min p2 p3)).toNat (p2 - min p1 (min p2 p3)).toNat (by omega)
  have b := k.at (p2 - min p1 (min p2 p3)).toNat (p3 - min p1 (min p2 p3)).toNat (by omega)
  exact Le.of (p1 - min p1 (min p2 p3)).toNat (p3 - min p1 (min p2 p3)).toNat (by omega) (Nat.le_trans a b)
theorem log_mul (m k : Nat) (h : m ≠ 0) : (m * 2 ^ k).log2 = m.log2 + k := by
  have h2 : m * 2 ^ k ≠ 0 := by have := Nat.mul_pos (Nat.pos_of_ne_zero h) (Nat.two_pow_pos k); omega
  rw [Nat.log2_eq_iff h2]
  have a := Nat.log2_self_le h
  have b := @Nat.lt_log2_self m
  constructor
  · rw [Nat.pow_add]; exact Nat.mul_le_mul_right _ a
  · rw [Nat.add_right_comm, Nat.pow_add]; exact Nat.mul_lt_mul_of_pos_right b (Nat.two_pow_pos _)
theorem Le.log {m1 m2 : Nat} {p1 p2 : Int} (h : Le m1 p1 m2 p2) (h1 : m1 ≠ 0) : m2 ≠ 0 ∧ p1 + m1.log2 ≤ p2 + m2.log2 := by
  have a := h.at (p1 - min p1 p2).toNat (p2 - min p1 p2).toNat (by omega)
  have p := Nat.mul_pos (Nat.pos_of_ne_zero h1) (Nat.two_pow_pos (p1 - min p1 p2).toNat)
  have h2 : m2 ≠ 0 := by rintro rfl; rw [Nat.zero_mul] at a; omega
  refine ⟨h2, ?_⟩
  have q := Nat.mul_pos (Nat.pos_of_ne_zero h2) (Nat.two_pow_pos (p2 - min p1 p2).toNat)
  have l1 := Nat.log2_self_le (n := m1 * 2 ^ (p1 - min p1 p2).toNat) (by omega)
  have l2 : (m1 * 2 ^ (p1 - min p1 p2).toNat).log2 ≤ (m2 * 2 ^ (p2 - min p1 p2).toNat).log2 := (Nat.le_log2 (by omega)).2 (Nat.le_trans l1 a)
  rw [log_mul _ _ h1, log_mul _ _ h2] at l2
  omega
theorem kept_le (m : Nat) (p : Int) : keptN m p ≤ 2 * 4503599627370496 := by
  refine rne_lt (Nat.two_pow_pos _) ?_
  have h1 : m < 2 ^ (m.log2 + 1) := Nat.lt_log2_self
  have h2 : m * 2 ^ (p - lastP m p).toNat < 2 ^ (m.log2 + 1 + (p - lastP m p).toNat) := by rw [Nat.pow_add]; exact Nat.mul_lt_mul_of_pos_right h1 (Nat.two_pow_pos _)
  have h3 : (2 : Nat) ^ (m.log2 + 1 + (p - lastP m p).toNat) ≤ 2 ^ (53 + (lastP m p - p).toNat) := Nat.pow_le_pow_right (by decide) (by unfold lastP; omega)
  have h4 : (2 : Nat) ^ (53 + (lastP m p - p).toNat) = 2 * 4503599627370496 * 2 ^ (lastP m p - p).toNat := by rw [Nat.pow_add]
  omega
theorem kept_ge (m : Nat) (p : Int) (hm : m ≠ 0) (h : -1074 < lastP m p) : 4503599627370496 ≤ keptN m p := by
  refine rne_ge (Nat.two_pow_pos _) ?_
  have h1 := Nat.log2_self_le hm
  have h2 : 2 ^ (m.log2 + (p - lastP m p).toNat) ≤ m * 2 ^ (p - lastP m p).toNat := by rw [Nat.pow_add]; exact Nat.mul_le_mul_right _ h1
  have h3 : (2 : Nat) ^ (52 + (lastP m p - p).toNat) ≤ 2 ^ (m.log2 + (p - lastP m p).toNat) := Nat.pow_le_pow_right (by decide) (by unfold lastP at *; omega)
  have h4 : (2 : Nat) ^ (52 + (lastP m p - p).toNat) = 4503599627370496 * 2 ^ (lastP m p - p).toNat := by rw [Nat.pow_add]
  omega
/-- Rounding is monotone. -/
theorem rung_mono {m1 m2 : Nat} {p1 p2 : Int} (h : Le m1 p1 m2 p2) : rung m1 p1 ≤ rung m2 p2 := by
  unfold rung
  by_cases h1 : m1 = 0
  · rw [if_pos h1]; exact Nat.zero_le _
  obtain ⟨h2, hl⟩ := h.log h1
  rw [if_neg h1, if_neg h2]
  have hraw : raw m1 p1 ≤ raw m2 p2 := by
    have hL : lastP m1 p1 ≤ lastP m2 p2 := by unfold lastP; omega
    have hb : ∀ m p, -1074 ≤ lastP m p := fun m p => by unfold lastP; omega
    unfold raw
    rcases Int.lt_or_eq_of_le hL with hlt | heq
    · have a := kept_le m1 p1
      have b := kept_ge m2 p2 h2 (by have := hb m1 p1; omega)
      have c : (lastP m1 p1 + 1074).toNat + 1 ≤ (lastP m2 p2 + 1074).toNat := by have := hb m1 p1; omega
      have d := Nat.mul_le_mul_right 4503599627370496 c
      rw [Nat.add_mul] at d
      omega
    · have hk : keptN m1 p1 ≤ keptN m2 p2 := by
        unfold keptN
        rw [heq]
        refine rne_cross (Nat.two_pow_pos _) (Nat.two_pow_pos _) ?_
        rw [Nat.mul_assoc, Nat.mul_assoc, ← Nat.pow_add, ← Nat.pow_add]
        exact h.at _ _ (by omega)
      rw [heq]
      omega
  omega
/-- What a rung stands for: its magnitude and its place. -/
def magR (r : Nat) : Nat := if r < 4503599627370496 then r else 4503599627370496 + r % 4503599627370496
def placeR (r : Nat) : Int := if r < 4503599627370496 then -1074 else -1074 + ((r / 4503599627370496 - 1 : Nat) : Int)
theorem read_rung (r : Nat) (h : r < 2047 * 4503599627370496) : double.read r = .number false (magR r) (placeR r) := by
  have e1 : r / 9223372036854775808 % 2 = 0 := by omega
  have e2 : r % 9223372036854775808 = r := by omega
  unfold Format.read magR placeR
  simp only [signD, binadeD, infD, leastP, e1, e2]
  by_cases h1 : r < 4503599627370496
  · rw [if_pos h1, if_pos h1, if_pos h1]; rfl
  · rw [if_neg h1, if_neg h1, if_neg h1, if_pos h]; rfl
theorem read_inf : double.read (2047 * 4503599627370496) = .infinity false := by decide
theorem rung_id (r : Nat) (h : r < 2047 * 4503599627370496) : rung (magR r) (placeR r) = r := by
  unfold rung magR placeR
  by_cases h1 : r < 4503599627370496
  · rw [if_pos h1, if_pos h1]
    by_cases h0 : r = 0
    · rw [if_pos h0]; exact h0.symm
    · rw [if_neg h0]
      have hl : r.log2 < 52 := (Nat.log2_lt h0).2 (by omega)
      have hL : lastP r (-1074) = -1074 := by unfold lastP; omega
      unfold raw keptN
      rw [hL]
      simp only [Int.sub_self, Int.toNat_zero, Nat.pow_zero, Nat.mul_one, rne_one]
      omega
  · rw [if_neg h1, if_neg h1, if_neg (by omega)]
    have hq : 1 ≤ r / 4503599627370496 := (Nat.le_div_iff_mul_le (by decide)).2 (by omega)
    have hdm := Nat.div_add_mod r 4503599627370496
    have hml := Nat.mod_lt r (show 0 < 4503599627370496 by decide)
    have hl : (4503599627370496 + r % 4503599627370496).log2 = 52 := (Nat.log2_eq_iff (by omega)).2 ⟨by omega, by omega⟩
    have hL : lastP (4503599627370496 + r % 4503599627370496) (-1074 + ((r / 4503599627370496 - 1 : Nat) : Int)) = -1074 + ((r / 4503599627370496 - 1 : Nat) : Int) := by unfold lastP; rw [hl]; omega
    unfold raw keptN
    rw [hL]
    simp only [Int.sub_self, Int.toNat_zero, Nat.pow_zero, Nat.mul_one, rne_one]
    omega
/-- Rungs lie as their magnitudes do. -/
theorem le_of_rung {a b : Nat} (ha : a < 2047 * 4503599627370496) (hb : b < 2047 * 4503599627370496) (h : a ≤ b) : Le (magR a) (placeR a) (magR b) (placeR b) := by
  rcases Le.total (magR a) (magR b) (placeR a) (placeR b) with h1 | h1
  · exact h1
  · have := rung_mono h1
    rw [rung_id _ ha, rung_id _ hb] at this
    obtain rfl : a = b := by omega
    exact h1
theorem rung_of_le {a b : Nat} (ha : a < 2047 * 4503599627370496) (hb : b < 2047 * 4503599627370496) (h : Le (magR a) (placeR a) (magR b) (placeR b)) : a ≤ b := by
  have := rung_mono h
  rwa [rung_id _ ha, rung_id _ hb] at this
theorem rung_top (m : Nat) (p : Int) : rung m p ≤ 2047 * 4503599627370496 := by unfold rung; split <;> omega
end Go.Proofs.Ytlelcmkbcejjkaa.Flt
