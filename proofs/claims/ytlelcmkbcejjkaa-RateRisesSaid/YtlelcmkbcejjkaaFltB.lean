/- Floats of 64 bits, plain: sums, products, quotients of floats of at least 0; bounds by powers of two. -/
import Derived.Test.YtlelcmkbcejjkaaFltA
namespace Go.Proofs.Ytlelcmkbcejjkaa.Flt
open Ieee
set_option linter.unusedVariables false
set_option linter.unusedSimpArgs false

theorem inf_is : 9218868437227405312 = 2047 * 4503599627370496 := by decide
theorem read_fin {x : Nat} (h : x < 9218868437227405312) : double.read x = .number false (magR x) (placeR x) := read_rung x (by omega)
theorem read_Inf : double.read 9218868437227405312 = .infinity false := read_inf
theorem read_neg {x : Nat} (h : x < 9218868437227405312) : double.read (9223372036854775808 + x) = .number true (magR x) (placeR x) := by
  have e1 : (9223372036854775808 + x) / 9223372036854775808 % 2 = 1 := by omega
  have e2 : (9223372036854775808 + x) % 9223372036854775808 = x := by omega
  have h' : x < 2047 * 4503599627370496 := by omega
  unfold Format.read magR placeR
  simp only [signD, binadeD, infD, leastP, e1, e2]
  by_cases h1 : x < 4503599627370496
  · rw [if_pos h1, if_pos h1, if_pos h1]; rfl
  · rw [if_neg h1, if_neg h1, if_neg h1, if_pos h']; rfl
theorem place_ge (x : Nat) : -1074 ≤ placeR x := by unfold placeR; split <;> omega
theorem write_pos (m : Nat) (p : Int) : double.write (.number false m p) = rung m p := by
  simp only [Format.write]
  rw [nearest_rung]
  unfold Format.word
  rw [if_neg (by decide)]
theorem write_neg (m : Nat) (p : Int) : double.write (.number true m p) = 9223372036854775808 + rung m p := by
  simp only [Format.write]
  rw [nearest_rung]
  unfold Format.word
  rw [if_pos rfl, signD]
theorem write_inf : double.write (.infinity false) = 9218868437227405312 := by
  simp only [Format.write]
  unfold Format.word
  rw [if_neg (by decide), infD]
theorem signed_pos (m k : Nat) : signed false m k = ((m * 2 ^ k : Nat) : Int) := by unfold signed; rw [Nat.shiftLeft_eq]; rfl
theorem signed_neg (m k : Nat) : signed true m k = -((m * 2 ^ k : Nat) : Int) := by unfold signed; rw [Nat.shiftLeft_eq]; rfl

theorem add_fin {x y : Nat} (hx : x < 9218868437227405312) (hy : y < 9218868437227405312) : double.add x y = some (rung (magR x * 2 ^ (placeR x - min (placeR x) (placeR y)).toNat + magR y * 2 ^ (placeR y - min (placeR x) (placeR y)).toNat) (min (placeR x) (placeR y))) := by
  unfold Format.add
  rw [read_fin hx, read_fin hy]
  simp only [Datum.sum, signed_pos, Option.map_some]
  generalize magR x * 2 ^ (placeR x - min (placeR x) (placeR y)).toNat = a
  generalize magR y * 2 ^ (placeR y - min (placeR x) (placeR y)).toNat = b
  have e1 : ((a : Int) + (b : Int)).natAbs = a + b := by omega
  have e2 : (if (a : Int) + (b : Int) = 0 then (false && false) else decide ((a : Int) + (b : Int) < 0)) = false := by
    split
    · rfl
    · exact decide_eq_false (by omega)
  rw [e1, e2, write_pos]
theorem le_add_left {x y : Nat} : Le (magR x) (placeR x) (magR x * 2 ^ (placeR x - min (placeR x) (placeR y)).toNat + magR y * 2 ^ (placeR y - min (placeR x) (placeR y)).toNat) (min (placeR x) (placeR y)) :=
  Le.of (placeR x - min (placeR x) (placeR y)).toNat 0 (by omega) (by rw [Nat.pow_zero, Nat.mul_one]; exact Nat.le_add_right _ _)
/-- A sum of floats of at least 0 is one, and not less than the first. -/
theorem add_nn {x y : Nat} (hx : x ≤ 9218868437227405312) (hy : y ≤ 9218868437227405312) : ∃ r, double.add x y = some r ∧ r ≤ 9218868437227405312 ∧ x ≤ r := by
  rcases Nat.lt_or_eq_of_le hx with hx | rfl
  · rcases Nat.lt_or_eq_of_le hy with hy | rfl
    · refine ⟨_, add_fin hx hy, rung_top _ _, ?_⟩
      have := rung_mono (le_add_left (x := x) (y := y))
      rwa [rung_id x hx] at this
    · refine ⟨9218868437227405312, ?_, Nat.le_refl _, Nat.le_of_lt hx⟩
      unfold Format.add
      rw [read_fin hx, read_Inf]
      simp only [Datum.sum, Option.map_some, write_inf]
  · refine ⟨9218868437227405312, ?_, Nat.le_refl _, Nat.le_refl _⟩
    unfold Format.add
    rcases Nat.lt_or_eq_of_le hy with hy | rfl
    · rw [read_fin hy, read_Inf]
      simp only [Datum.sum, Option.map_some, write_inf]
    · rw [read_Inf]
      simp only [Datum.sum, if_true, Option.map_some, write_inf]
/-- A difference of two floats of at least 0: of at least 0 where the first is not less; else at most the second, below 0. -/
theorem sub_nn {x y : Nat} (hx : x < 9218868437227405312) (hy : y < 9218868437227405312) : (y ≤ x ∧ ∃ r, double.sub x y = some r ∧ r ≤ x) ∨ (x < y ∧ ∃ r, double.sub x y = some (9223372036854775808 + r) ∧ r ≤ y) := by
  have hs : double.sub x y = some (double.write (.number (if ((magR x * 2 ^ (placeR x - min (placeR x) (placeR y)).toNat : Nat) : Int) + -((magR y * 2 ^ (placeR y - min (placeR x) (placeR y)).toNat : Nat) : Int) = 0 then (false && true) else decide (((magR x * 2 ^ (placeR x - min (placeR x) (placeR y)).toNat : Nat) : Int) + -((magR y * 2 ^ (placeR y - min (placeR x) (placeR y)).toNat : Nat) : Int) < 0))
      (((magR x * 2 ^ (placeR x - min (placeR x) (placeR y)).toNat : Nat) : Int) + -((magR y * 2 ^ (placeR y - min (placeR x) (placeR y)).toNat : Nat) : Int)).natAbs (min (placeR x) (placeR y)))) := by
    unfold Format.sub
    rw [read_fin hx, read_fin hy]
    simp only [Datum.opposite, Bool.not_false, Datum.sum, signed_pos, signed_neg, Option.map_some]
  have hle : (magR y * 2 ^ (placeR y - min (placeR x) (placeR y)).toNat ≤ magR x * 2 ^ (placeR x - min (placeR x) (placeR y)).toNat) ↔ y ≤ x := by
    constructor
    · intro h
      exact rung_of_le hy hx (Le.of _ _ (by omega) h)
    · intro h
      exact (le_of_rung hy hx h).at _ _ (by omega)
  have hxL : ∀ d, d ≤ magR x * 2 ^ (placeR x - min (placeR x) (placeR y)).toNat → rung d (min (placeR x) (placeR y)) ≤ x := fun d hd => by
    have := rung_mono (Le.of (m1 := d) (p1 := min (placeR x) (placeR y)) (m2 := magR x) (p2 := placeR x) 0 (placeR x - min (placeR x) (placeR y)).toNat (by omega) (by simpa using hd))
    rwa [rung_id x hx] at this
  have hyL : ∀ d, d ≤ magR y * 2 ^ (placeR y - min (placeR x) (placeR y)).toNat → rung d (min (placeR x) (placeR y)) ≤ y := fun d hd => by
    have := rung_mono (Le.of (m1 := d) (p1 := min (placeR x) (placeR y)) (m2 := magR y) (p2 := placeR y) 0 (placeR y - min (placeR x) (placeR y)).toNat (by omega) (by simpa using hd))
    rwa [rung_id y hy] at this
  generalize magR x * 2 ^ (placeR x - min (placeR x) (placeR y)).toNat = a at *
  generalize magR y * 2 ^ (placeR y - min (placeR x) (placeR y)).toNat = b at *
  rcases Nat.lt_or_ge a b with h | h
  · right
    refine ⟨by have := fun h2 => (hle.2 h2); omega, rung (b - a) (min (placeR x) (placeR y)), ?_, hyL _ (by omega)⟩
    have e1 : ((a : Int) + -(b : Int)).natAbs = b - a := by omega
    rw [hs, if_neg (by omega), decide_eq_true (by omega), e1, write_neg]
  · left
    refine ⟨hle.1 h, rung (a - b) (min (placeR x) (placeR y)), ?_, hxL _ (by omega)⟩
    have e1 : ((a : Int) + -(b : Int)).natAbs = a - b := by omega
    have e2 : (if (a : Int) + -(b : Int) = 0 then (false && true) else decide ((a : Int) + -(b : Int) < 0)) = false := by
      split
      · rfl
      · exact decide_eq_false (by omega)
    rw [hs, e1, e2, write_pos]
/-- What is below 0 and one that is not less the other way: their sum is of at least 0. -/
theorem add_neg {x y : Nat} (hx : x ≤ y) (hy : y < 9218868437227405312) : ∃ r, double.add (9223372036854775808 + x) y = some r ∧ r ≤ 9218868437227405312 := by
  have hx' : x < 9218868437227405312 := by omega
  have hle := (le_of_rung (a := x) (b := y) (by omega) (by omega) hx).at (placeR x - min (placeR x) (placeR y)).toNat (placeR y - min (placeR x) (placeR y)).toNat (by omega)
  refine ⟨rung (magR y * 2 ^ (placeR y - min (placeR x) (placeR y)).toNat - magR x * 2 ^ (placeR x - min (placeR x) (placeR y)).toNat) (min (placeR x) (placeR y)), ?_, rung_top _ _⟩
  unfold Format.add
  rw [read_neg hx', read_fin hy]
  simp only [Datum.sum, signed_pos, signed_neg, Option.map_some]
  generalize magR x * 2 ^ (placeR x - min (placeR x) (placeR y)).toNat = a at *
  generalize magR y * 2 ^ (placeR y - min (placeR x) (placeR y)).toNat = b at *
  have e1 : (-(a : Int) + (b : Int)).natAbs = b - a := by omega
  have e2 : (if -(a : Int) + (b : Int) = 0 then (true && false) else decide (-(a : Int) + (b : Int) < 0)) = false := by
    split
    · rfl
    · exact decide_eq_false (by omega)
  rw [e1, e2, write_pos]
/-- Floats of at least 0 are in order as their words are. -/
theorem order_nn {x y : Nat} (hx : x ≤ 9218868437227405312) (hy : y ≤ 9218868437227405312) : double.order x y = some (compare x y) := by
  unfold Format.order
  rcases Nat.lt_or_eq_of_le hx with hx | rfl
  · rcases Nat.lt_or_eq_of_le hy with hy | rfl
    · rw [read_fin hx, read_fin hy]
      simp only [Datum.order, signed_pos]
      have h1 : (magR x * 2 ^ (placeR x - min (placeR x) (placeR y)).toNat ≤ magR y * 2 ^ (placeR y - min (placeR x) (placeR y)).toNat) ↔ x ≤ y :=
        ⟨fun h => rung_of_le (by omega) (by omega) (Le.of _ _ (by omega) h), fun h => (le_of_rung (by omega) (by omega) h).at _ _ (by omega)⟩
      have h2 : (magR y * 2 ^ (placeR y - min (placeR x) (placeR y)).toNat ≤ magR x * 2 ^ (placeR x - min (placeR x) (placeR y)).toNat) ↔ y ≤ x :=
        ⟨fun h => rung_of_le (by omega) (by omega) (Le.of _ _ (by omega) h), fun h => (le_of_rung (by omega) (by omega) h).at _ _ (by omega)⟩
      generalize magR x * 2 ^ (placeR x - min (placeR x) (placeR y)).toNat = a at *
      generalize magR y * 2 ^ (placeR y - min (placeR x) (placeR y)).toNat = b at *
      rcases Nat.lt_trichotomy x y with h | h | h
      · rw [Nat.compare_eq_lt.2 h, Int.compare_eq_lt.2 (by omega)]
      · rw [Nat.compare_eq_eq.2 h, Int.compare_eq_eq.2 (by omega)]
      · rw [Nat.compare_eq_gt.2 h, Int.compare_eq_gt.2 (by omega)]
    · rw [read_fin hx, read_Inf, Nat.compare_eq_lt.2 hx]; rfl
  · rcases Nat.lt_or_eq_of_le hy with hy | rfl
    · rw [read_Inf, read_fin hy, Nat.compare_eq_gt.2 hy]; rfl
    · rw [read_Inf, Nat.compare_eq_eq.2 rfl]; rfl
theorem mag_zero {x : Nat} : magR x = 0 ↔ x = 0 := by unfold magR; split <;> omega
/-- A product of floats of at least 0, of which not one is 0 and the other infinite. -/
theorem mul_nn {x y : Nat} (hx : x ≤ 9218868437227405312) (hy : y ≤ 9218868437227405312) (h1 : x = 9218868437227405312 → y ≠ 0) (h2 : y = 9218868437227405312 → x ≠ 0) : ∃ r, double.mul x y = some r ∧ r ≤ 9218868437227405312 := by
  unfold Format.mul
  rcases Nat.lt_or_eq_of_le hx with hx | rfl
  · rcases Nat.lt_or_eq_of_le hy with hy | rfl
    · rw [read_fin hx, read_fin hy]
      simp only [Datum.product, Option.map_some, Bool.xor_self, write_pos]
      exact ⟨_, rfl, rung_top _ _⟩
    · rw [read_fin hx, read_Inf]
      simp only [Datum.product]
      rw [if_neg fun e => h2 rfl (mag_zero.1 e)]
      exact ⟨_, rfl, Nat.le_of_eq write_inf⟩
  · rcases Nat.lt_or_eq_of_le hy with hy | rfl
    · rw [read_fin hy, read_Inf]
      simp only [Datum.product]
      rw [if_neg fun e => h1 rfl (mag_zero.1 e)]
      exact ⟨_, rfl, Nat.le_of_eq write_inf⟩
    · rw [read_Inf]
      exact ⟨_, rfl, Nat.le_of_eq write_inf⟩

/-! ### bounds by powers of two -/
structure Up (x : Nat) (b : Int) : Prop where
  fin : x < 9218868437227405312
  le : Le (magR x) (placeR x) 1 b
structure Bd (x : Nat) (a b : Int) : Prop where
  up : Up x b
  ge : Le 1 a (magR x) (placeR x)
theorem rung_pow (a : Int) (h0 : -1022 ≤ a) (h1 : a ≤ 1023) : rung 1 a = (a + 1023).toNat * 4503599627370496 ∧ magR (rung 1 a) = 4503599627370496 ∧ placeR (rung 1 a) = a - 52 := by
  have e : rung 1 a = (a + 1023).toNat * 4503599627370496 := by
    have hl : Nat.log2 1 = 0 := by decide
    have hL : lastP 1 a = a - 52 := by unfold lastP; rw [hl]; omega
    unfold rung raw keptN
    rw [if_neg (by decide), hL]
    have e1 : (a - (a - 52)).toNat = 52 := by omega
    have e2 : (a - 52 - a).toNat = 0 := by omega
    have e3 : rne (1 * 2 ^ 52) (2 ^ 0) = 4503599627370496 := rne_one _
    rw [e1, e2, e3]
    omega
  rw [e]
  have hq : (a + 1023).toNat * 4503599627370496 / 4503599627370496 = (a + 1023).toNat := Nat.mul_div_cancel _ (by decide)
  have hm : (a + 1023).toNat * 4503599627370496 % 4503599627370496 = 0 := Nat.mul_mod_left _ _
  refine ⟨rfl, ?_, ?_⟩
  · unfold magR; rw [if_neg (by omega), hm]
  · unfold placeR; rw [if_neg (by omega), hq]; omega
theorem Le.pow (a : Int) : Le 1 a 4503599627370496 (a - 52) ∧ Le 4503599627370496 (a - 52) 1 a :=
  ⟨Le.of 52 0 (by omega) (by decide), Le.of 0 52 (by omega) (by decide)⟩
theorem up_of {m : Nat} {p b : Int} (h : Le m p 1 b) (h0 : -1022 ≤ b) (h1 : b ≤ 1023) : Up (rung m p) b := by
  obtain ⟨e, e1, e2⟩ := rung_pow b h0 h1
  have hm := rung_mono h
  have hf : rung 1 b < 2047 * 4503599627370496 := by rw [e]; omega
  refine ⟨by omega, ?_⟩
  have := le_of_rung (a := rung m p) (b := rung 1 b) (by omega) hf hm
  rw [e1, e2] at this
  exact this.trans (Le.pow b).2
theorem bd_of {m : Nat} {p a b : Int} (h : Le m p 1 b) (k : Le 1 a m p) (h0 : -1022 ≤ a) (h1 : b ≤ 1023) : Bd (rung m p) a b := by
  have hab : a ≤ b := by
    have := ((k.trans h).log (by decide)).2
    omega
  have hu := up_of h (by omega) h1
  obtain ⟨e, e1, e2⟩ := rung_pow a h0 (by omega)
  have hm := rung_mono k
  refine ⟨hu, ?_⟩
  have := le_of_rung (a := rung 1 a) (b := rung m p) (by have := hu.fin; omega) (by have := hu.fin; omega) hm
  rw [e1, e2] at this
  exact (Le.pow a).1.trans this
theorem Bd.pos {x : Nat} {a b : Int} (h : Bd x a b) : 0 < x := by
  have := (h.ge.log (by decide)).1
  rw [Ne, mag_zero] at this
  omega
theorem Up.mono {x : Nat} {a b : Int} (h : Up x a) (hab : a ≤ b) : Up x b :=
  ⟨h.fin, h.le.trans (Le.of 0 (b - a).toNat (by omega) (by rw [Nat.pow_zero, Nat.mul_one, Nat.one_mul]; exact Nat.two_pow_pos _))⟩
theorem up_zero (b : Int) : Up 0 b := ⟨by decide, Le.of (placeR 0 - min (placeR 0) b).toNat (b - min (placeR 0) b).toNat (by omega) (by rw [show magR 0 = 0 from rfl, Nat.zero_mul]; exact Nat.zero_le _)⟩
theorem int_bd (n : Nat) (h0 : 1 ≤ n) (h1 : n ≤ 2 ^ 54) : Bd (rung n 0) 0 54 :=
  bd_of (Le.of 0 54 (by omega) (by rw [Nat.pow_zero, Nat.mul_one, Nat.one_mul]; exact h1)) (Le.of 0 0 (by omega) (by simpa using h0)) (by omega) (by omega)
theorem add_bd {x y : Nat} {a b : Int} (hx : Bd x a b) (hy : Up y b) (h0 : -1022 ≤ a) (h1 : b + 1 ≤ 1023) : ∃ r, double.add x y = some r ∧ Bd r a (b + 1) := by
  refine ⟨_, add_fin hx.up.fin hy.fin, bd_of ?_ (hx.ge.trans le_add_left) h0 h1⟩
  have a1 := hx.up.le.at (placeR x - min (min (placeR x) (placeR y)) b).toNat (b - min (min (placeR x) (placeR y)) b).toNat (by omega)
  have a2 := hy.le.at (placeR y - min (min (placeR x) (placeR y)) b).toNat (b - min (min (placeR x) (placeR y)) b).toNat (by omega)
  refine Le.of (min (placeR x) (placeR y) - min (min (placeR x) (placeR y)) b).toNat (b + 1 - min (min (placeR x) (placeR y)) b).toNat (by omega) ?_
  rw [Nat.add_mul, Nat.mul_assoc, Nat.mul_assoc, ← Nat.pow_add, ← Nat.pow_add]
  rw [show (placeR x - min (placeR x) (placeR y)).toNat + (min (placeR x) (placeR y) - min (min (placeR x) (placeR y)) b).toNat = (placeR x - min (min (placeR x) (placeR y)) b).toNat by omega]
  rw [show (placeR y - min (placeR x) (placeR y)).toNat + (min (placeR x) (placeR y) - min (min (placeR x) (placeR y)) b).toNat = (placeR y - min (min (placeR x) (placeR y)) b).toNat by omega]
  rw [show (b + 1 - min (min (placeR x) (placeR y)) b).toNat = (b - min (min (placeR x) (placeR y)) b).toNat + 1 by omega, Nat.pow_succ]
  omega
/-- The digits of a quotient. -/
def quoN (m n : Nat) (k : Nat) : Nat := 2 * (m * 2 ^ k / n) + (if m * 2 ^ k % n = 0 then 0 else 1)
theorem div_fin {x y : Nat} (hx : x < 9218868437227405312) (hy : y < 9218868437227405312) (h0 : y ≠ 0) : double.div x y = some (rung (quoN (magR x) (magR y) (54 + (magR y).log2 - (magR x).log2)) (placeR x - placeR y - ((54 + (magR y).log2 - (magR x).log2 : Nat) : Int) - 1)) := by
  unfold Format.div
  rw [read_fin hx, read_fin hy]
  have hd : double.fractionBits + 2 = 54 := rfl
  simp only [Datum.quotient, hd]
  rw [if_neg fun e => h0 (mag_zero.1 e)]
  simp only [Nat.shiftLeft_eq, Bool.xor_self, Option.map_some, write_pos]
  congr 2
  unfold quoN
  congr 1
  by_cases h : magR x * 2 ^ (54 + (magR y).log2 - (magR x).log2) % magR y = 0
  · rw [if_pos h, h]; rfl
  · rw [if_neg h, bne_iff_ne.2 h]; rfl
theorem quo_big {m n : Nat} (hm : m ≠ 0) (hn : n ≠ 0) : 1 ≤ m * 2 ^ (54 + n.log2 - m.log2) / n := by
  rw [Nat.le_div_iff_mul_le (Nat.pos_of_ne_zero hn), Nat.one_mul]
  have h1 := Nat.log2_self_le hm
  have h2 : n < 2 ^ (n.log2 + 1) := Nat.lt_log2_self
  have h3 : 2 ^ (m.log2 + (54 + n.log2 - m.log2)) ≤ m * 2 ^ (54 + n.log2 - m.log2) := by rw [Nat.pow_add]; exact Nat.mul_le_mul_right _ h1
  have h4 : (2 : Nat) ^ (n.log2 + 1) ≤ 2 ^ (m.log2 + (54 + n.log2 - m.log2)) := Nat.pow_le_pow_right (by decide) (by omega)
  omega
theorem div_bd {x y : Nat} {a b c d : Int} (hx : Bd x a b) (hy : Bd y c d) (h0 : -1022 ≤ a - d) (h1 : b - c ≤ 1023) : ∃ r, double.div x y = some r ∧ Bd r (a - d) (b - c) := by
  have hxn : magR x ≠ 0 := (hx.ge.log (by decide)).1
  have hyn : magR y ≠ 0 := (hy.ge.log (by decide)).1
  have hy0 : y ≠ 0 := fun e => hyn (mag_zero.2 e)
  refine ⟨_, div_fin hx.up.fin hy.up.fin hy0, ?_⟩
  have hb := quo_big hxn hyn
  obtain ⟨k, hk⟩ : ∃ k, k = 54 + (magR y).log2 - (magR x).log2 := ⟨_, rfl⟩
  rw [← hk] at hb ⊢
  have x1 := hx.up.le
  have x2 := hx.ge
  have y1 := hy.up.le
  have y2 := hy.ge
  generalize magR x = m at *
  generalize magR y = n at *
  generalize placeR x = i at *
  generalize placeR y = j at *
  have hn : 0 < n := Nat.pos_of_ne_zero hyn
  have hdm := Nat.div_add_mod (m * 2 ^ k) n
  have hml := Nat.mod_lt (m * 2 ^ k) hn
  refine bd_of ?_ ?_ h0 h1
  · -- at most 2^(b - c)
    have key : ∀ s : Nat, (s : Int) = b - c - (i - j - k) → m * 2 ^ k ≤ 2 ^ s * n := by
      intro s hs
      have a1 := x1.at (i - min i b).toNat (b - min i b).toNat (by omega)
      have a2 := y2.at (c - min c j).toNat (j - min c j).toNat (by omega)
      rw [Nat.one_mul] at a1 a2
      have a3 := Nat.mul_le_mul a1 a2
      rw [Nat.mul_assoc, ← Nat.pow_add, Nat.mul_comm (2 ^ _), Nat.mul_assoc, ← Nat.pow_add] at a3
      have a4 := Nat.mul_le_mul_right (2 ^ k) a3
      obtain ⟨u, hu⟩ : ∃ u, u = (i - min i b).toNat + (c - min c j).toNat := ⟨_, rfl⟩
      have hv : (j - min c j).toNat + (b - min i b).toNat + k = s + u := by omega
      rw [← hu] at a4
      have e1 : m * 2 ^ u * 2 ^ k = m * 2 ^ k * 2 ^ u := by rw [Nat.mul_assoc, Nat.mul_assoc, Nat.mul_comm (2 ^ u)]
      have e2 : n * 2 ^ ((j - min c j).toNat + (b - min i b).toNat) * 2 ^ k = 2 ^ s * n * 2 ^ u := by
        rw [Nat.mul_assoc, ← Nat.pow_add, hv, Nat.pow_add, ← Nat.mul_assoc, Nat.mul_comm n]
      rw [e1, e2] at a4
      exact Nat.le_of_mul_le_mul_right a4 (Nat.two_pow_pos _)
    rcases Int.lt_or_le (b - c - (i - j - k)) 0 with hneg | hpos
    · exfalso
      -- the quotient is at least 1
      have a1 := x1.at (i - min i b).toNat (b - min i b).toNat (by omega)
      have a2 := y2.at (c - min c j).toNat (j - min c j).toNat (by omega)
      rw [Nat.one_mul] at a1 a2
      have a3 := Nat.mul_le_mul a1 a2
      rw [Nat.mul_assoc, ← Nat.pow_add, Nat.mul_comm (2 ^ _), Nat.mul_assoc, ← Nat.pow_add] at a3
      have a4 := Nat.mul_le_mul_right (2 ^ k) a3
      have hle : n ≤ m * 2 ^ k := by
        have := (Nat.le_div_iff_mul_le hn).1 hb
        omega
      have e1 : m * 2 ^ ((i - min i b).toNat + (c - min c j).toNat) * 2 ^ k = m * 2 ^ k * 2 ^ ((i - min i b).toNat + (c - min c j).toNat) := by rw [Nat.mul_assoc, Nat.mul_assoc, Nat.mul_comm (2 ^ ((i - min i b).toNat + (c - min c j).toNat))]
      have e2 : n * 2 ^ ((j - min c j).toNat + (b - min i b).toNat) * 2 ^ k = n * 2 ^ ((j - min c j).toNat + (b - min i b).toNat + k) := by rw [Nat.mul_assoc, ← Nat.pow_add]
      rw [e1, e2] at a4
      have a5 := Nat.mul_le_mul_right (2 ^ ((i - min i b).toNat + (c - min c j).toNat)) hle
      have a6 := Nat.le_of_mul_le_mul_left (Nat.le_trans a5 a4) hn
      have a7 : (2 : Nat) ^ ((j - min c j).toNat + (b - min i b).toNat + k) < 2 ^ ((i - min i b).toNat + (c - min c j).toNat) := Nat.pow_lt_pow_right (by decide) (by omega)
      omega
    · obtain ⟨s, hs⟩ : ∃ s : Nat, (s : Int) = b - c - (i - j - k) := ⟨(b - c - (i - j - k)).toNat, by omega⟩
      have h2 := key s hs
      refine Le.of 0 (s + 1) (by omega) ?_
      rw [Nat.pow_zero, Nat.mul_one, Nat.one_mul, Nat.pow_succ]
      unfold quoN
      have h3 : m * 2 ^ k / n ≤ 2 ^ s := Nat.div_le_of_le_mul (by rw [Nat.mul_comm n]; exact h2)
      rcases Nat.lt_or_eq_of_le h3 with h4 | h4
      · split <;> omega
      · have h5 : m * 2 ^ k % n = 0 := by
          rw [h4, Nat.mul_comm n] at hdm
          omega
        rw [if_pos h5, h4]
        omega
  · -- at least 2^(a - d)
    rcases Int.lt_or_le (a - d - (i - j - k)) 0 with hneg | hpos
    · refine Le.of 0 (i - j - k - 1 - (a - d)).toNat.succ.pred (by simp only [Nat.pred_succ]; omega) ?_ <;> skip
      rw [Nat.pow_zero, Nat.mul_one]
      have h2 : 1 ≤ quoN m n k := by unfold quoN; omega
      exact Nat.le_trans h2 (Nat.le_mul_of_pos_right _ (Nat.two_pow_pos _))
    · obtain ⟨s, hs⟩ : ∃ s : Nat, (s : Int) = a - d - (i - j - k) := ⟨(a - d - (i - j - k)).toNat, by omega⟩
      have a1 := x2.at (a - min i a).toNat (i - min i a).toNat (by omega)
      have a2 := y1.at (j - min d j).toNat (d - min d j).toNat (by omega)
      rw [Nat.one_mul] at a1 a2
      have a3 := Nat.mul_le_mul a2 a1
      rw [Nat.mul_assoc, ← Nat.pow_add, Nat.mul_comm (2 ^ _), Nat.mul_assoc, ← Nat.pow_add] at a3
      have a4 := Nat.mul_le_mul_right (2 ^ k) a3
      obtain ⟨u, hu⟩ : ∃ u, u = (i - min i a).toNat + (d - min d j).toNat := ⟨_, rfl⟩
      have hv : (j - min d j).toNat + (a - min i a).toNat + k = s + u := by omega
      rw [← hu] at a4
      have e1 : m * 2 ^ u * 2 ^ k = m * 2 ^ k * 2 ^ u := by rw [Nat.mul_assoc, Nat.mul_assoc, Nat.mul_comm (2 ^ u)]
      have e2 : n * 2 ^ ((j - min d j).toNat + (a - min i a).toNat) * 2 ^ k = 2 ^ s * n * 2 ^ u := by
        rw [Nat.mul_assoc, ← Nat.pow_add, hv, Nat.pow_add, ← Nat.mul_assoc, Nat.mul_comm n]
      rw [e1, e2] at a4
      have h2 := Nat.le_of_mul_le_mul_right a4 (Nat.two_pow_pos _)
      have h3 : 2 ^ s ≤ m * 2 ^ k / n := (Nat.le_div_iff_mul_le hn).2 h2
      refine Le.of (s + 1) 0 (by omega) ?_
      rw [Nat.pow_zero, Nat.mul_one, Nat.one_mul, Nat.pow_succ]
      unfold quoN
      omega
theorem div_up {x y : Nat} {b c d : Int} (hx : Up x b) (hy : Bd y c d) (h0 : -1022 ≤ b - c) (h1 : b - c ≤ 1023) (hb : -1074 ≤ b) (hd : d ≤ 52) (hbd : -1074 - d ≥ -1022 ∨ 0 ≤ b) : ∃ r, double.div x y = some r ∧ r ≤ 9218868437227405312 := by
  have hyn : magR y ≠ 0 := (hy.ge.log (by decide)).1
  exact ⟨_, div_fin hx.fin hy.up.fin fun e => hyn (mag_zero.2 e), rung_top _ _⟩
/-- A quotient of floats of at least 0, the second one not 0, not both infinite. -/
theorem div_nn {x y : Nat} (hx : x < 9218868437227405312) (hy : y ≤ 9218868437227405312) (h0 : y ≠ 0) : ∃ r, double.div x y = some r ∧ r ≤ 9218868437227405312 := by
  rcases Nat.lt_or_eq_of_le hy with hy | rfl
  · exact ⟨_, div_fin hx hy h0, rung_top _ _⟩
  · refine ⟨0, ?_, by decide⟩
    unfold Format.div
    rw [read_fin hx, read_Inf]
    simp only [Datum.quotient, Option.map_some, Bool.xor_self, write_pos]
    rfl
theorem div_zero {y : Nat} (hy : y < 9218868437227405312) (h0 : y ≠ 0) : double.div 0 y = some 0 := by
  rw [div_fin (by decide) hy h0]
  have : quoN (magR 0) (magR y) (54 + (magR y).log2 - (magR 0).log2) = 0 := by
    unfold quoN
    rw [show magR 0 = 0 from rfl]
    simp
  rw [this]
  rfl
end Go.Proofs.Ytlelcmkbcejjkaa.Flt
