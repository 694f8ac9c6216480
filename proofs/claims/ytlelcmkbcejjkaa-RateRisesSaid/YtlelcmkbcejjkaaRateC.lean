/- rate.Grow's chain of numbers, plain: what it multiplies by is finite and above 0. -/
import Derived.Test.YtlelcmkbcejjkaaRateS
namespace Go.Proofs.Ytlelcmkbcejjkaa.Flt
open Ieee
set_option linter.unusedVariables false
theorem Up.under {x y : Nat} {b : Int} (h : x ≤ y) (k : Up y b) : Up x b :=
  ⟨by have := k.1; omega, (le_of_rung (by have := k.1; omega) (by have := k.1; omega) h).trans k.2⟩
theorem two : Bd 4611686018427387904 1 1 := by
  have hm : magR 4611686018427387904 = 4503599627370496 := by decide
  have hp : placeR 4611686018427387904 = -51 := by decide
  refine ⟨⟨by decide, ?_⟩, ?_⟩
  · rw [hm, hp]; exact Le.of 0 52 (by omega) (by decide)
  · rw [hm, hp]; exact Le.of 52 0 (by omega) (by decide)
/-- One step of the closure. -/
def moreO (most half x long : Nat) : Option Nat := if x < most then double.add long x else double.add long half
theorem more_bd {long x half : Nat} {a b : Int} (most : Nat) (hl : Bd long a b) (hx : Up x b) (hh : Up half b) (h0 : -1022 ≤ a) (h1 : b + 1 ≤ 1023) :
    ∃ r, moreO most half x long = some r ∧ Bd r a (b + 1) := by
  unfold moreO
  split
  · exact add_bd hl hx h0 h1
  · exact add_bd hl hh h0 h1
/-- The chain from the seconds to what the growth is multiplied by. -/
theorem part_bd {span begin rest total n : Nat} (hs : Bd span (-10) 45) (hb : Up begin 45) (hr : Up rest 45) (ht : Bd total (-10) 45) (h0 : 1 ≤ n) (h1 : n ≤ 2 ^ 54) :
    ∃ mean half most l1 l2 p q, double.div span (rung n 0) = some mean ∧ double.div mean 4611686018427387904 = some half ∧ double.mul mean 4607632778762754458 = some most ∧
      most ≤ 9218868437227405312 ∧ moreO most half begin span = some l1 ∧ moreO most half rest l1 = some l2 ∧ double.div l2 span = some p ∧ double.div p total = some q ∧
      (Bd mean (-64) 45 ∧ Bd half (-65) 44 ∧ Bd l1 (-10) 46 ∧ Bd l2 (-10) 47 ∧ Bd p (-55) 57 ∧ Bd q (-100) 67) := by
  obtain ⟨mean, e1, b1⟩ := div_bd hs (int_bd n h0 h1) (by omega) (by omega)
  obtain ⟨half, e2, b2⟩ := div_bd b1 two (by omega) (by omega)
  obtain ⟨most, e3, b3⟩ := mul_nn (x := mean) (y := 4607632778762754458) (Nat.le_of_lt b1.1.1) (by decide) (fun h => by decide) (fun h => absurd h (by decide))
  obtain ⟨l1, e4, b4⟩ := more_bd most hs hb (b2.1.mono (by omega)) (by omega) (by omega)
  obtain ⟨l2, e5, b5⟩ := more_bd most b4 (hr.mono (by omega)) (b2.1.mono (by omega)) (by omega) (by omega)
  obtain ⟨p, e6, b6⟩ := div_bd b5 hs (by omega) (by omega)
  obtain ⟨q, e7, b7⟩ := div_bd b6 ht (by omega) (by omega)
  exact ⟨mean, half, most, l1, l2, p, q, e1, e2, e3, b3, e4, e5, e6, e7, by simpa using b1, by simpa using b2, by simpa using b4, by simpa using b5, by simpa using b6, by simpa using b7⟩
/-- The growth times the part: a number, not below 0. -/
theorem grown {g p : Nat} {a b : Int} (hg : g ≤ 9218868437227405312) (hp : Bd p a b) : ∃ r, double.mul g p = some r ∧ r ≤ 9218868437227405312 :=
  mul_nn hg (Nat.le_of_lt hp.1.1) (fun _ => by have := hp.pos; omega) (fun h => absurd h (by have := hp.1.1; omega))
/-- The smaller begin: of(first)/g times span; no more than begin, so bounded as begin is. -/
theorem begin_bd {begin span f g : Nat} {a b : Int} (hb : Up begin 45) (hs : Bd span a b) (hf : f < 9218868437227405312) (hg : g ≤ 9218868437227405312) (h0 : g ≠ 0) :
    ∃ d t, double.div f g = some d ∧ double.mul span d = some t ∧ t ≤ 9218868437227405312 ∧ Up (if t < begin then t else begin) 45 := by
  obtain ⟨d, e1, b1⟩ := div_nn hf hg h0
  obtain ⟨t, e2, b2⟩ := mul_nn (x := span) (y := d) (Nat.le_of_lt hs.1.1) b1 (fun h => absurd h (by have := hs.1.1; omega)) (fun _ => by have := hs.pos; omega)
  refine ⟨d, t, e1, e2, b2, ?_⟩
  split
  · exact Up.under (by omega) hb
  · exact hb
end Go.Proofs.Ytlelcmkbcejjkaa.Flt
