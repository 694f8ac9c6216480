/- Contracts of rate's small functions of floats, over seat a. -/
import Derived.Test.YtlelcmkbcejjkaaRateC
import Derived.Test.YtlelcmkbcejjkaaProg
import Derived.Laws.Externs
import Derived.Laws.EntriesVeiled
import Derived.Lib.Hide
import Derived.Deep.LoopGhost
import Derived.Shelf.Abstract
import Derived.Tactics2
import Derived.Laws.FloatArith
open Go.Proofs
namespace Go.Proofs.Ytlelcmkbcejjkaa.F
set_option linter.unusedVariables false
set_option linter.unusedSimpArgs false

@[go_sem] theorem frombits_call (n : Int) (w : World) : (callFunc 10 #[.int .u64 n]).run Try.prog w = .ok (.value (.float .f64 n.toNat)) w := by
  rw [run_callFunc_extern Try.func10 (e := Extern.MathFloatBits.float64frombits) (by kernel_rfl) (by kernel_rfl) (by kernel_rfl) (by kernel_rfl)]; rfl
@[go_sem] theorem bits_call (b : Nat) (w : World) : (callFunc 9 #[.float .f64 b]).run Try.prog w = .ok (.value (.int .u64 b)) w := by
  rw [run_callFunc_extern Try.func9 (e := Extern.MathFloatBits.float64bits) (by kernel_rfl) (by kernel_rfl) (by kernel_rfl) (by kernel_rfl)]; rfl

theorem less_nn {x y : Nat} (hx : x ≤ 9218868437227405312) (hy : y ≤ 9218868437227405312) : (FloatKind.f64.format.order y x == some Ordering.lt) = decide (y < x) := by
  rw [show FloatKind.f64.format.order y x = Ieee.double.order y x from rfl, Flt.order_nn hy hx]
  by_cases h : y < x
  · rw [Nat.compare_eq_lt.2 h]; simp [h]
  · have := mt Nat.compare_eq_lt.1 h
    cases hc : compare y x <;> simp_all
theorem least_calls (x y : Nat) (hx : x ≤ 9218868437227405312) (hy : y ≤ 9218868437227405312) (W : World) :
    Calls Try.prog 16 #[.float .f64 x, .float .f64 y] W fun e w' => e = .returned (.float .f64 (if y < x then y else x)) ∧ w' = W := by
  have hl := less_nn hx hy
  go_enter Try.func16, Try.ntmps16
  by_cases h : y < x
  · rw [decide_eq_true h] at hl
    go_wp2
    all_goals first | (simp_all; done) | (go_ret; simp_all)
  · rw [decide_eq_false h] at hl
    go_wp2
    all_goals first | (simp_all; done) | (go_ret; simp_all)
theorem times_calls (x y r : Nat) (h : Ieee.double.mul x y = some r) (W : World) :
    Calls Try.prog 17 #[.float .f64 x, .float .f64 y] W fun e w' => e = .returned (.float .f64 r) ∧ w' = W := by
  have h1 : floatBits .mul .f64 x y = some r := h
  go_enter Try.func17, Try.ntmps17
  go_wp2
  rw [run_float_arith _ _ _ _ _ _ _ h1]
  go_wp2
  go_ret
  exact ⟨rfl, rfl⟩
theorem seconds_calls (a b : Int) (ha : -4503599627370496 ≤ a ∧ a ≤ 4503599627370496) (hb : -4503599627370496 ≤ b ∧ b ≤ 4503599627370496) (n r : Nat) (hn : b - a = n) (h : Flt.secO n = some r) (W : World) :
    Calls Try.prog 14 #[.int .i64 a, .int .i64 b] W fun e w' => e = .returned (.float .f64 r) ∧ w' = W := by
  have h1 : floatBits .quo .f64 (Go.floatOfInt .f64 (b - a)) 4652007308841189376 = some r := by rw [hn, Flt.int_of]; exact h
  clear h hn
  go_enter Try.func14, Try.ntmps14
  go_wp2
  rw [show (b - a + 9223372036854775808) % 18446744073709551616 - 9223372036854775808 = b - a by omega, run_float_arith _ _ _ _ _ _ _ h1]
  go_wp2
  go_ret
  exact ⟨rfl, rfl⟩
theorem of_calls (t v : Int) (W : World) :
    Calls Try.prog 15 #[.agg #[.int .i64 t, .int .u64 v]] W fun e w' => e = .returned (.float .f64 v.toNat) ∧ w' = W.alloc (.cells #[.int .i64 t, .int .u64 v] 28) := by
  go_enter Try.func15, Try.ntmps15
  go_wp2
  go_ret
  exact ⟨rfl, rfl⟩
theorem isnan_calls (x : Nat) (hx : x ≤ 9218868437227405312) (W : World) :
    Calls Try.prog 20 #[.float .f64 x] W fun e w' => e = .returned (.bool false) ∧ w' = W := by
  have ho : FloatKind.f64.format.order x x = some .eq := by
    rw [show FloatKind.f64.format.order x x = Ieee.double.order x x from rfl, Flt.order_nn hx hx]; simp
  go_enter Try.func20, Try.ntmps20
  go_wp2
  go_ret
  simp [ho]
end Go.Proofs.Ytlelcmkbcejjkaa.F
