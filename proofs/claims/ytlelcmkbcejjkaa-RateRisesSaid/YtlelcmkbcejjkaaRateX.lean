/- Contracts of value.Norm, soundingsref04.Float, math.IsInf and the closure of rate.Grow, over seat a. -/
import Derived.Test.YtlelcmkbcejjkaaRateW
open Go.Proofs
namespace Go.Proofs.Ytlelcmkbcejjkaa.F
set_option linter.unusedVariables false
set_option linter.unusedSimpArgs false
theorem float_calls (v : Int) (W : World) :
    Calls Try.prog 6 #[.int .u64 v] W fun e w' => e = .returned (.float .f64 v.toNat) ∧ w' = W := by
  go_enter Try.func6, Try.ntmps6
  go_wp2
  go_ret
  exact ⟨rfl, rfl⟩
theorem isinf_calls (x : Nat) (hx : x ≤ 9218868437227405312) (W : World) :
    Calls Try.prog 7 #[.float .f64 x, .int .i64 1] W fun e w' => e = .returned (.bool (decide (9218868437227405311 < x))) ∧ w' = W := by
  have hl := less_nn (y := 9218868437227405311) hx (by decide)
  have hg : (FloatKind.f64.format.order x 9218868437227405311 == some Ordering.gt) = decide (9218868437227405311 < x) := by
    rw [show FloatKind.f64.format.order x 9218868437227405311 = Ieee.double.order x 9218868437227405311 from rfl, Flt.order_nn hx (by decide)]
    by_cases h : 9218868437227405311 < x
    · rw [Nat.compare_eq_gt.2 h]; simp [h]
    · have := mt Nat.compare_eq_gt.1 h
      cases hc : compare x 9218868437227405311 <;> simp_all
  clear hl
  go_enter Try.func7, Try.ntmps7
  go_wp2
  go_ret
  rw [← hg]
  exact ⟨rfl, rfl⟩
theorem norm_calls (x : Nat) (hx : x ≤ 9218868437227405312) (W : World) :
    Calls Try.prog 19 #[.int .u64 x] W fun e w' => e = .returned (.int .u64 x) ∧ w' = W := by
  have ho : FloatKind.f64.format.order x x = some .eq := by
    rw [show FloatKind.f64.format.order x x = Ieee.double.order x x from rfl, Flt.order_nn hx hx]; simp
  go_enter Try.func19, Try.ntmps19
  go_wp2
  all_goals first | (exact absurd ho ‹¬ _›) | (go_ret; exact ⟨rfl, rfl⟩)
theorem more_calls (bm bl bh : Nat) (most half mean long x r : Nat) (hx : x ≤ 9218868437227405312) (hm : most ≤ 9218868437227405312) (W : World)
    (h1 : W.cell? ⟨bm, 0, none⟩ = some (.float .f64 most)) (h2 : W.cell? ⟨bl, 0, none⟩ = some (.float .f64 long)) (h3 : W.cell? ⟨bh, 0, none⟩ = some (.float .f64 mean)) (hf : W.frozen? ⟨bl, 0, none⟩ = false)
    (hh : Ieee.double.div mean 4611686018427387904 = some half) (hr : Flt.moreO most half x long = some r) :
    Calls Try.prog 18 #[.float .f64 x, .pointer (some ⟨bm, 0, none⟩), .pointer (some ⟨bl, 0, none⟩), .pointer (some ⟨bh, 0, none⟩)] W fun e w' => e = .returned (.tuple #[]) ∧ w' = W.setCell ⟨bl, 0, none⟩ (.float .f64 r) := by
  have hl := less_nn hm hx
  have hq : floatBits .quo .f64 mean 4611686018427387904 = some half := hh
  unfold Flt.moreO at hr
  go_enter Try.func18, Try.ntmps18
  by_cases h : x < most
  · rw [decide_eq_true h] at hl
    rw [if_pos h] at hr
    have ha : floatBits .add .f64 long x = some r := hr
    go_wp2
    all_goals first | (simp_all; done) | skip
    rw [run_float_arith _ _ _ _ _ _ _ ha]
    go_wp2
    have hs : (store ⟨bl, 0, none⟩ (.float .f64 r)).run Try.prog W = .ok () (W.setCell ⟨bl, 0, none⟩ (.float .f64 r)) := by
      rw [run_store _ _ _ _ _ rfl, h2]; simp [hf]
    rw [hs]
    go_wp2
    go_end0
    exact ⟨rfl, rfl⟩
  · rw [decide_eq_false h] at hl
    rw [if_neg h] at hr
    have ha : floatBits .add .f64 long half = some r := hr
    go_wp2
    all_goals first | (simp_all; done) | skip
    rw [run_float_arith _ _ _ _ _ _ _ hq]
    go_wp2
    rw [run_float_arith _ _ _ _ _ _ _ ha]
    go_wp2
    have hs : (store ⟨bl, 0, none⟩ (.float .f64 r)).run Try.prog W = .ok () (W.setCell ⟨bl, 0, none⟩ (.float .f64 r)) := by
      rw [run_store _ _ _ _ _ rfl, h2]; simp [hf]
    rw [hs]
    go_wp2
    go_end0
    exact ⟨rfl, rfl⟩
theorem more_nn {x y : Nat} (hx : x ≤ 9218868437227405312) (hy : y ≤ 9218868437227405312) : (FloatKind.f64.format.order x y == some Ordering.gt) = decide (y < x) := by
  rw [show FloatKind.f64.format.order x y = Ieee.double.order x y from rfl, Flt.order_nn hx hy]
  by_cases h : y < x
  · rw [Nat.compare_eq_gt.2 h]; simp [h]
  · have := mt Nat.compare_eq_gt.1 h
    cases hc : compare x y <;> simp_all
theorem geq_zero {x : Nat} (hx : x ≤ 9218868437227405312) : (FloatKind.f64.format.order x 0 == some Ordering.gt || FloatKind.f64.format.order x 0 == some Ordering.eq) = true := by
  rw [show FloatKind.f64.format.order x 0 = Ieee.double.order x 0 from rfl, Flt.order_nn hx (by decide)]
  rcases Nat.eq_zero_or_pos x with h | h
  · subst h; rfl
  · rw [Nat.compare_eq_gt.2 h]; rfl
end Go.Proofs.Ytlelcmkbcejjkaa.F
