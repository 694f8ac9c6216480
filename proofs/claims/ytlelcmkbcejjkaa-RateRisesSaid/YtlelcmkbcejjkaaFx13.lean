/- Functions of the program as Lean functions, and the contracts by which the Go code comes to their answers, for every argument that can be read. Written by a program of this session over the print of the kit. -/
import Derived.Test.YtlelcmkbcejjkaaFx0
namespace Go.Proofs.Ytlelcmkbcejjkaa.F
open Go.RowKit Go.Proofs.YtlelcmkbcejjkaaW.PrintWords Go.Proofs.YtlelcmkbcejjkaaW.PrintLast Go.Proofs.YtlelcmkbcejjkaaW.PrintMore
attribute [local go_sem high] Go.Proofs.Ytlelcmkbcejjkaa.Less.str_leq Go.Proofs.Ytlelcmkbcejjkaa.Less.str_gtr Go.Proofs.Ytlelcmkbcejjkaa.Less.str_geq
attribute [local go_sem] max2_int min2_int max_two min_two max_three min_three max_four min_four   -- for this text's walks alone
set_option linter.unusedVariables false
set_option linter.unusedSimpArgs false

/-! ### soundingsref04_IsNone: function 5 -/
def soundingsref04_IsNone.f (a0 : Int) : Option (Bool) := if (Int.tmod (IntKind.u64.wrap (Int.tdiv a0 4503599627370496)) 2048) = 2047 then (some ((Int.tmod a0 4503599627370496) != 0)) else (some false)
set_option maxHeartbeats 8000000 in
set_option maxRecDepth 100000 in
theorem soundingsref04_IsNone.calls (a0 : Int) (r : Bool) (w : World) (h : soundingsref04_IsNone.f a0 = some r) :
    Calls Try.prog 5 #[.int .u64 a0] w fun e w' => e = .returned (.bool r) ∧ Drawn0 w w' := by
  have H : (if (Int.tmod (IntKind.u64.wrap (Int.tdiv a0 4503599627370496)) 2048) = 2047 then (some ((Int.tmod a0 4503599627370496) != 0)) else (some false)) = some r := h
  clear h
  by_cases c2 : (Int.tmod (IntKind.u64.wrap (Int.tdiv a0 4503599627370496)) 2048) = 2047
  · rw [if_pos c2] at H
    have c2b0 : ((Int.tmod (IntKind.u64.wrap (Int.tdiv a0 4503599627370496)) 2048) == 2047) = true := beq_iff_eq.mpr c2
    have c2b1 : ((Int.tmod (IntKind.u64.wrap (Int.tdiv a0 4503599627370496)) 2048) != 2047) = false := bne_eq_false_iff_eq.mpr c2
    clear c2
    obtain rfl := Option.some.inj H
    go_enter Try.func5, Try.ntmps5
    go_wp2
    go_ret
    exact ⟨by first | rfl | (simp; done) | (simp [*]; done), by repeat (first | exact Drawn0.refl _ | apply Drawn0.step)⟩
  · rw [if_neg c2] at H
    have c2b0 : ((Int.tmod (IntKind.u64.wrap (Int.tdiv a0 4503599627370496)) 2048) == 2047) = false := beq_eq_false_iff_ne.mpr c2
    have c2b1 : ((Int.tmod (IntKind.u64.wrap (Int.tdiv a0 4503599627370496)) 2048) != 2047) = true := bne_iff_ne.mpr c2
    obtain rfl := Option.some.inj H
    go_enter Try.func5, Try.ntmps5
    go_wp2
    go_ret
    exact ⟨by first | rfl | (simp; done) | (simp [*]; done), by repeat (first | exact Drawn0.refl _ | apply Drawn0.step)⟩

end Go.Proofs.Ytlelcmkbcejjkaa.F
