/- Functions of the program as Lean functions, and the contracts by which the Go code comes to their answers, for every argument that can be read. Written by a program of this session over the print of the kit. -/
import Derived.Test.YtlelcmkbcejjkaaDoorLx0
namespace Go.Proofs.YtlelcmkbcejjkaaDoor.L
open Go.RowKit Go.Proofs.YtlelcmkbcejjkaaDoorW.PrintWords Go.Proofs.YtlelcmkbcejjkaaDoorW.PrintLast Go.Proofs.YtlelcmkbcejjkaaDoorW.PrintMore
attribute [local go_sem high] Go.Proofs.YtlelcmkbcejjkaaDoor.Less.str_leq Go.Proofs.YtlelcmkbcejjkaaDoor.Less.str_gtr Go.Proofs.YtlelcmkbcejjkaaDoor.Less.str_geq
attribute [local go_sem] max2_int min2_int max_two min_two max_three min_three max_four min_four   -- for this text's walks alone
set_option linter.unusedVariables false
set_option linter.unusedSimpArgs false

theorem eqA67 (d : Nat) (w : World) (x0 y0 : ByteArray) (x1 y1 : ByteArray) :
    (Op.equalIn (d + 2) 67 (.agg #[.string x0, .string x1]) (.agg #[.string y0, .string y1])).run Tryd.prog w = .ok (x0.toList == y0.toList && (x1.toList == y1.toList)) w := by
  refine eqA_of Tryd.underlying67 (by kernel_rfl) ?_
  refine eqf_cons (by rfl) (by go_simp; rfl) (by go_simp; rfl) (by go_simp) ?_
  exact eqf_last (by rfl) (by go_simp; rfl) (by go_simp; rfl) (by go_simp)
end Go.Proofs.YtlelcmkbcejjkaaDoor.L
