/- Get, in plain words. -/
import Derived.Test.YtmgbnnanophehabDoorLabAw
import Derived.Test.YtmgbnnanophehabDoorLx56
namespace Go.Proofs.YtmgbnnanophehabDoor.Lab
open Go.Proofs Go.RowKit Go.Proofs.YtmgbnnanophehabDoor.Cmp Go.Proofs.YtmgbnnanophehabDoorW.PrintWords Go.Proofs.YtmgbnnanophehabDoorW.PrintLast Go.Proofs.YtmgbnnanophehabDoor.L
set_option linter.unusedVariables false
set_option linter.unusedSimpArgs false
def getL : List Lb → ByteArray → ByteArray
  | [], _ => ⟨#[]⟩
  | x :: r, n => if x.f0 = n then x.f1 else getL r n
theorem get_l0 (l : List Lb) (n : ByteArray) (hl : l.length ≤ 9223372036854775807) (r : List Lb) : ∀ j : Nat, l.drop j = r → Lab.Ev (fun k => label_Get.l0 k n l (l.length : Int) (j : Int)) (getL r n) := by
  induction r with
  | nil =>
    intro j h
    have hj := List.drop_eq_nil_iff.1 h
    refine Lab.Ev.done fun k => ?_
    simp only [label_Get.l0]
    rw [if_neg (by omega)]; rfl
  | cons x r ih =>
    intro j h
    obtain ⟨hj, h2, hx, _⟩ := drop_cons h
    simp only [getL]
    by_cases he : x.f0 = n
    · rw [if_pos he]
      refine Lab.Ev.done fun k => ?_
      simp only [label_Get.l0]
      rw [if_pos (by omega), if_pos (by omega), if_pos (by omega), hx, if_pos ((toList_eq _ _).2 he)]
    · rw [if_neg he]
      refine (ih (j + 1) h2).step fun k => ?_
      simp only [label_Get.l0]
      rw [if_pos (by omega), if_pos (by omega), if_pos (by omega), hx, if_neg (fun e => he ((toList_eq _ _).1 e)), wrap_succ2 hj hl]
theorem get_ev (l : List Lb) (n : ByteArray) (hl : l.length ≤ 9223372036854775807) : Lab.Ev (fun k => label_Get.f k l n) (getL l n) := get_l0 l n hl l 0 rfl
theorem keep_is (l : List Lb) (names : List ByteArray) (h : l.length ≤ 900) : label_Keep.f l names = some (keepL l names) := by unfold label_Keep.f; rw [if_pos (by omega)]
theorem drop_is (l : List Lb) (names : List ByteArray) (h : l.length ≤ 900) : label_Drop.f l names = some (dropL l names) := by unfold label_Drop.f; rw [if_pos (by omega)]
end Go.Proofs.YtmgbnnanophehabDoor.Lab
