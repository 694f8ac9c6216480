/- The answers that the document fixes. -/
import Derived.Test.YtmgbnnanophehabDoorLabL
import Derived.Test.YtmgbnnanophehabDoorLx42
namespace Go.Proofs.YtmgbnnanophehabDoor.Lab
open Go.Proofs Go.RowKit Go.Proofs.YtmgbnnanophehabDoor.Cmp Go.Proofs.YtmgbnnanophehabDoorW.PrintWords Go.Proofs.YtmgbnnanophehabDoorW.PrintLast Go.Proofs.YtmgbnnanophehabDoor.L
set_option linter.unusedVariables false
set_option linter.unusedSimpArgs false
/-! ### the answers that the document fixes -/
def la : Lb := ⟨⟨#[97]⟩, ⟨#[49]⟩⟩
def lb : Lb := ⟨⟨#[98]⟩, ⟨#[50]⟩⟩
def lc : Lb := ⟨⟨#[99]⟩, ⟨#[]⟩⟩
def l2 : Lb := ⟨⟨#[50, 98]⟩, ⟨#[50]⟩⟩
theorem awake1 : mkL mayB [lb, la, lc] = ([la, lb], none) := by
  refine mk_yes ⟨fun y hy => ?_, ?_⟩ ?_ ?_ (by decide)
  · simp only [List.mem_cons, List.mem_nil_iff, or_false] at hy
    rcases hy with rfl | rfl | rfl <;> decide +kernel
  · rw [List.pairwise_cons, List.pairwise_cons]
    refine ⟨fun y hy => ?_, fun y hy => ?_, by simp⟩
    · simp only [List.mem_cons, List.mem_nil_iff, or_false] at hy
      rcases hy with rfl | rfl <;> decide
    · simp only [List.mem_cons, List.mem_nil_iff, or_false] at hy
      rcases hy with rfl; decide
  · have f1 : full lb = true := by decide
    have f2 : full la = true := by decide
    have f3 : full lc = false := by decide
    have : [lb, la, lc].filter full = [lb, la] := by simp [List.filter_cons, f1, f2, f3]
    rw [this]
    exact List.Perm.swap _ _ _
  · unfold SN
    rw [List.pairwise_cons]
    refine ⟨fun y hy => ?_, by simp⟩
    simp only [List.mem_cons, List.mem_nil_iff, or_false] at hy
    rcases hy with rfl; decide
theorem awake2 : mkL mayB [l2] = ([], some 1) := mk_no (Or.inl fun g => by
  have := g.1 l2 (by simp)
  have h2 : mayB l2 = false := by decide +kernel
  rw [h2] at this; cases this)
theorem awake_ev : Lab.Ev (fun k => soundingslaw01_awake.f k) true := by
  have n1 := name_ev ⟨#[95, 49]⟩
  have n2 := name_ev ⟨#[49, 95]⟩
  rw [show nameB ⟨#[95, 49]⟩ = true by decide +kernel] at n1
  rw [show nameB ⟨#[49, 95]⟩ = false by decide +kernel] at n2
  obtain ⟨K1, h1⟩ := n1
  obtain ⟨K2, h2⟩ := n2
  have m1 : label_Make.f [lb, la, lc] = some ([la, lb], none) := by unfold label_Make.f; rw [if_pos (by decide), awake1]
  have m2 : label_Make.f [l2] = some ([], some 1) := by unfold label_Make.f; rw [if_pos (by decide), awake2]
  refine ⟨max K1 K2, fun k hk => ?_⟩
  unfold soundingslaw01_awake.f
  show (label_Make.f [lb, la, lc]).bind _ = _
  rw [m1]
  simp only [Option.bind_some]
  show (label_Make.f [l2]).bind _ = _
  rw [m2]
  simp only [Option.bind_some, Option.isNone_none, if_true]
  rw [if_pos (by rfl), if_pos (by decide), if_pos (by rw [Lib.toList_data, Lib.toList_data]; decide)]
  show (some (1 : Int)).bind _ = _
  simp only [Option.bind_some, if_true]
  rw [show label_IsName.f k ⟨#[95, 49]⟩ = some true from h1 k (by omega)]
  simp only [Option.bind_some, if_true]
  rw [show label_IsName.f k ⟨#[49, 95]⟩ = some false from h2 k (by omega)]
  rfl
theorem ord_ls : Ord3 (cmpLs ordL) := ord_lb.list
theorem make_is (l : List Lb) (h : l.length ≤ 900) : label_Make.f l = some (mkL mayB l) := by
  unfold label_Make.f; rw [if_pos (by omega)]
theorem code_one : soundingslaw01_Code.f (some 1) = some 1 := rfl
theorem code_nil : soundingslaw01_Code.f none = some 0 := rfl
end Go.Proofs.YtmgbnnanophehabDoor.Lab
