/- The reference's right labels are the program's. -/
import Derived.Test.YtmgbnnanophehabDoorLabL
import Derived.Test.YtmgbnnanophehabDoorLx50
namespace Go.Proofs.YtmgbnnanophehabDoor.Lab
open Go.Proofs Go.RowKit Go.Proofs.YtmgbnnanophehabDoor.Cmp Go.Proofs.YtmgbnnanophehabDoorW.PrintWords Go.Proofs.YtmgbnnanophehabDoorW.PrintLast Go.Proofs.YtmgbnnanophehabDoor.L
set_option linter.unusedVariables false
set_option linter.unusedSimpArgs false
theorem refright_l0 (l : List Lb) (hs : l.length < 4611686018427387904) (hz : ∀ x ∈ l, x.f0.size ≤ 400 ∧ x.f1.size ≤ 400) (r : List Lb) : ∀ j : Nat, l.drop j = r → Lab.Ev (fun k => soundingsref01_Right.l0 k l (j : Int)) (rightFrom mayB (prevN l j) r && decide (l.length ≤ 16)) := by
  induction r with
  | nil =>
    intro j h
    have hj := List.drop_eq_nil_iff.1 h
    refine Lab.Ev.done fun k => ?_
    simp only [soundingsref01_Right.l0]
    rw [if_neg (by omega), rightFrom, Bool.true_and]
    exact congrArg some (decide_eq_decide.2 (by omega))
  | cons x r ih =>
    intro j h
    obtain ⟨hj, h2, hx, hjx⟩ := drop_cons h
    have h3 := ih (j + 1) h2
    have hjg : l[j] = x := by rw [List.getElem?_eq_getElem hj] at hjx; exact Option.some.inj hjx
    rw [prevN_succ l j hj, hjg] at h3
    have hxz := hz x (by rw [← hjg]; exact List.getElem_mem hj)
    have hn := refname_ev x.f0 (by omega)
    have hv := refval_ev x.f1
    have step1 : ∀ X, (nameB x.f0 = false → X = false) → (nameB x.f0 = true → Lab.Ev (fun k => (soundingsref01_IsValue.f k x.f1).bind fun t191 => (if t191 = true then (if (x.f1).toList = ([] : List UInt8) then (some false) else (if (j : Int) > 0 then (if 0 ≤ (wrap64 ((j : Int) - 1)) then (if (wrap64 ((j : Int) - 1)) < (l.length : Int) then (if ((Op.bytesLess (((rd_T36 l (wrap64 ((j : Int) - 1))).f0).toList) ((x.f0).toList)) = true) then (soundingsref01_Right.l0 k l (wrap64 ((j : Int) + 1))) else (some false)) else (none)) else (none)) else (soundingsref01_Right.l0 k l (wrap64 ((j : Int) + 1))))) else (some false))) X) → Lab.Ev (fun k => soundingsref01_Right.l0 k l (j : Int)) X := by
      intro X hf ht
      cases hb : nameB x.f0 with
      | false =>
        rw [hb] at hn
        rw [hf hb]
        refine Lab.Ev.ask (g := fun t k => if t = true then ((soundingsref01_IsValue.f k x.f1).bind fun t191 => (if t191 = true then (if (x.f1).toList = ([] : List UInt8) then (some false) else (if (j : Int) > 0 then (if 0 ≤ (wrap64 ((j : Int) - 1)) then (if (wrap64 ((j : Int) - 1)) < (l.length : Int) then (if ((Op.bytesLess (((rd_T36 l (wrap64 ((j : Int) - 1))).f0).toList) ((x.f0).toList)) = true) then (soundingsref01_Right.l0 k l (wrap64 ((j : Int) + 1))) else (some false)) else (none)) else (none)) else (soundingsref01_Right.l0 k l (wrap64 ((j : Int) + 1))))) else (some false))) else some false) hn Lab.Ev.const (fun k => ?_) (fun k => rfl)
        simp only [soundingsref01_Right.l0]
        rw [if_pos (by omega), if_pos (by omega), hx]
      | true =>
        rw [hb] at hn
        refine Lab.Ev.ask (g := fun t k => if t = true then ((soundingsref01_IsValue.f k x.f1).bind fun t191 => (if t191 = true then (if (x.f1).toList = ([] : List UInt8) then (some false) else (if (j : Int) > 0 then (if 0 ≤ (wrap64 ((j : Int) - 1)) then (if (wrap64 ((j : Int) - 1)) < (l.length : Int) then (if ((Op.bytesLess (((rd_T36 l (wrap64 ((j : Int) - 1))).f0).toList) ((x.f0).toList)) = true) then (soundingsref01_Right.l0 k l (wrap64 ((j : Int) + 1))) else (some false)) else (none)) else (none)) else (soundingsref01_Right.l0 k l (wrap64 ((j : Int) + 1))))) else (some false))) else some false) hn (ht hb) (fun k => ?_) (fun k => if_pos rfl)
        simp only [soundingsref01_Right.l0]
        rw [if_pos (by omega), if_pos (by omega), hx]
    refine step1 _ (fun hb => ?_) (fun hb => ?_)
    · simp only [rightFrom, mayB, hb, Bool.false_and]
    · cases hvb : valB x.f1 with
      | false =>
        rw [hvb] at hv
        simp only [rightFrom, mayB, hvb, Bool.and_false, Bool.false_and]
        exact Lab.Ev.ask0 (g := fun t k => (if t = true then (if (x.f1).toList = ([] : List UInt8) then (some false) else (if (j : Int) > 0 then (if 0 ≤ (wrap64 ((j : Int) - 1)) then (if (wrap64 ((j : Int) - 1)) < (l.length : Int) then (if ((Op.bytesLess (((rd_T36 l (wrap64 ((j : Int) - 1))).f0).toList) ((x.f0).toList)) = true) then (soundingsref01_Right.l0 k l (wrap64 ((j : Int) + 1))) else (some false)) else (none)) else (none)) else (soundingsref01_Right.l0 k l (wrap64 ((j : Int) + 1))))) else (some false))) hv Lab.Ev.const (fun k => rfl) (fun k => rfl)
      | true =>
        rw [hvb] at hv
        have key : ∀ X, Lab.Ev (fun k => (if (x.f1).toList = ([] : List UInt8) then (some false) else (if (j : Int) > 0 then (if 0 ≤ (wrap64 ((j : Int) - 1)) then (if (wrap64 ((j : Int) - 1)) < (l.length : Int) then (if ((Op.bytesLess (((rd_T36 l (wrap64 ((j : Int) - 1))).f0).toList) ((x.f0).toList)) = true) then (soundingsref01_Right.l0 k l (wrap64 ((j : Int) + 1))) else (some false)) else (none)) else (none)) else (soundingsref01_Right.l0 k l (wrap64 ((j : Int) + 1)))))) X → Lab.Ev (fun k => (soundingsref01_IsValue.f k x.f1).bind fun t191 => (if t191 = true then (if (x.f1).toList = ([] : List UInt8) then (some false) else (if (j : Int) > 0 then (if 0 ≤ (wrap64 ((j : Int) - 1)) then (if (wrap64 ((j : Int) - 1)) < (l.length : Int) then (if ((Op.bytesLess (((rd_T36 l (wrap64 ((j : Int) - 1))).f0).toList) ((x.f0).toList)) = true) then (soundingsref01_Right.l0 k l (wrap64 ((j : Int) + 1))) else (some false)) else (none)) else (none)) else (soundingsref01_Right.l0 k l (wrap64 ((j : Int) + 1))))) else (some false))) X := fun X hX =>
          Lab.Ev.ask0 (g := fun t k => (if t = true then (if (x.f1).toList = ([] : List UInt8) then (some false) else (if (j : Int) > 0 then (if 0 ≤ (wrap64 ((j : Int) - 1)) then (if (wrap64 ((j : Int) - 1)) < (l.length : Int) then (if ((Op.bytesLess (((rd_T36 l (wrap64 ((j : Int) - 1))).f0).toList) ((x.f0).toList)) = true) then (soundingsref01_Right.l0 k l (wrap64 ((j : Int) + 1))) else (some false)) else (none)) else (none)) else (soundingsref01_Right.l0 k l (wrap64 ((j : Int) + 1))))) else (some false))) hv hX (fun k => rfl) (fun k => if_pos rfl)
        refine key _ ?_
        simp only [rightFrom, mayB, hb, hvb, Bool.true_and]
        cases hf : full x with
        | false =>
          simp only [Bool.false_and]
          exact Lab.Ev.const.eq fun k => if_pos ((full_is x).2 hf)
        | true =>
          have hne : ¬ x.f1.toList = ([] : List UInt8) := fun e => by have := (full_is x).1 e; rw [hf] at this; cases this
          rw [Bool.true_and, wrap_succ hj hs]
          cases j with
          | zero =>
            simp only [prevN, Bool.true_and]
            refine h3.eq fun k => ?_
            rw [if_neg hne, if_neg (by omega)]
          | succ i =>
            rw [prevN_succ l i (by omega)]
            simp only
            have hw : wrap64 (((i + 1 : Nat) : Int) - 1) = (i : Int) := by rw [wrap_pred (by omega) (by omega)]; rfl
            have hy : rd_T36 l (i : Int) = l[i] := lb_rd l i (by omega)
            rw [hw, hy]
            by_cases hc : cmpS l[i].f0 x.f0 < 0
            · rw [decide_eq_true hc, Bool.true_and]
              refine h3.eq fun k => ?_
              rw [if_neg hne, if_pos (by omega), if_pos (by omega), if_pos (by omega), if_pos (by rw [less_is]; exact decide_eq_true hc)]
            · rw [decide_eq_false hc, Bool.false_and, Bool.false_and]
              refine Lab.Ev.const.eq fun k => ?_
              rw [if_neg hne, if_pos (by omega), if_pos (by omega), if_pos (by omega), if_neg (by rw [less_is]; simpa using hc)]
theorem refright_ev (l : List Lb) (hs : l.length < 4611686018427387904) (hz : ∀ x ∈ l, x.f0.size ≤ 400 ∧ x.f1.size ≤ 400) : Lab.Ev (fun k => soundingsref01_Right.f k l) (rightB mayB l) := refright_l0 l hs hz l 0 rfl
end Go.Proofs.YtmgbnnanophehabDoor.Lab
