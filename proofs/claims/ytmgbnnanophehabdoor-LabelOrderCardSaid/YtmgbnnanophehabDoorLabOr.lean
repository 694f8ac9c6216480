/- The law LabelOrder, in plain words. -/
import Derived.Test.YtmgbnnanophehabDoorLabQ
import Derived.Test.YtmgbnnanophehabDoorLx55
namespace Go.Proofs.YtmgbnnanophehabDoor.Lab
open Go.Proofs Go.RowKit Go.Proofs.YtmgbnnanophehabDoor.Cmp Go.Proofs.YtmgbnnanophehabDoorW.PrintWords Go.Proofs.YtmgbnnanophehabDoorW.PrintLast Go.Proofs.YtmgbnnanophehabDoor.L
set_option linter.unusedVariables false
set_option linter.unusedSimpArgs false
/-- The labels from the end on. -/
theorem back_l0 (a b c : List Lb) (ha : a.length ≤ 900) (X : Bool) (hE : Lab.Ev (fun k => soundingslaw01_LabelOrder.l0 k a b c a.reverse (-1)) X) : ∀ n : Nat, n ≤ a.length → Lab.Ev (fun k => soundingslaw01_LabelOrder.l0 k a b c (a.reverse.take (a.length - n)) ((n : Int) - 1)) X := by
  intro n
  induction n with
  | zero =>
    intro _
    rw [Nat.sub_zero, List.take_of_length_le (by simp)]
    exact hE
  | succ n ih =>
    intro hn
    have hx : rd_T36 a (n : Int) = a[n] := lb_rd a n (by omega)
    refine (ih (by omega)).step fun k => ?_
    rw [show ((n + 1 : Nat) : Int) - 1 = (n : Int) by omega]
    simp only [soundingslaw01_LabelOrder.l0]
    rw [if_pos (by omega), if_pos (by omega), if_pos (by omega), if_pos (by rw [List.length_take]; omega), hx, show wrap64 ((n : Int) - 1) = (n : Int) - 1 by unfold wrap64; omega]
    have e : a.reverse.take (a.length - n) = a.reverse.take (a.length - (n + 1)) ++ [a[n]] := by
      rw [show a.length - n = a.length - (n + 1) + 1 by omega, List.take_succ_eq_append_getElem (by rw [List.length_reverse]; omega), List.getElem_reverse]
      congr 2
      congr 1
      omega
    rw [e]
theorem neg_wrap {x : Int} (h : x = -1 ∨ x = 0 ∨ x = 1) : wrap64 (-x) = -x := by unfold wrap64; omega
theorem labelOrder_pure (a b c : List S36) (ha : a.length ≤ 9223372036854775807) (hb : b.length ≤ 9223372036854775807) (hc : c.length ≤ 9223372036854775807) : ∃ k, soundingslaw01_LabelOrder.f k a b c = some true := by
  have hA := short_ev a ha
  have hB := short_ev b hb
  have hC := short_ev c hc
  have hj : Lab.Ev (fun k => soundingslaw01_LabelOrder.j0 k a b c true) true := Lab.Ev.done fun k => by simp only [soundingslaw01_LabelOrder.j0]; rw [if_pos trivial]
  have key : shortB a = true → Lab.Ev (fun k => soundingslaw01_LabelOrder.j0 k a b c false) true := by
    intro hsa
    obtain ⟨hl40, hz⟩ := short_spec hsa
    have hm := mk_perm (may := mayB) (List.reverse_perm a)
    have hlen : (mkL mayB a).1.length ≤ 40 := by
      rcases mk_cases (may := mayB) a with ⟨o, e, _, hp, _, h16, _⟩ | ⟨e, _⟩
      · rw [e]; show o.length ≤ 40; omega
      · rw [e]; simp
    have hcc := refcmp_ev (mkL mayB a).1 (mkL mayB a).1 (by omega)
    rw [ord_ls.refl] at hcc
    have hj2 : Lab.Ev (fun k => soundingslaw01_LabelOrder.j2 k a b c false) true := Lab.Ev.done fun k => by
      simp only [soundingslaw01_LabelOrder.j2]
      rw [if_neg (by decide)]
      simp only [label_Cmp.f, Option.bind_some]
      have r1 := ord_ls.rng a b
      have r2 := ord_ls.rng b c
      have r3 := ord_ls.rng a c
      have f1 := ord_ls.flip a b
      have t1 : cmpLs ordL a b < 0 ∨ cmpLs ordL b c < 0 ∨ 0 ≤ cmpLs ordL a c := by
        have g1 := ord_ls.flip b c
        have g2 := ord_ls.flip a c
        have := ord_ls.le_trans (x := c) (y := b) (z := a)
        omega
      have t2 : 0 < cmpLs ordL a b ∨ 0 < cmpLs ordL b c ∨ cmpLs ordL a c ≤ 0 := by
        have := ord_ls.le_trans (x := a) (y := b) (z := c)
        omega
      rw [f1, neg_wrap (by omega)]
      generalize cmpLs ordL a b = x at *
      generalize cmpLs ordL b c = y at *
      generalize cmpLs ordL a c = z at *
      rw [if_pos (by omega)]
      repeat' split
      all_goals first
        | rfl
        | exact congrArg some (decide_eq_true (by omega))
        | (exfalso; omega)
    have hE : Lab.Ev (fun k => soundingslaw01_LabelOrder.l0 k a b c a.reverse (-1)) true := by
      have h2 : Lab.Ev (fun k => (soundingsref01_Cmp.f k (mkL mayB a).1 (mkL mayB a).1).bind fun t246 => soundingslaw01_LabelOrder.j2 k a b c (t246 != 0)) true :=
        Lab.Ev.ask0 (g := fun t k => soundingslaw01_LabelOrder.j2 k a b c (t != 0)) hcc hj2 (fun k => rfl) (fun k => rfl)
      refine h2.step fun k => ?_
      simp only [soundingslaw01_LabelOrder.l0]
      rw [if_neg (by omega), make_is a (by omega), make_is a.reverse (by simp; omega), hm]
      simp only [Option.bind_some, soundingslaw01_Code.f]
      rw [if_pos trivial]
    have h3 := back_l0 a b c (by omega) true hE a.length (Nat.le_refl _)
    rw [Nat.sub_self, List.take_zero] at h3
    refine h3.step fun k => ?_
    simp only [soundingslaw01_LabelOrder.j0]
    rw [if_neg (by decide), show wrap64 ((a.length : Int) - 1) = (a.length : Int) - 1 by unfold wrap64; omega]
  have hfin : Lab.Ev (fun k => soundingslaw01_LabelOrder.f k a b c) true := by
    refine Lab.Ev.ask0 (g := fun t k => if t = true then ((soundingsref01_Short.f k a).bind fun t229 => (if t229 = true then ((soundingsref01_Short.f k b).bind fun t230 => (if t230 = true then ((soundingsref01_Short.f k c).bind fun t231 => (soundingslaw01_LabelOrder.j0 k a b c (!t231))) else (soundingslaw01_LabelOrder.j0 k a b c true))) else (soundingslaw01_LabelOrder.j0 k a b c true))) else some false) awake_ev (G := fun k => (soundingsref01_Short.f k a).bind fun t229 => (if t229 = true then ((soundingsref01_Short.f k b).bind fun t230 => (if t230 = true then ((soundingsref01_Short.f k c).bind fun t231 => (soundingslaw01_LabelOrder.j0 k a b c (!t231))) else (soundingslaw01_LabelOrder.j0 k a b c true))) else (soundingslaw01_LabelOrder.j0 k a b c true))) ?_ (fun k => rfl) (fun k => if_pos rfl)
    cases hsa : shortB a with
    | false =>
      rw [hsa] at hA
      exact Lab.Ev.ask0 (g := fun t k => (if t = true then ((soundingsref01_Short.f k b).bind fun t230 => (if t230 = true then ((soundingsref01_Short.f k c).bind fun t231 => (soundingslaw01_LabelOrder.j0 k a b c (!t231))) else (soundingslaw01_LabelOrder.j0 k a b c true))) else (soundingslaw01_LabelOrder.j0 k a b c true))) hA hj (fun k => rfl) (fun k => rfl)
    | true =>
      rw [hsa] at hA
      refine Lab.Ev.ask0 (g := fun t k => (if t = true then ((soundingsref01_Short.f k b).bind fun t230 => (if t230 = true then ((soundingsref01_Short.f k c).bind fun t231 => (soundingslaw01_LabelOrder.j0 k a b c (!t231))) else (soundingslaw01_LabelOrder.j0 k a b c true))) else (soundingslaw01_LabelOrder.j0 k a b c true))) hA (G := fun k => (soundingsref01_Short.f k b).bind fun t230 => (if t230 = true then ((soundingsref01_Short.f k c).bind fun t231 => (soundingslaw01_LabelOrder.j0 k a b c (!t231))) else (soundingslaw01_LabelOrder.j0 k a b c true))) ?_ (fun k => rfl) (fun k => if_pos rfl)
      cases hsb : shortB b with
      | false =>
        rw [hsb] at hB
        exact Lab.Ev.ask0 (g := fun t k => (if t = true then ((soundingsref01_Short.f k c).bind fun t231 => (soundingslaw01_LabelOrder.j0 k a b c (!t231))) else (soundingslaw01_LabelOrder.j0 k a b c true))) hB hj (fun k => rfl) (fun k => rfl)
      | true =>
        rw [hsb] at hB
        refine Lab.Ev.ask0 (g := fun t k => (if t = true then ((soundingsref01_Short.f k c).bind fun t231 => (soundingslaw01_LabelOrder.j0 k a b c (!t231))) else (soundingslaw01_LabelOrder.j0 k a b c true))) hB (G := fun k => (soundingsref01_Short.f k c).bind fun t231 => (soundingslaw01_LabelOrder.j0 k a b c (!t231))) ?_ (fun k => rfl) (fun k => if_pos rfl)
        cases hsc : shortB c with
        | false => rw [hsc] at hC; exact Lab.Ev.ask0 (g := fun t k => soundingslaw01_LabelOrder.j0 k a b c (!t)) hC hj (fun k => rfl) (fun k => rfl)
        | true => rw [hsc] at hC; exact Lab.Ev.ask0 (g := fun t k => soundingslaw01_LabelOrder.j0 k a b c (!t)) hC (key hsa) (fun k => rfl) (fun k => rfl)
  exact hfin.some
end Go.Proofs.YtmgbnnanophehabDoor.Lab
