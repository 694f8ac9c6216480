/- Functions of the program as Lean functions, and the contracts by which the Go code comes to their answers, for every argument that can be read. Written by a program of this session over the print of the kit. -/
import Derived.Test.YtlelcmkbcejjkaaDoorLx0
import Derived.Test.YtlelcmkbcejjkaaDoorLx72
import Derived.Test.YtlelcmkbcejjkaaDoorLx73
namespace Go.Proofs.YtlelcmkbcejjkaaDoor.L
open Go.RowKit Go.Proofs.YtlelcmkbcejjkaaDoorW.PrintWords Go.Proofs.YtlelcmkbcejjkaaDoorW.PrintLast Go.Proofs.YtlelcmkbcejjkaaDoorW.PrintMore
attribute [local go_sem high] Go.Proofs.YtlelcmkbcejjkaaDoor.Less.str_leq Go.Proofs.YtlelcmkbcejjkaaDoor.Less.str_gtr Go.Proofs.YtlelcmkbcejjkaaDoor.Less.str_geq
attribute [local go_sem] max2_int min2_int max_two min_two max_three min_three max_four min_four   -- for this text's walks alone
set_option linter.unusedVariables false
set_option linter.unusedSimpArgs false

/-! ### soundingsref05_Same: function 19 -/
def soundingsref05_Same.l0 : Nat → List (S59) → List (S59) → Int → Option (Bool)
  | 0, _, _, _ => none
  | k + 1, x0, x1, x5 => if x5 < (x0.length : Int) then (if 0 ≤ x5 then (if x5 < (x1.length : Int) then ((soundingsref01_Cmp.f k ((rd_T59 x0 x5).f0) ((rd_T59 x1 x5).f0)).bind fun t222 => (if t222 = 0 then ((soundingsref05_Points.f k ((rd_T59 x0 x5).f1) ((rd_T59 x1 x5).f1)).bind fun t225 => (if t225 = true then (soundingsref05_Same.l0 k x0 x1 (wrap64 (x5 + 1))) else (some false))) else (some false))) else (none)) else (none)) else (some true)
def soundingsref05_Same.f (k : Nat) (l0 : List (S59)) (l1 : List (S59)) : Option (Bool) := if (l0.length : Int) = (l1.length : Int) then (soundingsref05_Same.l0 k l0 l1 0) else (some false)
theorem soundingsref05_Same.mono_l : ∀ k, (∀ y0 y1 y2, LeO (soundingsref05_Same.l0 k y0 y1 y2) (soundingsref05_Same.l0 (k + 1) y0 y1 y2))
  | 0 => fun _ _ _ r h => by simp [soundingsref05_Same.l0] at h
  | k + 1 => by
    have ih0 := soundingsref05_Same.mono_l k
    · intro y0 y1 y2
      unfold soundingsref05_Same.l0
      repeat' first
      | (with_reducible exact ih0 _ _ _)
      | (with_reducible exact soundingsref01_Cmp.mono _ _ _)
      | (with_reducible exact soundingsref05_Points.mono _ _ _)
      | (with_reducible exact LeO.refl _)
      | (with_reducible exact LeO.none _)
      | (with_reducible refine LeO.ite ?_ ?_)
      | (with_reducible refine LeO.bind ?_ (fun _ => ?_))
      | exact ih0 _ _ _
      | exact soundingsref01_Cmp.mono _ _ _
      | exact soundingsref05_Points.mono _ _ _
      | exact LeO.none _
      | refine LeO.ite ?_ ?_
      | refine LeO.bind ?_ (fun _ => ?_)
theorem soundingsref05_Same.mono : ∀ a0 a1 k, LeO (soundingsref05_Same.f k a0 a1) (soundingsref05_Same.f (k + 1) a0 a1) := by
  intro a0 a1 k
  have ih0 := soundingsref05_Same.mono_l k
  unfold soundingsref05_Same.f
  repeat' first
      | (with_reducible exact ih0 _ _ _)
      | (with_reducible exact soundingsref01_Cmp.mono _ _ _)
      | (with_reducible exact soundingsref05_Points.mono _ _ _)
      | (with_reducible exact LeO.refl _)
      | (with_reducible exact LeO.none _)
      | (with_reducible refine LeO.ite ?_ ?_)
      | (with_reducible refine LeO.bind ?_ (fun _ => ?_))
      | exact ih0 _ _ _
      | exact soundingsref01_Cmp.mono _ _ _
      | exact soundingsref05_Points.mono _ _ _
      | exact LeO.none _
      | refine LeO.ite ?_ ?_
      | refine LeO.bind ?_ (fun _ => ?_)
set_option maxHeartbeats 8000000 in
set_option maxRecDepth 100000 in
theorem soundingsref05_Same.calls (k : Nat) (A0 : Option Addr) (c0 : Nat) (l0 : List (S59)) (A1 : Option Addr) (c1 : Nat) (l1 : List (S59)) (r : Bool) (w : World) (hr0 : Kd.C k59 w A0 l0.length l0) (hc0 : l0.length ≤ c0) (hr1 : Kd.C k59 w A1 l1.length l1) (hc1 : l1.length ≤ c1) (h : soundingsref05_Same.f k l0 l1 = some r) :
    Calls Tryd.prog 19 #[.slice A0 l0.length c0, .slice A1 l1.length c1] w fun e w' => e = .returned (.bool r) ∧ Drawn0 w w' := by
  have HR0 := Aside0.mk hr0
  have HC0 := Aside0.mk hc0
  clear hr0 hc0
  have HR1 := Aside0.mk hr1
  have HC1 := Aside0.mk hc1
  clear hr1 hc1
  have H : (if (l0.length : Int) = (l1.length : Int) then (soundingsref05_Same.l0 k l0 l1 0) else (some false)) = some r := h
  clear h
  by_cases c3 : (l0.length : Int) = (l1.length : Int)
  · rw [if_pos c3] at H
    have c3b0 : ((l0.length : Int) == (l1.length : Int)) = true := beq_iff_eq.mpr c3
    have c3b1 : ((l0.length : Int) != (l1.length : Int)) = false := bne_eq_false_iff_eq.mpr c3
    have c3b2 : (l0.length == l1.length) = true := by first | simpa using c3 | (simp at c3 ⊢; omega)
    clear c3
    have H' := Aside0.mk H
    clear H
    go_enter Tryd.func19, Tryd.ntmps19
    go_wp2
    repeat (go_quiet (fail); try go_wp2)
    go_loopg [5] k (fun kq v5 w' => ∃ (x5_1 : Int), v5 = .int .i64 x5_1 ∧ Aside0 (soundingsref05_Same.l0 kq l0 l1 x5_1 = some r) ∧ Aside0 (kq ≤ k) ∧ Drawn0 w w')
    case atStart => exact ⟨(0), (by first | rfl | (simp; done) | (simp [*]; done)), H', ⟨Nat.le_refl _⟩, by repeat (first | exact Drawn0.refl _ | apply Drawn0.step)⟩
    case round =>
      clear H'
      try clear c1
      try clear p2
      try clear c3
      try clear c3b0
      try clear c3b1
      try clear c3b2
      obtain ⟨x5_1, rfl, HA, HK1, ⟨m1, rfl⟩⟩ := hrel
      cases gk with
      | zero => exact absurd HA.out (by simp [soundingsref05_Same.l0])
      | succ k1 =>
        have H := HA.out
        clear HA
        simp only [soundingsref05_Same.l0] at H
        by_cases c4 : x5_1 < (l0.length : Int)
        · rw [if_pos c4] at H
          have c4b0 : decide (x5_1 < (l0.length : Int)) = true := decide_eq_true c4
          clear c4
          by_cases c5 : 0 ≤ x5_1
          · rw [if_pos c5] at H
            have c5b0 : decide (0 ≤ x5_1) = true := decide_eq_true c5
            clear c5
            by_cases c6 : x5_1 < (l1.length : Int)
            · rw [if_pos c6] at H
              have c6b0 : decide (x5_1 < (l1.length : Int)) = true := decide_eq_true c6
              clear c6
              replace H := Option.bind_eq_some_iff.mp H
              obtain ⟨t222, A70, H⟩ := H
              replace H : (if t222 = 0 then ((soundingsref05_Points.f k1 ((rd_T59 l0 x5_1).f1) ((rd_T59 l1 x5_1).f1)).bind fun t225 => (if t225 = true then (soundingsref05_Same.l0 k1 l0 l1 (wrap64 (x5_1 + 1))) else (some false))) else (some false)) = some r := H
              have A7 := Aside0.mk A70
              clear A70
              by_cases c8 : t222 = 0
              · rw [if_pos c8] at H
                have c8b0 : (t222 == 0) = true := beq_iff_eq.mpr c8
                have c8b1 : (t222 != 0) = false := bne_eq_false_iff_eq.mpr c8
                clear c8
                replace H := Option.bind_eq_some_iff.mp H
                obtain ⟨t225, A90, H⟩ := H
                replace H : (if t225 = true then (soundingsref05_Same.l0 k1 l0 l1 (wrap64 (x5_1 + 1))) else (some false)) = some r := H
                have A9 := Aside0.mk A90
                clear A90
                by_cases c10 : t225 = true
                · subst c10
                  have H1 : (soundingsref05_Same.l0 k1 l0 l1 (wrap64 (x5_1 + 1))) = some r := by rw [if_pos rfl] at H; exact H
                  clear H
                  have H := H1
                  clear H1
                  have H' := Aside0.mk H
                  clear H
                  have p220 : 0 ≤ (x5_1 : Int) := of_decide_eq_true (by first | (with_reducible assumption) | assumption)
                  have q220 : x5_1 < (l0.length : Int) := of_decide_eq_true (by first | (with_reducible assumption) | assumption)
                  obtain ⟨ad220, A220_0, c220_0, A220_1, c220_1, e220, hx220_0, hx220_1, hl220_0, hi220_0, hl220_1, hi220_1⟩ := at_T59 HR0.out x5_1 p220 q220
                  cases e220
                  have HR220_0 := Aside0.mk hi220_0
                  have HC220_0 := Aside0.mk hl220_0
                  clear hi220_0 hl220_0
                  have HR220_1 := Aside0.mk hi220_1
                  have HC220_1 := Aside0.mk hl220_1
                  clear hi220_1 hl220_1
                  replace p220 := eq_true p220
                  replace q220 := eq_true q220
                  have p221 : 0 ≤ (x5_1 : Int) := of_decide_eq_true (by first | (with_reducible assumption) | assumption)
                  have q221 : x5_1 < (l1.length : Int) := of_decide_eq_true (by first | (with_reducible assumption) | assumption)
                  obtain ⟨ad221, A221_0, c221_0, A221_1, c221_1, e221, hx221_0, hx221_1, hl221_0, hi221_0, hl221_1, hi221_1⟩ := at_T59 HR1.out x5_1 p221 q221
                  cases e221
                  have HR221_0 := Aside0.mk hi221_0
                  have HC221_0 := Aside0.mk hl221_0
                  clear hi221_0 hl221_0
                  have HR221_1 := Aside0.mk hi221_1
                  have HC221_1 := Aside0.mk hl221_1
                  clear hi221_1 hl221_1
                  replace p221 := eq_true p221
                  replace q221 := eq_true q221
                  go_wp2_with (first | (go_at_call 17; (with_reducible refine (soundingsref01_Cmp.calls k1 _ _ ((rd_T59 l0 x5_1).f0) _ _ ((rd_T59 l1 x5_1).f0) t222 _ ?side1 ?side2 ?side3 ?side4 A7.out).mono ?_); (case side1 => repeat (first | exact HR220_0.out | (with_reducible refine Kd.C_alloc ?_ _) | (with_reducible refine Kd.C_drewN ?_ _) | (with_reducible refine Kd.C_drew ?_))); (case side2 => exact HC220_0.out); (case side3 => repeat (first | exact HR221_0.out | (with_reducible refine Kd.C_alloc ?_ _) | (with_reducible refine Kd.C_drewN ?_ _) | (with_reducible refine Kd.C_drew ?_))); (case side4 => exact HC221_0.out); rintro e w' ⟨rfl, ⟨nd, rfl⟩⟩; (try first | exact ⟨rfl, _, World.drewN_drewN _ _ _⟩ | exact ⟨rfl, _, Eq.trans (World.drewN_drewN _ _ _) (congrArg (World.drewN _) (Nat.add_assoc _ _ _))⟩); have p223 : 0 ≤ (x5_1 : Int) := of_decide_eq_true (by first | (with_reducible assumption) | assumption); have q223 : x5_1 < (l0.length : Int) := of_decide_eq_true (by first | (with_reducible assumption) | assumption); obtain ⟨ad223, A223_0, c223_0, A223_1, c223_1, e223, hx223_0, hx223_1, hl223_0, hi223_0, hl223_1, hi223_1⟩ := at_T59 HR0.out x5_1 p223 q223; obtain rfl : ad220 = ad223 := (by injection e223); have HR223_0 := Aside0.mk hi223_0; have HC223_0 := Aside0.mk hl223_0; clear hi223_0 hl223_0; have HR223_1 := Aside0.mk hi223_1; have HC223_1 := Aside0.mk hl223_1; clear hi223_1 hl223_1; replace p223 := eq_true p223; replace q223 := eq_true q223; have ea_ := Option.some.inj (hx220_0.symm.trans hx223_0); injection ea_ with ea_ en_ ec_; subst ea_; subst ec_; clear en_; have ea_ := Option.some.inj (hx220_1.symm.trans hx223_1); injection ea_ with ea_ en_ ec_; subst ea_; subst ec_; clear en_; have p224 : 0 ≤ (x5_1 : Int) := of_decide_eq_true (by first | (with_reducible assumption) | assumption); have q224 : x5_1 < (l1.length : Int) := of_decide_eq_true (by first | (with_reducible assumption) | assumption); obtain ⟨ad224, A224_0, c224_0, A224_1, c224_1, e224, hx224_0, hx224_1, hl224_0, hi224_0, hl224_1, hi224_1⟩ := at_T59 HR1.out x5_1 p224 q224; obtain rfl : ad221 = ad224 := (by injection e224); have HR224_0 := Aside0.mk hi224_0; have HC224_0 := Aside0.mk hl224_0; clear hi224_0 hl224_0; have HR224_1 := Aside0.mk hi224_1; have HC224_1 := Aside0.mk hl224_1; clear hi224_1 hl224_1; replace p224 := eq_true p224; replace q224 := eq_true q224; have ea_ := Option.some.inj (hx221_0.symm.trans hx224_0); injection ea_ with ea_ en_ ec_; subst ea_; subst ec_; clear en_; have ea_ := Option.some.inj (hx221_1.symm.trans hx224_1); injection ea_ with ea_ en_ ec_; subst ea_; subst ec_; clear en_) | (go_at_call 44; (with_reducible refine (soundingsref05_Points.calls k1 _ _ ((rd_T59 l0 x5_1).f1) _ _ ((rd_T59 l1 x5_1).f1) true _ ?side1 ?side2 ?side3 ?side4 A9.out).mono ?_); (case side1 => repeat (first | exact HR223_1.out | (with_reducible refine Kd.C_alloc ?_ _) | (with_reducible refine Kd.C_drewN ?_ _) | (with_reducible refine Kd.C_drew ?_))); (case side2 => exact HC223_1.out); (case side3 => repeat (first | exact HR224_1.out | (with_reducible refine Kd.C_alloc ?_ _) | (with_reducible refine Kd.C_drewN ?_ _) | (with_reducible refine Kd.C_drew ?_))); (case side4 => exact HC224_1.out); rintro e w' ⟨rfl, ⟨nd, rfl⟩⟩; (try first | exact ⟨rfl, _, World.drewN_drewN _ _ _⟩ | exact ⟨rfl, _, Eq.trans (World.drewN_drewN _ _ _) (congrArg (World.drewN _) (Nat.add_assoc _ _ _))⟩)))
                  repeat (go_quiet (first | (go_at_call 17; (with_reducible refine (soundingsref01_Cmp.calls k1 _ _ ((rd_T59 l0 x5_1).f0) _ _ ((rd_T59 l1 x5_1).f0) t222 _ ?side1 ?side2 ?side3 ?side4 A7.out).mono ?_); (case side1 => repeat (first | exact HR220_0.out | (with_reducible refine Kd.C_alloc ?_ _) | (with_reducible refine Kd.C_drewN ?_ _) | (with_reducible refine Kd.C_drew ?_))); (case side2 => exact HC220_0.out); (case side3 => repeat (first | exact HR221_0.out | (with_reducible refine Kd.C_alloc ?_ _) | (with_reducible refine Kd.C_drewN ?_ _) | (with_reducible refine Kd.C_drew ?_))); (case side4 => exact HC221_0.out); rintro e w' ⟨rfl, ⟨nd, rfl⟩⟩; (try first | exact ⟨rfl, _, World.drewN_drewN _ _ _⟩ | exact ⟨rfl, _, Eq.trans (World.drewN_drewN _ _ _) (congrArg (World.drewN _) (Nat.add_assoc _ _ _))⟩); have p223 : 0 ≤ (x5_1 : Int) := of_decide_eq_true (by first | (with_reducible assumption) | assumption); have q223 : x5_1 < (l0.length : Int) := of_decide_eq_true (by first | (with_reducible assumption) | assumption); obtain ⟨ad223, A223_0, c223_0, A223_1, c223_1, e223, hx223_0, hx223_1, hl223_0, hi223_0, hl223_1, hi223_1⟩ := at_T59 HR0.out x5_1 p223 q223; obtain rfl : ad220 = ad223 := (by injection e223); have HR223_0 := Aside0.mk hi223_0; have HC223_0 := Aside0.mk hl223_0; clear hi223_0 hl223_0; have HR223_1 := Aside0.mk hi223_1; have HC223_1 := Aside0.mk hl223_1; clear hi223_1 hl223_1; replace p223 := eq_true p223; replace q223 := eq_true q223; have ea_ := Option.some.inj (hx220_0.symm.trans hx223_0); injection ea_ with ea_ en_ ec_; subst ea_; subst ec_; clear en_; have ea_ := Option.some.inj (hx220_1.symm.trans hx223_1); injection ea_ with ea_ en_ ec_; subst ea_; subst ec_; clear en_; have p224 : 0 ≤ (x5_1 : Int) := of_decide_eq_true (by first | (with_reducible assumption) | assumption); have q224 : x5_1 < (l1.length : Int) := of_decide_eq_true (by first | (with_reducible assumption) | assumption); obtain ⟨ad224, A224_0, c224_0, A224_1, c224_1, e224, hx224_0, hx224_1, hl224_0, hi224_0, hl224_1, hi224_1⟩ := at_T59 HR1.out x5_1 p224 q224; obtain rfl : ad221 = ad224 := (by injection e224); have HR224_0 := Aside0.mk hi224_0; have HC224_0 := Aside0.mk hl224_0; clear hi224_0 hl224_0; have HR224_1 := Aside0.mk hi224_1; have HC224_1 := Aside0.mk hl224_1; clear hi224_1 hl224_1; replace p224 := eq_true p224; replace q224 := eq_true q224; have ea_ := Option.some.inj (hx221_0.symm.trans hx224_0); injection ea_ with ea_ en_ ec_; subst ea_; subst ec_; clear en_; have ea_ := Option.some.inj (hx221_1.symm.trans hx224_1); injection ea_ with ea_ en_ ec_; subst ea_; subst ec_; clear en_) | (go_at_call 44; (with_reducible refine (soundingsref05_Points.calls k1 _ _ ((rd_T59 l0 x5_1).f1) _ _ ((rd_T59 l1 x5_1).f1) true _ ?side1 ?side2 ?side3 ?side4 A9.out).mono ?_); (case side1 => repeat (first | exact HR223_1.out | (with_reducible refine Kd.C_alloc ?_ _) | (with_reducible refine Kd.C_drewN ?_ _) | (with_reducible refine Kd.C_drew ?_))); (case side2 => exact HC223_1.out); (case side3 => repeat (first | exact HR224_1.out | (with_reducible refine Kd.C_alloc ?_ _) | (with_reducible refine Kd.C_drewN ?_ _) | (with_reducible refine Kd.C_drew ?_))); (case side4 => exact HC224_1.out); rintro e w' ⟨rfl, ⟨nd, rfl⟩⟩; (try first | exact ⟨rfl, _, World.drewN_drewN _ _ _⟩ | exact ⟨rfl, _, Eq.trans (World.drewN_drewN _ _ _) (congrArg (World.drewN _) (Nat.add_assoc _ _ _))⟩))); try go_wp2_with (first | (go_at_call 17; (with_reducible refine (soundingsref01_Cmp.calls k1 _ _ ((rd_T59 l0 x5_1).f0) _ _ ((rd_T59 l1 x5_1).f0) t222 _ ?side1 ?side2 ?side3 ?side4 A7.out).mono ?_); (case side1 => repeat (first | exact HR220_0.out | (with_reducible refine Kd.C_alloc ?_ _) | (with_reducible refine Kd.C_drewN ?_ _) | (with_reducible refine Kd.C_drew ?_))); (case side2 => exact HC220_0.out); (case side3 => repeat (first | exact HR221_0.out | (with_reducible refine Kd.C_alloc ?_ _) | (with_reducible refine Kd.C_drewN ?_ _) | (with_reducible refine Kd.C_drew ?_))); (case side4 => exact HC221_0.out); rintro e w' ⟨rfl, ⟨nd, rfl⟩⟩; (try first | exact ⟨rfl, _, World.drewN_drewN _ _ _⟩ | exact ⟨rfl, _, Eq.trans (World.drewN_drewN _ _ _) (congrArg (World.drewN _) (Nat.add_assoc _ _ _))⟩); have p223 : 0 ≤ (x5_1 : Int) := of_decide_eq_true (by first | (with_reducible assumption) | assumption); have q223 : x5_1 < (l0.length : Int) := of_decide_eq_true (by first | (with_reducible assumption) | assumption); obtain ⟨ad223, A223_0, c223_0, A223_1, c223_1, e223, hx223_0, hx223_1, hl223_0, hi223_0, hl223_1, hi223_1⟩ := at_T59 HR0.out x5_1 p223 q223; obtain rfl : ad220 = ad223 := (by injection e223); have HR223_0 := Aside0.mk hi223_0; have HC223_0 := Aside0.mk hl223_0; clear hi223_0 hl223_0; have HR223_1 := Aside0.mk hi223_1; have HC223_1 := Aside0.mk hl223_1; clear hi223_1 hl223_1; replace p223 := eq_true p223; replace q223 := eq_true q223; have ea_ := Option.some.inj (hx220_0.symm.trans hx223_0); injection ea_ with ea_ en_ ec_; subst ea_; subst ec_; clear en_; have ea_ := Option.some.inj (hx220_1.symm.trans hx223_1); injection ea_ with ea_ en_ ec_; subst ea_; subst ec_; clear en_; have p224 : 0 ≤ (x5_1 : Int) := of_decide_eq_true (by first | (with_reducible assumption) | assumption); have q224 : x5_1 < (l1.length : Int) := of_decide_eq_true (by first | (with_reducible assumption) | assumption); obtain ⟨ad224, A224_0, c224_0, A224_1, c224_1, e224, hx224_0, hx224_1, hl224_0, hi224_0, hl224_1, hi224_1⟩ := at_T59 HR1.out x5_1 p224 q224; obtain rfl : ad221 = ad224 := (by injection e224); have HR224_0 := Aside0.mk hi224_0; have HC224_0 := Aside0.mk hl224_0; clear hi224_0 hl224_0; have HR224_1 := Aside0.mk hi224_1; have HC224_1 := Aside0.mk hl224_1; clear hi224_1 hl224_1; replace p224 := eq_true p224; replace q224 := eq_true q224; have ea_ := Option.some.inj (hx221_0.symm.trans hx224_0); injection ea_ with ea_ en_ ec_; subst ea_; subst ec_; clear en_; have ea_ := Option.some.inj (hx221_1.symm.trans hx224_1); injection ea_ with ea_ en_ ec_; subst ea_; subst ec_; clear en_) | (go_at_call 44; (with_reducible refine (soundingsref05_Points.calls k1 _ _ ((rd_T59 l0 x5_1).f1) _ _ ((rd_T59 l1 x5_1).f1) true _ ?side1 ?side2 ?side3 ?side4 A9.out).mono ?_); (case side1 => repeat (first | exact HR223_1.out | (with_reducible refine Kd.C_alloc ?_ _) | (with_reducible refine Kd.C_drewN ?_ _) | (with_reducible refine Kd.C_drew ?_))); (case side2 => exact HC223_1.out); (case side3 => repeat (first | exact HR224_1.out | (with_reducible refine Kd.C_alloc ?_ _) | (with_reducible refine Kd.C_drewN ?_ _) | (with_reducible refine Kd.C_drew ?_))); (case side4 => exact HC224_1.out); rintro e w' ⟨rfl, ⟨nd, rfl⟩⟩; (try first | exact ⟨rfl, _, World.drewN_drewN _ _ _⟩ | exact ⟨rfl, _, Eq.trans (World.drewN_drewN _ _ _) (congrArg (World.drewN _) (Nat.add_assoc _ _ _))⟩))))
                  go_roundg k1
                  case measure => have := HK1.out; omega
                  case rel => exact ⟨(wrap64 (x5_1 + 1)), (by first | rfl | (simp; done) | (simp [*]; done)), H', ⟨by have := HK1.out; omega⟩, by repeat (first | exact Drawn0.refl _ | apply Drawn0.step)⟩
                · replace c10 := Bool.eq_false_iff.mpr c10
                  subst c10
                  have H1 : (some false) = some r := by rw [if_neg (show ¬ (false = true) by decide)] at H; exact H
                  clear H
                  have H := H1
                  clear H1
                  obtain rfl := Option.some.inj H
                  have p220 : 0 ≤ (x5_1 : Int) := of_decide_eq_true (by first | (with_reducible assumption) | assumption)
                  have q220 : x5_1 < (l0.length : Int) := of_decide_eq_true (by first | (with_reducible assumption) | assumption)
                  obtain ⟨ad220, A220_0, c220_0, A220_1, c220_1, e220, hx220_0, hx220_1, hl220_0, hi220_0, hl220_1, hi220_1⟩ := at_T59 HR0.out x5_1 p220 q220
                  cases e220
                  have HR220_0 := Aside0.mk hi220_0
                  have HC220_0 := Aside0.mk hl220_0
                  clear hi220_0 hl220_0
                  have HR220_1 := Aside0.mk hi220_1
                  have HC220_1 := Aside0.mk hl220_1
                  clear hi220_1 hl220_1
                  replace p220 := eq_true p220
                  replace q220 := eq_true q220
                  have p221 : 0 ≤ (x5_1 : Int) := of_decide_eq_true (by first | (with_reducible assumption) | assumption)
                  have q221 : x5_1 < (l1.length : Int) := of_decide_eq_true (by first | (with_reducible assumption) | assumption)
                  obtain ⟨ad221, A221_0, c221_0, A221_1, c221_1, e221, hx221_0, hx221_1, hl221_0, hi221_0, hl221_1, hi221_1⟩ := at_T59 HR1.out x5_1 p221 q221
                  cases e221
                  have HR221_0 := Aside0.mk hi221_0
                  have HC221_0 := Aside0.mk hl221_0
                  clear hi221_0 hl221_0
                  have HR221_1 := Aside0.mk hi221_1
                  have HC221_1 := Aside0.mk hl221_1
                  clear hi221_1 hl221_1
                  replace p221 := eq_true p221
                  replace q221 := eq_true q221
                  go_wp2_with (first | (go_at_call 17; (with_reducible refine (soundingsref01_Cmp.calls k1 _ _ ((rd_T59 l0 x5_1).f0) _ _ ((rd_T59 l1 x5_1).f0) t222 _ ?side1 ?side2 ?side3 ?side4 A7.out).mono ?_); (case side1 => repeat (first | exact HR220_0.out | (with_reducible refine Kd.C_alloc ?_ _) | (with_reducible refine Kd.C_drewN ?_ _) | (with_reducible refine Kd.C_drew ?_))); (case side2 => exact HC220_0.out); (case side3 => repeat (first | exact HR221_0.out | (with_reducible refine Kd.C_alloc ?_ _) | (with_reducible refine Kd.C_drewN ?_ _) | (with_reducible refine Kd.C_drew ?_))); (case side4 => exact HC221_0.out); rintro e w' ⟨rfl, ⟨nd, rfl⟩⟩; (try first | exact ⟨rfl, _, World.drewN_drewN _ _ _⟩ | exact ⟨rfl, _, Eq.trans (World.drewN_drewN _ _ _) (congrArg (World.drewN _) (Nat.add_assoc _ _ _))⟩); have p223 : 0 ≤ (x5_1 : Int) := of_decide_eq_true (by first | (with_reducible assumption) | assumption); have q223 : x5_1 < (l0.length : Int) := of_decide_eq_true (by first | (with_reducible assumption) | assumption); obtain ⟨ad223, A223_0, c223_0, A223_1, c223_1, e223, hx223_0, hx223_1, hl223_0, hi223_0, hl223_1, hi223_1⟩ := at_T59 HR0.out x5_1 p223 q223; obtain rfl : ad220 = ad223 := (by injection e223); have HR223_0 := Aside0.mk hi223_0; have HC223_0 := Aside0.mk hl223_0; clear hi223_0 hl223_0; have HR223_1 := Aside0.mk hi223_1; have HC223_1 := Aside0.mk hl223_1; clear hi223_1 hl223_1; replace p223 := eq_true p223; replace q223 := eq_true q223; have ea_ := Option.some.inj (hx220_0.symm.trans hx223_0); injection ea_ with ea_ en_ ec_; subst ea_; subst ec_; clear en_; have ea_ := Option.some.inj (hx220_1.symm.trans hx223_1); injection ea_ with ea_ en_ ec_; subst ea_; subst ec_; clear en_; have p224 : 0 ≤ (x5_1 : Int) := of_decide_eq_true (by first | (with_reducible assumption) | assumption); have q224 : x5_1 < (l1.length : Int) := of_decide_eq_true (by first | (with_reducible assumption) | assumption); obtain ⟨ad224, A224_0, c224_0, A224_1, c224_1, e224, hx224_0, hx224_1, hl224_0, hi224_0, hl224_1, hi224_1⟩ := at_T59 HR1.out x5_1 p224 q224; obtain rfl : ad221 = ad224 := (by injection e224); have HR224_0 := Aside0.mk hi224_0; have HC224_0 := Aside0.mk hl224_0; clear hi224_0 hl224_0; have HR224_1 := Aside0.mk hi224_1; have HC224_1 := Aside0.mk hl224_1; clear hi224_1 hl224_1; replace p224 := eq_true p224; replace q224 := eq_true q224; have ea_ := Option.some.inj (hx221_0.symm.trans hx224_0); injection ea_ with ea_ en_ ec_; subst ea_; subst ec_; clear en_; have ea_ := Option.some.inj (hx221_1.symm.trans hx224_1); injection ea_ with ea_ en_ ec_; subst ea_; subst ec_; clear en_) | (go_at_call 44; (with_reducible refine (soundingsref05_Points.calls k1 _ _ ((rd_T59 l0 x5_1).f1) _ _ ((rd_T59 l1 x5_1).f1) false _ ?side1 ?side2 ?side3 ?side4 A9.out).mono ?_); (case side1 => repeat (first | exact HR223_1.out | (with_reducible refine Kd.C_alloc ?_ _) | (with_reducible refine Kd.C_drewN ?_ _) | (with_reducible refine Kd.C_drew ?_))); (case side2 => exact HC223_1.out); (case side3 => repeat (first | exact HR224_1.out | (with_reducible refine Kd.C_alloc ?_ _) | (with_reducible refine Kd.C_drewN ?_ _) | (with_reducible refine Kd.C_drew ?_))); (case side4 => exact HC224_1.out); rintro e w' ⟨rfl, ⟨nd, rfl⟩⟩; (try first | exact ⟨rfl, _, World.drewN_drewN _ _ _⟩ | exact ⟨rfl, _, Eq.trans (World.drewN_drewN _ _ _) (congrArg (World.drewN _) (Nat.add_assoc _ _ _))⟩)))
                  repeat (go_quiet (first | (go_at_call 17; (with_reducible refine (soundingsref01_Cmp.calls k1 _ _ ((rd_T59 l0 x5_1).f0) _ _ ((rd_T59 l1 x5_1).f0) t222 _ ?side1 ?side2 ?side3 ?side4 A7.out).mono ?_); (case side1 => repeat (first | exact HR220_0.out | (with_reducible refine Kd.C_alloc ?_ _) | (with_reducible refine Kd.C_drewN ?_ _) | (with_reducible refine Kd.C_drew ?_))); (case side2 => exact HC220_0.out); (case side3 => repeat (first | exact HR221_0.out | (with_reducible refine Kd.C_alloc ?_ _) | (with_reducible refine Kd.C_drewN ?_ _) | (with_reducible refine Kd.C_drew ?_))); (case side4 => exact HC221_0.out); rintro e w' ⟨rfl, ⟨nd, rfl⟩⟩; (try first | exact ⟨rfl, _, World.drewN_drewN _ _ _⟩ | exact ⟨rfl, _, Eq.trans (World.drewN_drewN _ _ _) (congrArg (World.drewN _) (Nat.add_assoc _ _ _))⟩); have p223 : 0 ≤ (x5_1 : Int) := of_decide_eq_true (by first | (with_reducible assumption) | assumption); have q223 : x5_1 < (l0.length : Int) := of_decide_eq_true (by first | (with_reducible assumption) | assumption); obtain ⟨ad223, A223_0, c223_0, A223_1, c223_1, e223, hx223_0, hx223_1, hl223_0, hi223_0, hl223_1, hi223_1⟩ := at_T59 HR0.out x5_1 p223 q223; obtain rfl : ad220 = ad223 := (by injection e223); have HR223_0 := Aside0.mk hi223_0; have HC223_0 := Aside0.mk hl223_0; clear hi223_0 hl223_0; have HR223_1 := Aside0.mk hi223_1; have HC223_1 := Aside0.mk hl223_1; clear hi223_1 hl223_1; replace p223 := eq_true p223; replace q223 := eq_true q223; have ea_ := Option.some.inj (hx220_0.symm.trans hx223_0); injection ea_ with ea_ en_ ec_; subst ea_; subst ec_; clear en_; have ea_ := Option.some.inj (hx220_1.symm.trans hx223_1); injection ea_ with ea_ en_ ec_; subst ea_; subst ec_; clear en_; have p224 : 0 ≤ (x5_1 : Int) := of_decide_eq_true (by first | (with_reducible assumption) | assumption); have q224 : x5_1 < (l1.length : Int) := of_decide_eq_true (by first | (with_reducible assumption) | assumption); obtain ⟨ad224, A224_0, c224_0, A224_1, c224_1, e224, hx224_0, hx224_1, hl224_0, hi224_0, hl224_1, hi224_1⟩ := at_T59 HR1.out x5_1 p224 q224; obtain rfl : ad221 = ad224 := (by injection e224); have HR224_0 := Aside0.mk hi224_0; have HC224_0 := Aside0.mk hl224_0; clear hi224_0 hl224_0; have HR224_1 := Aside0.mk hi224_1; have HC224_1 := Aside0.mk hl224_1; clear hi224_1 hl224_1; replace p224 := eq_true p224; replace q224 := eq_true q224; have ea_ := Option.some.inj (hx221_0.symm.trans hx224_0); injection ea_ with ea_ en_ ec_; subst ea_; subst ec_; clear en_; have ea_ := Option.some.inj (hx221_1.symm.trans hx224_1); injection ea_ with ea_ en_ ec_; subst ea_; subst ec_; clear en_) | (go_at_call 44; (with_reducible refine (soundingsref05_Points.calls k1 _ _ ((rd_T59 l0 x5_1).f1) _ _ ((rd_T59 l1 x5_1).f1) false _ ?side1 ?side2 ?side3 ?side4 A9.out).mono ?_); (case side1 => repeat (first | exact HR223_1.out | (with_reducible refine Kd.C_alloc ?_ _) | (with_reducible refine Kd.C_drewN ?_ _) | (with_reducible refine Kd.C_drew ?_))); (case side2 => exact HC223_1.out); (case side3 => repeat (first | exact HR224_1.out | (with_reducible refine Kd.C_alloc ?_ _) | (with_reducible refine Kd.C_drewN ?_ _) | (with_reducible refine Kd.C_drew ?_))); (case side4 => exact HC224_1.out); rintro e w' ⟨rfl, ⟨nd, rfl⟩⟩; (try first | exact ⟨rfl, _, World.drewN_drewN _ _ _⟩ | exact ⟨rfl, _, Eq.trans (World.drewN_drewN _ _ _) (congrArg (World.drewN _) (Nat.add_assoc _ _ _))⟩))); try go_wp2_with (first | (go_at_call 17; (with_reducible refine (soundingsref01_Cmp.calls k1 _ _ ((rd_T59 l0 x5_1).f0) _ _ ((rd_T59 l1 x5_1).f0) t222 _ ?side1 ?side2 ?side3 ?side4 A7.out).mono ?_); (case side1 => repeat (first | exact HR220_0.out | (with_reducible refine Kd.C_alloc ?_ _) | (with_reducible refine Kd.C_drewN ?_ _) | (with_reducible refine Kd.C_drew ?_))); (case side2 => exact HC220_0.out); (case side3 => repeat (first | exact HR221_0.out | (with_reducible refine Kd.C_alloc ?_ _) | (with_reducible refine Kd.C_drewN ?_ _) | (with_reducible refine Kd.C_drew ?_))); (case side4 => exact HC221_0.out); rintro e w' ⟨rfl, ⟨nd, rfl⟩⟩; (try first | exact ⟨rfl, _, World.drewN_drewN _ _ _⟩ | exact ⟨rfl, _, Eq.trans (World.drewN_drewN _ _ _) (congrArg (World.drewN _) (Nat.add_assoc _ _ _))⟩); have p223 : 0 ≤ (x5_1 : Int) := of_decide_eq_true (by first | (with_reducible assumption) | assumption); have q223 : x5_1 < (l0.length : Int) := of_decide_eq_true (by first | (with_reducible assumption) | assumption); obtain ⟨ad223, A223_0, c223_0, A223_1, c223_1, e223, hx223_0, hx223_1, hl223_0, hi223_0, hl223_1, hi223_1⟩ := at_T59 HR0.out x5_1 p223 q223; obtain rfl : ad220 = ad223 := (by injection e223); have HR223_0 := Aside0.mk hi223_0; have HC223_0 := Aside0.mk hl223_0; clear hi223_0 hl223_0; have HR223_1 := Aside0.mk hi223_1; have HC223_1 := Aside0.mk hl223_1; clear hi223_1 hl223_1; replace p223 := eq_true p223; replace q223 := eq_true q223; have ea_ := Option.some.inj (hx220_0.symm.trans hx223_0); injection ea_ with ea_ en_ ec_; subst ea_; subst ec_; clear en_; have ea_ := Option.some.inj (hx220_1.symm.trans hx223_1); injection ea_ with ea_ en_ ec_; subst ea_; subst ec_; clear en_; have p224 : 0 ≤ (x5_1 : Int) := of_decide_eq_true (by first | (with_reducible assumption) | assumption); have q224 : x5_1 < (l1.length : Int) := of_decide_eq_true (by first | (with_reducible assumption) | assumption); obtain ⟨ad224, A224_0, c224_0, A224_1, c224_1, e224, hx224_0, hx224_1, hl224_0, hi224_0, hl224_1, hi224_1⟩ := at_T59 HR1.out x5_1 p224 q224; obtain rfl : ad221 = ad224 := (by injection e224); have HR224_0 := Aside0.mk hi224_0; have HC224_0 := Aside0.mk hl224_0; clear hi224_0 hl224_0; have HR224_1 := Aside0.mk hi224_1; have HC224_1 := Aside0.mk hl224_1; clear hi224_1 hl224_1; replace p224 := eq_true p224; replace q224 := eq_true q224; have ea_ := Option.some.inj (hx221_0.symm.trans hx224_0); injection ea_ with ea_ en_ ec_; subst ea_; subst ec_; clear en_; have ea_ := Option.some.inj (hx221_1.symm.trans hx224_1); injection ea_ with ea_ en_ ec_; subst ea_; subst ec_; clear en_) | (go_at_call 44; (with_reducible refine (soundingsref05_Points.calls k1 _ _ ((rd_T59 l0 x5_1).f1) _ _ ((rd_T59 l1 x5_1).f1) false _ ?side1 ?side2 ?side3 ?side4 A9.out).mono ?_); (case side1 => repeat (first | exact HR223_1.out | (with_reducible refine Kd.C_alloc ?_ _) | (with_reducible refine Kd.C_drewN ?_ _) | (with_reducible refine Kd.C_drew ?_))); (case side2 => exact HC223_1.out); (case side3 => repeat (first | exact HR224_1.out | (with_reducible refine Kd.C_alloc ?_ _) | (with_reducible refine Kd.C_drewN ?_ _) | (with_reducible refine Kd.C_drew ?_))); (case side4 => exact HC224_1.out); rintro e w' ⟨rfl, ⟨nd, rfl⟩⟩; (try first | exact ⟨rfl, _, World.drewN_drewN _ _ _⟩ | exact ⟨rfl, _, Eq.trans (World.drewN_drewN _ _ _) (congrArg (World.drewN _) (Nat.add_assoc _ _ _))⟩))))
                  go_ret
                  exact ⟨by first | rfl | (simp; done) | (simp [*]; done), by repeat (first | exact Drawn0.refl _ | apply Drawn0.step)⟩
              · rw [if_neg c8] at H
                have c8b0 : (t222 == 0) = false := beq_eq_false_iff_ne.mpr c8
                have c8b1 : (t222 != 0) = true := bne_iff_ne.mpr c8
                obtain rfl := Option.some.inj H
                have p220 : 0 ≤ (x5_1 : Int) := of_decide_eq_true (by first | (with_reducible assumption) | assumption)
                have q220 : x5_1 < (l0.length : Int) := of_decide_eq_true (by first | (with_reducible assumption) | assumption)
                obtain ⟨ad220, A220_0, c220_0, A220_1, c220_1, e220, hx220_0, hx220_1, hl220_0, hi220_0, hl220_1, hi220_1⟩ := at_T59 HR0.out x5_1 p220 q220
                cases e220
                have HR220_0 := Aside0.mk hi220_0
                have HC220_0 := Aside0.mk hl220_0
                clear hi220_0 hl220_0
                have HR220_1 := Aside0.mk hi220_1
                have HC220_1 := Aside0.mk hl220_1
                clear hi220_1 hl220_1
                replace p220 := eq_true p220
                replace q220 := eq_true q220
                have p221 : 0 ≤ (x5_1 : Int) := of_decide_eq_true (by first | (with_reducible assumption) | assumption)
                have q221 : x5_1 < (l1.length : Int) := of_decide_eq_true (by first | (with_reducible assumption) | assumption)
                obtain ⟨ad221, A221_0, c221_0, A221_1, c221_1, e221, hx221_0, hx221_1, hl221_0, hi221_0, hl221_1, hi221_1⟩ := at_T59 HR1.out x5_1 p221 q221
                cases e221
                have HR221_0 := Aside0.mk hi221_0
                have HC221_0 := Aside0.mk hl221_0
                clear hi221_0 hl221_0
                have HR221_1 := Aside0.mk hi221_1
                have HC221_1 := Aside0.mk hl221_1
                clear hi221_1 hl221_1
                replace p221 := eq_true p221
                replace q221 := eq_true q221
                go_wp2_with (first | (go_at_call 17; (with_reducible refine (soundingsref01_Cmp.calls k1 _ _ ((rd_T59 l0 x5_1).f0) _ _ ((rd_T59 l1 x5_1).f0) t222 _ ?side1 ?side2 ?side3 ?side4 A7.out).mono ?_); (case side1 => repeat (first | exact HR220_0.out | (with_reducible refine Kd.C_alloc ?_ _) | (with_reducible refine Kd.C_drewN ?_ _) | (with_reducible refine Kd.C_drew ?_))); (case side2 => exact HC220_0.out); (case side3 => repeat (first | exact HR221_0.out | (with_reducible refine Kd.C_alloc ?_ _) | (with_reducible refine Kd.C_drewN ?_ _) | (with_reducible refine Kd.C_drew ?_))); (case side4 => exact HC221_0.out); rintro e w' ⟨rfl, ⟨nd, rfl⟩⟩; (try first | exact ⟨rfl, _, World.drewN_drewN _ _ _⟩ | exact ⟨rfl, _, Eq.trans (World.drewN_drewN _ _ _) (congrArg (World.drewN _) (Nat.add_assoc _ _ _))⟩)))
                repeat (go_quiet (first | (go_at_call 17; (with_reducible refine (soundingsref01_Cmp.calls k1 _ _ ((rd_T59 l0 x5_1).f0) _ _ ((rd_T59 l1 x5_1).f0) t222 _ ?side1 ?side2 ?side3 ?side4 A7.out).mono ?_); (case side1 => repeat (first | exact HR220_0.out | (with_reducible refine Kd.C_alloc ?_ _) | (with_reducible refine Kd.C_drewN ?_ _) | (with_reducible refine Kd.C_drew ?_))); (case side2 => exact HC220_0.out); (case side3 => repeat (first | exact HR221_0.out | (with_reducible refine Kd.C_alloc ?_ _) | (with_reducible refine Kd.C_drewN ?_ _) | (with_reducible refine Kd.C_drew ?_))); (case side4 => exact HC221_0.out); rintro e w' ⟨rfl, ⟨nd, rfl⟩⟩; (try first | exact ⟨rfl, _, World.drewN_drewN _ _ _⟩ | exact ⟨rfl, _, Eq.trans (World.drewN_drewN _ _ _) (congrArg (World.drewN _) (Nat.add_assoc _ _ _))⟩))); try go_wp2_with (first | (go_at_call 17; (with_reducible refine (soundingsref01_Cmp.calls k1 _ _ ((rd_T59 l0 x5_1).f0) _ _ ((rd_T59 l1 x5_1).f0) t222 _ ?side1 ?side2 ?side3 ?side4 A7.out).mono ?_); (case side1 => repeat (first | exact HR220_0.out | (with_reducible refine Kd.C_alloc ?_ _) | (with_reducible refine Kd.C_drewN ?_ _) | (with_reducible refine Kd.C_drew ?_))); (case side2 => exact HC220_0.out); (case side3 => repeat (first | exact HR221_0.out | (with_reducible refine Kd.C_alloc ?_ _) | (with_reducible refine Kd.C_drewN ?_ _) | (with_reducible refine Kd.C_drew ?_))); (case side4 => exact HC221_0.out); rintro e w' ⟨rfl, ⟨nd, rfl⟩⟩; (try first | exact ⟨rfl, _, World.drewN_drewN _ _ _⟩ | exact ⟨rfl, _, Eq.trans (World.drewN_drewN _ _ _) (congrArg (World.drewN _) (Nat.add_assoc _ _ _))⟩))))
                go_ret
                exact ⟨by first | rfl | (simp; done) | (simp [*]; done), by repeat (first | exact Drawn0.refl _ | apply Drawn0.step)⟩
            · rw [if_neg c6] at H
              exact absurd H (by simp)
          · rw [if_neg c5] at H
            exact absurd H (by simp)
        · rw [if_neg c4] at H
          have c4b0 : decide (x5_1 < (l0.length : Int)) = false := decide_eq_false c4
          clear c4
          obtain rfl := Option.some.inj H
          go_wp2
          repeat (go_quiet (fail); try go_wp2)
          go_ret
          exact ⟨by first | rfl | (simp; done) | (simp [*]; done), by repeat (first | exact Drawn0.refl _ | apply Drawn0.step)⟩
  · rw [if_neg c3] at H
    have c3b0 : ((l0.length : Int) == (l1.length : Int)) = false := beq_eq_false_iff_ne.mpr c3
    have c3b1 : ((l0.length : Int) != (l1.length : Int)) = true := bne_iff_ne.mpr c3
    have c3b2 : (l0.length == l1.length) = false := by first | simpa using c3 | (simp at c3 ⊢; omega)
    obtain rfl := Option.some.inj H
    go_enter Tryd.func19, Tryd.ntmps19
    go_wp2
    repeat (go_quiet (fail); try go_wp2)
    go_ret
    exact ⟨by first | rfl | (simp; done) | (simp [*]; done), by repeat (first | exact Drawn0.refl _ | apply Drawn0.step)⟩

end Go.Proofs.YtlelcmkbcejjkaaDoor.L
