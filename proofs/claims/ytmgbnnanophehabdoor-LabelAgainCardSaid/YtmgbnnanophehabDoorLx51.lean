/- Functions of the program as Lean functions, and the contracts by which the Go code comes to their answers, for every argument that can be read. Written by a program of this session over the print of the kit. -/
import Derived.Test.YtmgbnnanophehabDoorLx0
import Derived.Test.YtmgbnnanophehabDoorLx1
namespace Go.Proofs.YtmgbnnanophehabDoor.L
open Go.RowKit Go.Proofs.YtmgbnnanophehabDoorW.PrintWords Go.Proofs.YtmgbnnanophehabDoorW.PrintLast Go.Proofs.YtmgbnnanophehabDoorW.PrintMore
attribute [local go_sem high] Go.Proofs.YtmgbnnanophehabDoor.Less.str_leq Go.Proofs.YtmgbnnanophehabDoor.Less.str_gtr Go.Proofs.YtmgbnnanophehabDoor.Less.str_geq
attribute [local go_sem] max2_int min2_int max_two min_two max_three min_three max_four min_four   -- for this text's walks alone
set_option linter.unusedVariables false
set_option linter.unusedSimpArgs false

attribute [local go_sem high] eqA36
/-! ### soundingsref01_Cmp: function 19 -/
mutual
def soundingsref01_Cmp.l0 : Nat → List (S36) → List (S36) → Int → Option (Int)
  | 0, _, _, _ => none
  | k + 1, x0, x1, x5 => if x5 < (x0.length : Int) then (soundingsref01_Cmp.j1 k x0 x1 x5 (decide (x5 < (x1.length : Int)))) else (soundingsref01_Cmp.j1 k x0 x1 x5 false)
def soundingsref01_Cmp.j1 : Nat → List (S36) → List (S36) → Int → Bool → Option (Int)
  | 0, _, _, _, _ => none
  | k + 1, x0, x1, x5, x15 => if x15 = true then (if 0 ≤ x5 then (if x5 < (x0.length : Int) then (if x5 < (x1.length : Int) then (if (Op.bytesLess (((rd_T36 x0 x5).f0).toList) (((rd_T36 x1 x5).f0).toList)) = true then (soundingsref01_Cmp.j2 k x0 x1 x5 true) else (if ((rd_T36 x0 x5).f0).toList = ((rd_T36 x1 x5).f0).toList then (soundingsref01_Cmp.j2 k x0 x1 x5 (Op.bytesLess (((rd_T36 x0 x5).f1).toList) (((rd_T36 x1 x5).f1).toList))) else (soundingsref01_Cmp.j2 k x0 x1 x5 false))) else (none)) else (none)) else (none)) else (if (x0.length : Int) < (x1.length : Int) then (some (-1)) else (if (x0.length : Int) > (x1.length : Int) then (some 1) else (some 0)))
def soundingsref01_Cmp.j2 : Nat → List (S36) → List (S36) → Int → Bool → Option (Int)
  | 0, _, _, _, _ => none
  | k + 1, x0, x1, x5, x54 => if x54 = true then (some (-1)) else (if 0 ≤ x5 then (if x5 < (x0.length : Int) then (if x5 < (x1.length : Int) then (if (!((((rd_T36 x0 x5).f0).toList) == (((rd_T36 x1 x5).f0).toList)) || (!((((rd_T36 x0 x5).f1).toList) == (((rd_T36 x1 x5).f1).toList)))) = true then (some 1) else (soundingsref01_Cmp.l0 k x0 x1 (wrap64 (x5 + 1)))) else (none)) else (none)) else (none))
end
def soundingsref01_Cmp.f (k : Nat) (l0 : List (S36)) (l1 : List (S36)) : Option (Int) := soundingsref01_Cmp.l0 k l0 l1 0
theorem soundingsref01_Cmp.mono_l : ∀ k, (∀ y0 y1 y2, LeO (soundingsref01_Cmp.l0 k y0 y1 y2) (soundingsref01_Cmp.l0 (k + 1) y0 y1 y2)) ∧ (∀ y0 y1 y2 y3, LeO (soundingsref01_Cmp.j1 k y0 y1 y2 y3) (soundingsref01_Cmp.j1 (k + 1) y0 y1 y2 y3)) ∧ (∀ y0 y1 y2 y3, LeO (soundingsref01_Cmp.j2 k y0 y1 y2 y3) (soundingsref01_Cmp.j2 (k + 1) y0 y1 y2 y3))
  | 0 => ⟨fun _ _ _ r h => by simp [soundingsref01_Cmp.l0] at h, fun _ _ _ _ r h => by simp [soundingsref01_Cmp.j1] at h, fun _ _ _ _ r h => by simp [soundingsref01_Cmp.j2] at h⟩
  | k + 1 => by
    obtain ⟨ih0, ih1, ih2⟩ := soundingsref01_Cmp.mono_l k
    refine ⟨?_, ?_, ?_⟩
    · intro y0 y1 y2
      unfold soundingsref01_Cmp.l0
      repeat' first
      | (with_reducible exact ih0 _ _ _)
      | (with_reducible exact ih1 _ _ _ _)
      | (with_reducible exact ih2 _ _ _ _)
      | (with_reducible exact LeO.refl _)
      | (with_reducible exact LeO.none _)
      | (with_reducible refine LeO.ite ?_ ?_)
      | (with_reducible refine LeO.bind ?_ (fun _ => ?_))
      | exact ih0 _ _ _
      | exact ih1 _ _ _ _
      | exact ih2 _ _ _ _
      | exact LeO.none _
      | refine LeO.ite ?_ ?_
      | refine LeO.bind ?_ (fun _ => ?_)
    · intro y0 y1 y2 y3
      unfold soundingsref01_Cmp.j1
      repeat' first
      | (with_reducible exact ih0 _ _ _)
      | (with_reducible exact ih1 _ _ _ _)
      | (with_reducible exact ih2 _ _ _ _)
      | (with_reducible exact LeO.refl _)
      | (with_reducible exact LeO.none _)
      | (with_reducible refine LeO.ite ?_ ?_)
      | (with_reducible refine LeO.bind ?_ (fun _ => ?_))
      | exact ih0 _ _ _
      | exact ih1 _ _ _ _
      | exact ih2 _ _ _ _
      | exact LeO.none _
      | refine LeO.ite ?_ ?_
      | refine LeO.bind ?_ (fun _ => ?_)
    · intro y0 y1 y2 y3
      unfold soundingsref01_Cmp.j2
      repeat' first
      | (with_reducible exact ih0 _ _ _)
      | (with_reducible exact ih1 _ _ _ _)
      | (with_reducible exact ih2 _ _ _ _)
      | (with_reducible exact LeO.refl _)
      | (with_reducible exact LeO.none _)
      | (with_reducible refine LeO.ite ?_ ?_)
      | (with_reducible refine LeO.bind ?_ (fun _ => ?_))
      | exact ih0 _ _ _
      | exact ih1 _ _ _ _
      | exact ih2 _ _ _ _
      | exact LeO.none _
      | refine LeO.ite ?_ ?_
      | refine LeO.bind ?_ (fun _ => ?_)
theorem soundingsref01_Cmp.mono : ∀ a0 a1 k, LeO (soundingsref01_Cmp.f k a0 a1) (soundingsref01_Cmp.f (k + 1) a0 a1) := by
  intro a0 a1 k
  obtain ⟨ih0, ih1, ih2⟩ := soundingsref01_Cmp.mono_l k
  unfold soundingsref01_Cmp.f
  repeat' first
      | (with_reducible exact ih0 _ _ _)
      | (with_reducible exact ih1 _ _ _ _)
      | (with_reducible exact ih2 _ _ _ _)
      | (with_reducible exact LeO.refl _)
      | (with_reducible exact LeO.none _)
      | (with_reducible refine LeO.ite ?_ ?_)
      | (with_reducible refine LeO.bind ?_ (fun _ => ?_))
      | exact ih0 _ _ _
      | exact ih1 _ _ _ _
      | exact ih2 _ _ _ _
      | exact LeO.none _
      | refine LeO.ite ?_ ?_
      | refine LeO.bind ?_ (fun _ => ?_)
set_option maxHeartbeats 8000000 in
set_option maxRecDepth 100000 in
theorem soundingsref01_Cmp.calls (k : Nat) (A0 : Option Addr) (c0 : Nat) (l0 : List (S36)) (A1 : Option Addr) (c1 : Nat) (l1 : List (S36)) (r : Int) (w : World) (hr0 : Kd.C k36 w A0 l0.length l0) (hc0 : l0.length ≤ c0) (hr1 : Kd.C k36 w A1 l1.length l1) (hc1 : l1.length ≤ c1) (h : soundingsref01_Cmp.f k l0 l1 = some r) :
    Calls Tryd.prog 19 #[.slice A0 l0.length c0, .slice A1 l1.length c1] w fun e w' => e = .returned (.int .i64 r) ∧ Drawn0 w w' := by
  have hu36 := Tryd.underlying36
  have HR0 := Aside0.mk hr0
  have HC0 := Aside0.mk hc0
  clear hr0 hc0
  have HR1 := Aside0.mk hr1
  have HC1 := Aside0.mk hc1
  clear hr1 hc1
  have H : (soundingsref01_Cmp.l0 k l0 l1 0) = some r := h
  clear h
  have H' := Aside0.mk H
  clear H
  go_enter Tryd.func19, Tryd.ntmps19
  go_wp2
  repeat (go_quiet (fail); try go_wp2)
  go_loopg [5] k (fun kq v5 w' => ∃ (x5_1 : Int), v5 = .int .i64 x5_1 ∧ Aside0 (soundingsref01_Cmp.l0 kq l0 l1 x5_1 = some r) ∧ Aside0 (kq ≤ k) ∧ Drawn0 w w')
  case atStart => exact ⟨(0), (by first | rfl | (simp; done) | (simp [*]; done)), H', ⟨Nat.le_refl _⟩, by repeat (first | exact Drawn0.refl _ | apply Drawn0.step)⟩
  case round =>
    clear H'
    try clear c1
    try clear p2
    obtain ⟨x5_1, rfl, HA, HK1, ⟨m1, rfl⟩⟩ := hrel
    cases gk with
    | zero => exact absurd HA.out (by simp [soundingsref01_Cmp.l0])
    | succ k1 =>
      have H := HA.out
      clear HA
      simp only [soundingsref01_Cmp.l0] at H
      have HC3 := Aside0.mk H
      clear H
      go_upto_region 2 with (fail)
      repeat (go_quiet (fail); go_upto_region 2 with (fail))
      go_cut [15] (fun v15 wc => ∃ (kq : Nat) (x15_2 : Bool), v15 = .bool x15_2 ∧ Aside0 (soundingsref01_Cmp.j1 kq l0 l1 x5_1 x15_2 = some r) ∧ Aside0 (kq ≤ k1) ∧ Drawn0 w wc)
      case first =>
        have H := HC3.out
        clear HC3
        by_cases c4 : x5_1 < (l0.length : Int)
        · rw [if_pos c4] at H
          have c4b0 : decide (x5_1 < (l0.length : Int)) = true := decide_eq_true c4
          clear c4
          (first | rw [c4b0] | (simp only [i64_w, i32_w]; rw [c4b0]) | skip)
          have H' := Aside0.mk H
          clear H
          go_wp2
          repeat (go_quiet (fail); try go_wp2)
          go_meet
          case rel => exact ⟨_, (decide (x5_1 < (l1.length : Int))), (by first | rfl | (simp; done) | (simp [*]; done)), H', ⟨by have := HK1.out; first | omega | exact Nat.le_refl _⟩, by repeat (first | exact Drawn0.refl _ | apply Drawn0.step)⟩
        · rw [if_neg c4] at H
          have c4b0 : decide (x5_1 < (l0.length : Int)) = false := decide_eq_false c4
          clear c4
          (first | rw [c4b0] | (simp only [i64_w, i32_w]; rw [c4b0]) | skip)
          have H' := Aside0.mk H
          clear H
          go_wp2
          repeat (go_quiet (fail); try go_wp2)
          go_meet
          case rel => exact ⟨_, (false), (by first | rfl | (simp; done) | (simp [*]; done)), H', ⟨by have := HK1.out; first | omega | exact Nat.le_refl _⟩, by repeat (first | exact Drawn0.refl _ | apply Drawn0.step)⟩
      case rest =>
        clear HC3
        try clear c1
        try clear p2
        try clear c4
        try clear c4b0
        try clear p2
        obtain ⟨kq, x15_2, rfl, HA, HJ2, ⟨mc2, rfl⟩⟩ := hcut
        cases kq with
        | zero => exact absurd HA.out (by simp [soundingsref01_Cmp.j1])
        | succ kj2 =>
          have H := HA.out
          clear HA
          simp only [soundingsref01_Cmp.j1] at H
          by_cases c5 : x15_2 = true
          · subst c5
            have H1 : (if 0 ≤ x5_1 then (if x5_1 < (l0.length : Int) then (if x5_1 < (l1.length : Int) then (if (Op.bytesLess (((rd_T36 l0 x5_1).f0).toList) (((rd_T36 l1 x5_1).f0).toList)) = true then (soundingsref01_Cmp.j2 kj2 l0 l1 x5_1 true) else (if ((rd_T36 l0 x5_1).f0).toList = ((rd_T36 l1 x5_1).f0).toList then (soundingsref01_Cmp.j2 kj2 l0 l1 x5_1 (Op.bytesLess (((rd_T36 l0 x5_1).f1).toList) (((rd_T36 l1 x5_1).f1).toList))) else (soundingsref01_Cmp.j2 kj2 l0 l1 x5_1 false))) else (none)) else (none)) else (none)) = some r := by rw [if_pos rfl] at H; exact H
            clear H
            have H := H1
            clear H1
            have HC6 := Aside0.mk H
            clear H
            go_upto_region 4 with (fail)
            repeat (go_quiet (fail); go_upto_region 4 with (fail))
            go_cut [54] (fun v54 wc => ∃ (kq : Nat) (x54_5 : Bool), v54 = .bool x54_5 ∧ Aside0 (soundingsref01_Cmp.j2 kq l0 l1 x5_1 x54_5 = some r) ∧ Aside0 (kq ≤ kj2) ∧ Drawn0 w wc)
            case first =>
              have H := HC6.out
              clear HC6
              by_cases c7 : 0 ≤ x5_1
              · rw [if_pos c7] at H
                have c7b0 : decide (0 ≤ x5_1) = true := decide_eq_true c7
                clear c7
                (first | rw [c7b0] | (simp only [i64_w, i32_w]; rw [c7b0]) | skip)
                by_cases c8 : x5_1 < (l0.length : Int)
                · rw [if_pos c8] at H
                  have c8b0 : decide (x5_1 < (l0.length : Int)) = true := decide_eq_true c8
                  clear c8
                  by_cases c9 : x5_1 < (l1.length : Int)
                  · rw [if_pos c9] at H
                    have c9b0 : decide (x5_1 < (l1.length : Int)) = true := decide_eq_true c9
                    clear c9
                    by_cases c10 : (Op.bytesLess (((rd_T36 l0 x5_1).f0).toList) (((rd_T36 l1 x5_1).f0).toList)) = true
                    · rw [if_pos c10] at H
                      have c10b0 : (Op.bytesLess (((rd_T36 l0 x5_1).f0).toList) (((rd_T36 l1 x5_1).f0).toList)) = true := c10
                      clear c10
                      have H' := Aside0.mk H
                      clear H
                      have p195 : 0 ≤ (x5_1 : Int) := of_decide_eq_true (by first | (with_reducible assumption) | assumption)
                      have q195 : x5_1 < (l0.length : Int) := of_decide_eq_true (by first | (with_reducible assumption) | assumption)
                      obtain ⟨ad195, e195, hx195_0, hx195_1⟩ := at_T36 HR0.out x5_1 p195 q195
                      cases e195
                      replace p195 := eq_true p195
                      replace q195 := eq_true q195
                      have p196 : 0 ≤ (x5_1 : Int) := of_decide_eq_true (by first | (with_reducible assumption) | assumption)
                      have q196 : x5_1 < (l1.length : Int) := of_decide_eq_true (by first | (with_reducible assumption) | assumption)
                      obtain ⟨ad196, e196, hx196_0, hx196_1⟩ := at_T36 HR1.out x5_1 p196 q196
                      cases e196
                      replace p196 := eq_true p196
                      replace q196 := eq_true q196
                      go_wp2
                      repeat (go_quiet (fail); try go_wp2)
                      go_meet
                      case rel => exact ⟨_, (true), (by first | rfl | (simp; done) | (simp [*]; done)), H', ⟨by have := HK1.out; have := HJ2.out; first | omega | exact Nat.le_refl _⟩, by repeat (first | exact Drawn0.refl _ | apply Drawn0.step)⟩
                    · rw [if_neg c10] at H
                      have c10b0 : (Op.bytesLess (((rd_T36 l0 x5_1).f0).toList) (((rd_T36 l1 x5_1).f0).toList)) = false := by simpa using c10
                      clear c10
                      by_cases c11 : ((rd_T36 l0 x5_1).f0).toList = ((rd_T36 l1 x5_1).f0).toList
                      · rw [if_pos c11] at H
                        have c11b0 : (((rd_T36 l0 x5_1).f0).toList == ((rd_T36 l1 x5_1).f0).toList) = true := beq_iff_eq.mpr c11
                        have c11b1 : (((rd_T36 l0 x5_1).f0).toList != ((rd_T36 l1 x5_1).f0).toList) = false := bne_eq_false_iff_eq.mpr c11
                        clear c11
                        have H' := Aside0.mk H
                        clear H
                        have p195 : 0 ≤ (x5_1 : Int) := of_decide_eq_true (by first | (with_reducible assumption) | assumption)
                        have q195 : x5_1 < (l0.length : Int) := of_decide_eq_true (by first | (with_reducible assumption) | assumption)
                        obtain ⟨ad195, e195, hx195_0, hx195_1⟩ := at_T36 HR0.out x5_1 p195 q195
                        cases e195
                        replace p195 := eq_true p195
                        replace q195 := eq_true q195
                        have p196 : 0 ≤ (x5_1 : Int) := of_decide_eq_true (by first | (with_reducible assumption) | assumption)
                        have q196 : x5_1 < (l1.length : Int) := of_decide_eq_true (by first | (with_reducible assumption) | assumption)
                        obtain ⟨ad196, e196, hx196_0, hx196_1⟩ := at_T36 HR1.out x5_1 p196 q196
                        cases e196
                        replace p196 := eq_true p196
                        replace q196 := eq_true q196
                        have p197 : 0 ≤ (x5_1 : Int) := of_decide_eq_true (by first | (with_reducible assumption) | assumption)
                        have q197 : x5_1 < (l0.length : Int) := of_decide_eq_true (by first | (with_reducible assumption) | assumption)
                        obtain ⟨ad197, e197, hx197_0, hx197_1⟩ := at_T36 HR0.out x5_1 p197 q197
                        obtain rfl : ad195 = ad197 := (by injection e197)
                        replace p197 := eq_true p197
                        replace q197 := eq_true q197
                        have p198 : 0 ≤ (x5_1 : Int) := of_decide_eq_true (by first | (with_reducible assumption) | assumption)
                        have q198 : x5_1 < (l1.length : Int) := of_decide_eq_true (by first | (with_reducible assumption) | assumption)
                        obtain ⟨ad198, e198, hx198_0, hx198_1⟩ := at_T36 HR1.out x5_1 p198 q198
                        obtain rfl : ad196 = ad198 := (by injection e198)
                        replace p198 := eq_true p198
                        replace q198 := eq_true q198
                        have p199 : 0 ≤ (x5_1 : Int) := of_decide_eq_true (by first | (with_reducible assumption) | assumption)
                        have q199 : x5_1 < (l0.length : Int) := of_decide_eq_true (by first | (with_reducible assumption) | assumption)
                        obtain ⟨ad199, e199, hx199_0, hx199_1⟩ := at_T36 HR0.out x5_1 p199 q199
                        obtain rfl : ad195 = ad199 := (by injection e199)
                        replace p199 := eq_true p199
                        replace q199 := eq_true q199
                        have p200 : 0 ≤ (x5_1 : Int) := of_decide_eq_true (by first | (with_reducible assumption) | assumption)
                        have q200 : x5_1 < (l1.length : Int) := of_decide_eq_true (by first | (with_reducible assumption) | assumption)
                        obtain ⟨ad200, e200, hx200_0, hx200_1⟩ := at_T36 HR1.out x5_1 p200 q200
                        obtain rfl : ad196 = ad200 := (by injection e200)
                        replace p200 := eq_true p200
                        replace q200 := eq_true q200
                        go_wp2
                        repeat (go_quiet (fail); try go_wp2)
                        go_meet
                        case rel => exact ⟨_, ((Op.bytesLess (((rd_T36 l0 x5_1).f1).toList) (((rd_T36 l1 x5_1).f1).toList))), (by first | rfl | (simp; done) | (simp [*]; done)), H', ⟨by have := HK1.out; have := HJ2.out; first | omega | exact Nat.le_refl _⟩, by repeat (first | exact Drawn0.refl _ | apply Drawn0.step)⟩
                      · rw [if_neg c11] at H
                        have c11b0 : (((rd_T36 l0 x5_1).f0).toList == ((rd_T36 l1 x5_1).f0).toList) = false := beq_eq_false_iff_ne.mpr c11
                        have c11b1 : (((rd_T36 l0 x5_1).f0).toList != ((rd_T36 l1 x5_1).f0).toList) = true := bne_iff_ne.mpr c11
                        have H' := Aside0.mk H
                        clear H
                        have p195 : 0 ≤ (x5_1 : Int) := of_decide_eq_true (by first | (with_reducible assumption) | assumption)
                        have q195 : x5_1 < (l0.length : Int) := of_decide_eq_true (by first | (with_reducible assumption) | assumption)
                        obtain ⟨ad195, e195, hx195_0, hx195_1⟩ := at_T36 HR0.out x5_1 p195 q195
                        cases e195
                        replace p195 := eq_true p195
                        replace q195 := eq_true q195
                        have p196 : 0 ≤ (x5_1 : Int) := of_decide_eq_true (by first | (with_reducible assumption) | assumption)
                        have q196 : x5_1 < (l1.length : Int) := of_decide_eq_true (by first | (with_reducible assumption) | assumption)
                        obtain ⟨ad196, e196, hx196_0, hx196_1⟩ := at_T36 HR1.out x5_1 p196 q196
                        cases e196
                        replace p196 := eq_true p196
                        replace q196 := eq_true q196
                        have p197 : 0 ≤ (x5_1 : Int) := of_decide_eq_true (by first | (with_reducible assumption) | assumption)
                        have q197 : x5_1 < (l0.length : Int) := of_decide_eq_true (by first | (with_reducible assumption) | assumption)
                        obtain ⟨ad197, e197, hx197_0, hx197_1⟩ := at_T36 HR0.out x5_1 p197 q197
                        obtain rfl : ad195 = ad197 := (by injection e197)
                        replace p197 := eq_true p197
                        replace q197 := eq_true q197
                        have p198 : 0 ≤ (x5_1 : Int) := of_decide_eq_true (by first | (with_reducible assumption) | assumption)
                        have q198 : x5_1 < (l1.length : Int) := of_decide_eq_true (by first | (with_reducible assumption) | assumption)
                        obtain ⟨ad198, e198, hx198_0, hx198_1⟩ := at_T36 HR1.out x5_1 p198 q198
                        obtain rfl : ad196 = ad198 := (by injection e198)
                        replace p198 := eq_true p198
                        replace q198 := eq_true q198
                        go_wp2
                        repeat (go_quiet (fail); try go_wp2)
                        go_meet
                        case rel => exact ⟨_, (false), (by first | rfl | (simp; done) | (simp [*]; done)), H', ⟨by have := HK1.out; have := HJ2.out; first | omega | exact Nat.le_refl _⟩, by repeat (first | exact Drawn0.refl _ | apply Drawn0.step)⟩
                  · rw [if_neg c9] at H
                    exact absurd H (by simp)
                · rw [if_neg c8] at H
                  exact absurd H (by simp)
              · rw [if_neg c7] at H
                exact absurd H (by simp)
            case rest =>
              clear HC6
              try clear c1
              try clear p1
              try clear q1
              try clear hx1
              try clear c2
              try clear p2
              try clear q2
              try clear hx2
              try clear c4
              try clear c4b0
              try clear c5
              try clear c7
              try clear c7b0
              try clear c8
              try clear c8b0
              try clear c9
              try clear c9b0
              try clear c10
              try clear c10b0
              try clear c11
              try clear c11b0
              try clear c11b1
              try clear hx195_0
              try clear hx195_1
              try clear hx196_0
              try clear hx196_1
              try clear hx197_0
              try clear hx197_1
              try clear hx198_0
              try clear hx198_1
              try clear hx199_0
              try clear hx199_1
              try clear hx200_0
              try clear hx200_1
              try clear p195
              try clear p196
              try clear p197
              try clear p198
              try clear p199
              try clear p2
              try clear p200
              try clear q195
              try clear q196
              try clear q197
              try clear q198
              try clear q199
              try clear q200
              obtain ⟨kq, x54_5, rfl, HA, HJ5, ⟨mc5, rfl⟩⟩ := hcut
              cases kq with
              | zero => exact absurd HA.out (by simp [soundingsref01_Cmp.j2])
              | succ kj5 =>
                have H := HA.out
                clear HA
                simp only [soundingsref01_Cmp.j2] at H
                by_cases c12 : x54_5 = true
                · subst c12
                  have H1 : (some (-1)) = some r := by rw [if_pos rfl] at H; exact H
                  clear H
                  have H := H1
                  clear H1
                  obtain rfl := Option.some.inj H
                  go_wp2
                  repeat (go_quiet (fail); try go_wp2)
                  go_ret
                  exact ⟨by first | rfl | (simp; done) | (simp [*]; done), by repeat (first | exact Drawn0.refl _ | apply Drawn0.step)⟩
                · replace c12 := Bool.eq_false_iff.mpr c12
                  subst c12
                  have H1 : (if 0 ≤ x5_1 then (if x5_1 < (l0.length : Int) then (if x5_1 < (l1.length : Int) then (if (!((((rd_T36 l0 x5_1).f0).toList) == (((rd_T36 l1 x5_1).f0).toList)) || (!((((rd_T36 l0 x5_1).f1).toList) == (((rd_T36 l1 x5_1).f1).toList)))) = true then (some 1) else (soundingsref01_Cmp.l0 kj5 l0 l1 (wrap64 (x5_1 + 1)))) else (none)) else (none)) else (none)) = some r := by rw [if_neg (show ¬ (false = true) by decide)] at H; exact H
                  clear H
                  have H := H1
                  clear H1
                  by_cases c13 : 0 ≤ x5_1
                  · rw [if_pos c13] at H
                    have c13b0 : decide (0 ≤ x5_1) = true := decide_eq_true c13
                    clear c13
                    by_cases c14 : x5_1 < (l0.length : Int)
                    · rw [if_pos c14] at H
                      have c14b0 : decide (x5_1 < (l0.length : Int)) = true := decide_eq_true c14
                      clear c14
                      by_cases c15 : x5_1 < (l1.length : Int)
                      · rw [if_pos c15] at H
                        have c15b0 : decide (x5_1 < (l1.length : Int)) = true := decide_eq_true c15
                        clear c15
                        by_cases c16 : (!((((rd_T36 l0 x5_1).f0).toList) == (((rd_T36 l1 x5_1).f0).toList)) || (!((((rd_T36 l0 x5_1).f1).toList) == (((rd_T36 l1 x5_1).f1).toList)))) = true
                        · rw [if_pos c16] at H
                          have c16b0 : (!((((rd_T36 l0 x5_1).f0).toList) == (((rd_T36 l1 x5_1).f0).toList)) || (!((((rd_T36 l0 x5_1).f1).toList) == (((rd_T36 l1 x5_1).f1).toList)))) = true := c16
                          clear c16
                          obtain rfl := Option.some.inj H
                          have p201 : 0 ≤ (x5_1 : Int) := of_decide_eq_true (by first | (with_reducible assumption) | assumption)
                          have q201 : x5_1 < (l0.length : Int) := of_decide_eq_true (by first | (with_reducible assumption) | assumption)
                          obtain ⟨ad201, e201, hx201_0, hx201_1⟩ := at_T36 HR0.out x5_1 p201 q201
                          cases e201
                          replace p201 := eq_true p201
                          replace q201 := eq_true q201
                          have p202 : 0 ≤ (x5_1 : Int) := of_decide_eq_true (by first | (with_reducible assumption) | assumption)
                          have q202 : x5_1 < (l1.length : Int) := of_decide_eq_true (by first | (with_reducible assumption) | assumption)
                          obtain ⟨ad202, e202, hx202_0, hx202_1⟩ := at_T36 HR1.out x5_1 p202 q202
                          cases e202
                          replace p202 := eq_true p202
                          replace q202 := eq_true q202
                          go_wp2
                          repeat (go_quiet (fail); try go_wp2)
                          go_ret
                          exact ⟨by first | rfl | (simp; done) | (simp [*]; done), by repeat (first | exact Drawn0.refl _ | apply Drawn0.step)⟩
                        · rw [if_neg c16] at H
                          have c16b0 : (!((((rd_T36 l0 x5_1).f0).toList) == (((rd_T36 l1 x5_1).f0).toList)) || (!((((rd_T36 l0 x5_1).f1).toList) == (((rd_T36 l1 x5_1).f1).toList)))) = false := by simpa using c16
                          clear c16
                          have H' := Aside0.mk H
                          clear H
                          have p201 : 0 ≤ (x5_1 : Int) := of_decide_eq_true (by first | (with_reducible assumption) | assumption)
                          have q201 : x5_1 < (l0.length : Int) := of_decide_eq_true (by first | (with_reducible assumption) | assumption)
                          obtain ⟨ad201, e201, hx201_0, hx201_1⟩ := at_T36 HR0.out x5_1 p201 q201
                          cases e201
                          replace p201 := eq_true p201
                          replace q201 := eq_true q201
                          have p202 : 0 ≤ (x5_1 : Int) := of_decide_eq_true (by first | (with_reducible assumption) | assumption)
                          have q202 : x5_1 < (l1.length : Int) := of_decide_eq_true (by first | (with_reducible assumption) | assumption)
                          obtain ⟨ad202, e202, hx202_0, hx202_1⟩ := at_T36 HR1.out x5_1 p202 q202
                          cases e202
                          replace p202 := eq_true p202
                          replace q202 := eq_true q202
                          go_wp2
                          repeat (go_quiet (fail); try go_wp2)
                          go_roundg kj5
                          case measure => have := HK1.out; have := HJ2.out; have := HJ5.out; omega
                          case rel => exact ⟨(wrap64 (x5_1 + 1)), (by first | rfl | (simp; done) | (simp [*]; done)), H', ⟨by have := HK1.out; have := HJ2.out; have := HJ5.out; omega⟩, by repeat (first | exact Drawn0.refl _ | apply Drawn0.step)⟩
                      · rw [if_neg c15] at H
                        exact absurd H (by simp)
                    · rw [if_neg c14] at H
                      exact absurd H (by simp)
                  · rw [if_neg c13] at H
                    exact absurd H (by simp)
          · replace c5 := Bool.eq_false_iff.mpr c5
            subst c5
            have H1 : (if (l0.length : Int) < (l1.length : Int) then (some (-1)) else (if (l0.length : Int) > (l1.length : Int) then (some 1) else (some 0))) = some r := by rw [if_neg (show ¬ (false = true) by decide)] at H; exact H
            clear H
            have H := H1
            clear H1
            by_cases c17 : (l0.length : Int) < (l1.length : Int)
            · rw [if_pos c17] at H
              have c17b0 : decide ((l0.length : Int) < (l1.length : Int)) = true := decide_eq_true c17
              have c17b1 : decide (l0.length < l1.length) = true := decide_eq_true (Int.ofNat_lt.mp c17)
              clear c17
              obtain rfl := Option.some.inj H
              go_wp2
              repeat (go_quiet (fail); try go_wp2)
              go_ret
              exact ⟨by first | rfl | (simp; done) | (simp [*]; done), by repeat (first | exact Drawn0.refl _ | apply Drawn0.step)⟩
            · rw [if_neg c17] at H
              have c17b0 : decide ((l0.length : Int) < (l1.length : Int)) = false := decide_eq_false c17
              have c17b1 : decide (l0.length < l1.length) = false := decide_eq_false (fun h => c17 (Int.ofNat_lt.mpr h))
              clear c17
              by_cases c18 : (l0.length : Int) > (l1.length : Int)
              · rw [if_pos c18] at H
                have c18b0 : decide ((l1.length : Int) < (l0.length : Int)) = true := decide_eq_true c18
                have c18b1 : decide (l1.length < l0.length) = true := decide_eq_true (Int.ofNat_lt.mp c18)
                clear c18
                obtain rfl := Option.some.inj H
                go_wp2
                repeat (go_quiet (fail); try go_wp2)
                go_ret
                exact ⟨by first | rfl | (simp; done) | (simp [*]; done), by repeat (first | exact Drawn0.refl _ | apply Drawn0.step)⟩
              · rw [if_neg c18] at H
                have c18b0 : decide ((l1.length : Int) < (l0.length : Int)) = false := decide_eq_false c18
                have c18b1 : decide (l1.length < l0.length) = false := decide_eq_false (fun h => c18 (Int.ofNat_lt.mpr h))
                clear c18
                obtain rfl := Option.some.inj H
                go_wp2
                repeat (go_quiet (fail); try go_wp2)
                go_ret
                exact ⟨by first | rfl | (simp; done) | (simp [*]; done), by repeat (first | exact Drawn0.refl _ | apply Drawn0.step)⟩

end Go.Proofs.YtmgbnnanophehabDoor.L
