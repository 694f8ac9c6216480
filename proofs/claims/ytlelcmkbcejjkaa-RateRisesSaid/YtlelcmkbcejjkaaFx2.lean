/- Functions of the program as Lean functions, and the contracts by which the Go code comes to their answers, for every argument that can be read. Written by a program of this session over the print of the kit. -/
import Derived.Test.YtlelcmkbcejjkaaFx0
namespace Go.Proofs.Ytlelcmkbcejjkaa.F
open Go.RowKit Go.Proofs.YtlelcmkbcejjkaaW.PrintWords Go.Proofs.YtlelcmkbcejjkaaW.PrintLast Go.Proofs.YtlelcmkbcejjkaaW.PrintMore
attribute [local go_sem high] Go.Proofs.Ytlelcmkbcejjkaa.Less.str_leq Go.Proofs.Ytlelcmkbcejjkaa.Less.str_gtr Go.Proofs.Ytlelcmkbcejjkaa.Less.str_geq
attribute [local go_sem] max2_int min2_int max_two min_two max_three min_three max_four min_four   -- for this text's walks alone
set_option linter.unusedVariables false
set_option linter.unusedSimpArgs false

/-! ### rate_may: function 12 -/
mutual
def rate_may.j0 : Nat → List (S28) → Bool → Option (Bool)
  | 0, _, _ => none
  | k + 1, x0, x45 => if x45 = true then (some false) else (if 1 ≤ (x0.length : Int) then (rate_may.l0 k x0 ((x0.drop 1).length : Int) 0) else (none))
def rate_may.l0 : Nat → List (S28) → Int → Int → Option (Bool)
  | 0, _, _, _ => none
  | k + 1, x0, x48, x49 => if x49 < x48 then (if 0 ≤ x49 then (if x49 < (x0.length : Int) then (if 0 ≤ (wrap64 (x49 + 1)) then (if (wrap64 (x49 + 1)) < (x0.length : Int) then (if ((rd_T28 x0 x49).f0) ≥ ((rd_T28 x0 (wrap64 (x49 + 1))).f0) then (some false) else (rate_may.l0 k x0 x48 (wrap64 (x49 + 1)))) else (none)) else (none)) else (none)) else (none)) else (some true)
end
def rate_may.f (k : Nat) (l0 : List (S28)) (a1 : Int) (a2 : Int) : Option (Bool) := if (l0.length : Int) < 2 then (rate_may.j0 k l0 true) else (if a1 < (-4503599627370496) then (rate_may.j0 k l0 true) else (if a1 > 4503599627370496 then (rate_may.j0 k l0 true) else (if a2 < (-4503599627370496) then (rate_may.j0 k l0 true) else (if a2 > 4503599627370496 then (rate_may.j0 k l0 true) else (if 0 < (l0.length : Int) then (if ((rd_T28 l0 0).f0) ≤ a1 then (rate_may.j0 k l0 true) else (if 0 ≤ (wrap64 ((l0.length : Int) - 1)) then (if (wrap64 ((l0.length : Int) - 1)) < (l0.length : Int) then (rate_may.j0 k l0 (decide (((rd_T28 l0 (wrap64 ((l0.length : Int) - 1))).f0) > a2))) else (none)) else (none))) else (none))))))
theorem rate_may.mono_l : ∀ k, (∀ y0 y1, LeO (rate_may.j0 k y0 y1) (rate_may.j0 (k + 1) y0 y1)) ∧ (∀ y0 y1 y2, LeO (rate_may.l0 k y0 y1 y2) (rate_may.l0 (k + 1) y0 y1 y2))
  | 0 => ⟨fun _ _ r h => by simp [rate_may.j0] at h, fun _ _ _ r h => by simp [rate_may.l0] at h⟩
  | k + 1 => by
    obtain ⟨ih0, ih1⟩ := rate_may.mono_l k
    refine ⟨?_, ?_⟩
    · intro y0 y1
      unfold rate_may.j0
      repeat' first
      | (with_reducible exact ih0 _ _)
      | (with_reducible exact ih1 _ _ _)
      | (with_reducible exact LeO.refl _)
      | (with_reducible exact LeO.none _)
      | (with_reducible refine LeO.ite ?_ ?_)
      | (with_reducible refine LeO.bind ?_ (fun _ => ?_))
      | exact ih0 _ _
      | exact ih1 _ _ _
      | exact LeO.none _
      | refine LeO.ite ?_ ?_
      | refine LeO.bind ?_ (fun _ => ?_)
    · intro y0 y1 y2
      unfold rate_may.l0
      repeat' first
      | (with_reducible exact ih0 _ _)
      | (with_reducible exact ih1 _ _ _)
      | (with_reducible exact LeO.refl _)
      | (with_reducible exact LeO.none _)
      | (with_reducible refine LeO.ite ?_ ?_)
      | (with_reducible refine LeO.bind ?_ (fun _ => ?_))
      | exact ih0 _ _
      | exact ih1 _ _ _
      | exact LeO.none _
      | refine LeO.ite ?_ ?_
      | refine LeO.bind ?_ (fun _ => ?_)
theorem rate_may.mono : ∀ a0 a1 a2 k, LeO (rate_may.f k a0 a1 a2) (rate_may.f (k + 1) a0 a1 a2) := by
  intro a0 a1 a2 k
  obtain ⟨ih0, ih1⟩ := rate_may.mono_l k
  unfold rate_may.f
  repeat' first
      | (with_reducible exact ih0 _ _)
      | (with_reducible exact ih1 _ _ _)
      | (with_reducible exact LeO.refl _)
      | (with_reducible exact LeO.none _)
      | (with_reducible refine LeO.ite ?_ ?_)
      | (with_reducible refine LeO.bind ?_ (fun _ => ?_))
      | exact ih0 _ _
      | exact ih1 _ _ _
      | exact LeO.none _
      | refine LeO.ite ?_ ?_
      | refine LeO.bind ?_ (fun _ => ?_)
set_option maxHeartbeats 8000000 in
set_option maxRecDepth 100000 in
theorem rate_may.calls (k : Nat) (A0 : Option Addr) (c0 : Nat) (l0 : List (S28)) (a1 : Int) (a2 : Int) (r : Bool) (w : World) (hr0 : Kd.C k28 w A0 l0.length l0) (hc0 : l0.length ≤ c0) (h : rate_may.f k l0 a1 a2 = some r) :
    Calls Try.prog 12 #[.slice A0 l0.length c0, .int .i64 a1, .int .i64 a2] w fun e w' => e = .returned (.bool r) ∧ Drawn0 w w' := by
  have HR0 := Aside0.mk hr0
  have HC0 := Aside0.mk hc0
  clear hr0 hc0
  have H : (if (l0.length : Int) < 2 then (rate_may.j0 k l0 true) else (if a1 < (-4503599627370496) then (rate_may.j0 k l0 true) else (if a1 > 4503599627370496 then (rate_may.j0 k l0 true) else (if a2 < (-4503599627370496) then (rate_may.j0 k l0 true) else (if a2 > 4503599627370496 then (rate_may.j0 k l0 true) else (if 0 < (l0.length : Int) then (if ((rd_T28 l0 0).f0) ≤ a1 then (rate_may.j0 k l0 true) else (if 0 ≤ (wrap64 ((l0.length : Int) - 1)) then (if (wrap64 ((l0.length : Int) - 1)) < (l0.length : Int) then (rate_may.j0 k l0 (decide (((rd_T28 l0 (wrap64 ((l0.length : Int) - 1))).f0) > a2))) else (none)) else (none))) else (none))))))) = some r := h
  clear h
  have HC4 := Aside0.mk H
  clear H
  go_enter Try.func12, Try.ntmps12
  go_upto_region 1 with (fail)
  repeat (go_quiet (fail); go_upto_region 1 with (fail))
  go_cut [45] (fun v45 wc => ∃ (kq : Nat) (x45_3 : Bool), v45 = .bool x45_3 ∧ Aside0 (rate_may.j0 kq l0 x45_3 = some r) ∧ Aside0 (kq ≤ k) ∧ Drawn0 w wc)
  case first =>
    have H := HC4.out
    clear HC4
    by_cases c5 : (l0.length : Int) < 2
    · rw [if_pos c5] at H
      have c5b0 : decide ((l0.length : Int) < 2) = true := decide_eq_true c5
      have c5b1 : decide (l0.length < 2) = true := decide_eq_true (by omega)
      clear c5
      (first | rw [c5b0] | (simp only [i64_w, i32_w]; rw [c5b0]) | skip)
      have H' := Aside0.mk H
      clear H
      go_wp2
      repeat (go_quiet (fail); try go_wp2)
      go_meet
      case rel => exact ⟨_, (true), (by first | rfl | (simp; done) | (simp [*]; done)), H', ⟨by first | omega | exact Nat.le_refl _⟩, by repeat (first | exact Drawn0.refl _ | apply Drawn0.step)⟩
    · rw [if_neg c5] at H
      have c5b0 : decide ((l0.length : Int) < 2) = false := decide_eq_false c5
      have c5b1 : decide (l0.length < 2) = false := decide_eq_false (by omega)
      clear c5
      (first | rw [c5b0] | (simp only [i64_w, i32_w]; rw [c5b0]) | skip)
      by_cases c6 : a1 < (-4503599627370496)
      · rw [if_pos c6] at H
        have c6b0 : decide (a1 < (-4503599627370496)) = true := decide_eq_true c6
        clear c6
        have H' := Aside0.mk H
        clear H
        go_wp2
        repeat (go_quiet (fail); try go_wp2)
        go_meet
        case rel => exact ⟨_, (true), (by first | rfl | (simp; done) | (simp [*]; done)), H', ⟨by first | omega | exact Nat.le_refl _⟩, by repeat (first | exact Drawn0.refl _ | apply Drawn0.step)⟩
      · rw [if_neg c6] at H
        have c6b0 : decide (a1 < (-4503599627370496)) = false := decide_eq_false c6
        clear c6
        by_cases c7 : a1 > 4503599627370496
        · rw [if_pos c7] at H
          have c7b0 : decide (4503599627370496 < a1) = true := decide_eq_true c7
          clear c7
          have H' := Aside0.mk H
          clear H
          go_wp2
          repeat (go_quiet (fail); try go_wp2)
          go_meet
          case rel => exact ⟨_, (true), (by first | rfl | (simp; done) | (simp [*]; done)), H', ⟨by first | omega | exact Nat.le_refl _⟩, by repeat (first | exact Drawn0.refl _ | apply Drawn0.step)⟩
        · rw [if_neg c7] at H
          have c7b0 : decide (4503599627370496 < a1) = false := decide_eq_false c7
          clear c7
          by_cases c8 : a2 < (-4503599627370496)
          · rw [if_pos c8] at H
            have c8b0 : decide (a2 < (-4503599627370496)) = true := decide_eq_true c8
            clear c8
            have H' := Aside0.mk H
            clear H
            go_wp2
            repeat (go_quiet (fail); try go_wp2)
            go_meet
            case rel => exact ⟨_, (true), (by first | rfl | (simp; done) | (simp [*]; done)), H', ⟨by first | omega | exact Nat.le_refl _⟩, by repeat (first | exact Drawn0.refl _ | apply Drawn0.step)⟩
          · rw [if_neg c8] at H
            have c8b0 : decide (a2 < (-4503599627370496)) = false := decide_eq_false c8
            clear c8
            by_cases c9 : a2 > 4503599627370496
            · rw [if_pos c9] at H
              have c9b0 : decide (4503599627370496 < a2) = true := decide_eq_true c9
              clear c9
              have H' := Aside0.mk H
              clear H
              go_wp2
              repeat (go_quiet (fail); try go_wp2)
              go_meet
              case rel => exact ⟨_, (true), (by first | rfl | (simp; done) | (simp [*]; done)), H', ⟨by first | omega | exact Nat.le_refl _⟩, by repeat (first | exact Drawn0.refl _ | apply Drawn0.step)⟩
            · rw [if_neg c9] at H
              have c9b0 : decide (4503599627370496 < a2) = false := decide_eq_false c9
              clear c9
              by_cases c10 : 0 < (l0.length : Int)
              · rw [if_pos c10] at H
                have c10b0 : decide (0 < (l0.length : Int)) = true := decide_eq_true c10
                have c10b1 : decide (0 < l0.length) = true := decide_eq_true (by omega)
                clear c10
                by_cases c11 : ((rd_T28 l0 0).f0) ≤ a1
                · rw [if_pos c11] at H
                  have c11b0 : decide (((rd_T28 l0 0).f0) ≤ a1) = true := decide_eq_true c11
                  clear c11
                  have H' := Aside0.mk H
                  clear H
                  have p101 : 0 ≤ (0 : Int) := (by omega)
                  have q101 : 0 < (l0.length : Int) := of_decide_eq_true (by first | (with_reducible assumption) | assumption)
                  obtain ⟨ad101, e101, hx101_0, hx101_1⟩ := at_T28 HR0.out 0 p101 q101
                  cases e101
                  have qi101 : (0 < l0.length) = True := eq_true (by omega)
                  (try rw [show ((0 : Int)).toNat = 0 from rfl] at hx101_0)
                  (try rw [show 0 * 2 = 0 from rfl] at hx101_0)
                  (try rw [Addr.add_zero'] at hx101_0)
                  (try rw [show ((0 : Int)).toNat = 0 from rfl] at hx101_1)
                  (try rw [show 0 * 2 = 0 from rfl] at hx101_1)
                  (try rw [Addr.add_zero'] at hx101_1)
                  replace p101 := eq_true p101
                  replace q101 := eq_true q101
                  go_wp2
                  repeat (go_quiet (fail); try go_wp2)
                  go_meet
                  case rel => exact ⟨_, (true), (by first | rfl | (simp; done) | (simp [*]; done)), H', ⟨by first | omega | exact Nat.le_refl _⟩, by repeat (first | exact Drawn0.refl _ | apply Drawn0.step)⟩
                · rw [if_neg c11] at H
                  have c11b0 : decide (((rd_T28 l0 0).f0) ≤ a1) = false := decide_eq_false c11
                  clear c11
                  obtain ⟨ji12, hji12⟩ : ∃ j_ : Int, (wrap64 ((l0.length : Int) - 1)) = j_ := ⟨_, rfl⟩
                  replace H : (if 0 ≤ (ji12) then (if (ji12) < (l0.length : Int) then (rate_may.j0 k l0 (decide (((rd_T28 l0 (ji12)).f0) > a2))) else (none)) else (none)) = some r := by first | (rw [hji12] at H; exact H) | (simp only [hji12] at H ⊢; exact H)
                  have hji12w : (IntKind.i64.wrap ((l0.length : Int) - 1)) = ji12 := (i64_w _).trans hji12
                  by_cases c13 : 0 ≤ (ji12)
                  · rw [if_pos c13] at H
                    have c13b0 : decide (0 ≤ (ji12)) = true := decide_eq_true c13
                    clear c13
                    by_cases c14 : (ji12) < (l0.length : Int)
                    · rw [if_pos c14] at H
                      have c14b0 : decide ((ji12) < (l0.length : Int)) = true := decide_eq_true c14
                      clear c14
                      have H' := Aside0.mk H
                      clear H
                      have p101 : 0 ≤ (0 : Int) := (by omega)
                      have q101 : 0 < (l0.length : Int) := of_decide_eq_true (by first | (with_reducible assumption) | assumption)
                      obtain ⟨ad101, e101, hx101_0, hx101_1⟩ := at_T28 HR0.out 0 p101 q101
                      cases e101
                      have qi101 : (0 < l0.length) = True := eq_true (by omega)
                      (try rw [show ((0 : Int)).toNat = 0 from rfl] at hx101_0)
                      (try rw [show 0 * 2 = 0 from rfl] at hx101_0)
                      (try rw [Addr.add_zero'] at hx101_0)
                      (try rw [show ((0 : Int)).toNat = 0 from rfl] at hx101_1)
                      (try rw [show 0 * 2 = 0 from rfl] at hx101_1)
                      (try rw [Addr.add_zero'] at hx101_1)
                      replace p101 := eq_true p101
                      replace q101 := eq_true q101
                      have p102 : 0 ≤ ((ji12) : Int) := of_decide_eq_true (by first | (with_reducible assumption) | assumption)
                      have q102 : (ji12) < (l0.length : Int) := of_decide_eq_true (by first | (with_reducible assumption) | assumption)
                      obtain ⟨ad102, e102, hx102_0, hx102_1⟩ := at_T28 HR0.out (ji12) p102 q102
                      obtain rfl : ad101 = ad102 := (by injection e102)
                      replace p102 := eq_true p102
                      replace q102 := eq_true q102
                      go_wp2
                      repeat (go_quiet (fail); try go_wp2)
                      go_meet
                      case rel => exact ⟨_, (decide (((rd_T28 l0 (ji12)).f0) > a2)), (by first | rfl | (simp; done) | (simp only [← hji12] <;> (first | rfl | simp)) | (simp [*]; done)), H', ⟨by first | omega | exact Nat.le_refl _⟩, by repeat (first | exact Drawn0.refl _ | apply Drawn0.step)⟩
                    · rw [if_neg c14] at H
                      exact absurd H (by simp)
                  · rw [if_neg c13] at H
                    exact absurd H (by simp)
              · rw [if_neg c10] at H
                exact absurd H (by simp)
  case rest =>
    clear HC4
    try clear c1
    try clear p1
    try clear q1
    try clear hx1
    try clear qi1
    try clear p2
    try clear c5
    try clear c5b0
    try clear c5b1
    try clear c6
    try clear c6b0
    try clear p6
    try clear c7
    try clear c7b0
    try clear c8
    try clear c8b0
    try clear c9
    try clear c9b0
    try clear c10
    try clear c10b0
    try clear c10b1
    try clear p10
    try clear q10
    try clear hx10
    try clear qi10
    try clear c11
    try clear c11b0
    try clear c12
    try clear c13
    try clear c13b0
    try clear c14
    try clear c14b0
    try clear hx101_0
    try clear hx101_1
    try clear hx102_0
    try clear hx102_1
    try clear p101
    try clear p102
    try clear q101
    try clear q102
    obtain ⟨kq, x45_3, rfl, HA, HJ3, ⟨mc3, rfl⟩⟩ := hcut
    cases kq with
    | zero => exact absurd HA.out (by simp [rate_may.j0])
    | succ kj3 =>
      have H := HA.out
      clear HA
      simp only [rate_may.j0] at H
      by_cases c15 : x45_3 = true
      · subst c15
        have H1 : (some false) = some r := by rw [if_pos rfl] at H; exact H
        clear H
        have H := H1
        clear H1
        obtain rfl := Option.some.inj H
        go_wp2
        repeat (go_quiet (fail); try go_wp2)
        go_ret
        exact ⟨by first | rfl | (simp; done) | (simp [*]; done), by repeat (first | exact Drawn0.refl _ | apply Drawn0.step)⟩
      · replace c15 := Bool.eq_false_iff.mpr c15
        subst c15
        have H1 : (if 1 ≤ (l0.length : Int) then (rate_may.l0 kj3 l0 ((l0.drop 1).length : Int) 0) else (none)) = some r := by rw [if_neg (show ¬ (false = true) by decide)] at H; exact H
        clear H
        have H := H1
        clear H1
        by_cases c16 : 1 ≤ (l0.length : Int)
        · rw [if_pos c16] at H
          have c16b0 := eq_true c16
          have c16b1 : decide (1 ≤ (l0.length : Int)) = true := decide_eq_true c16
          clear c16
          obtain ⟨y103, hy103⟩ : ∃ y_ : List (S28), y_ = (l0.drop 1) := ⟨_, rfl⟩
          replace H : (rate_may.l0 kj3 l0 (y103.length : Int) 0) = some r := by first | (rw [hy103]; with_reducible exact H) | (have H2_ := (Option.bind_some _ _).symm.trans H; rw [hy103]; with_reducible exact H2_) | (have H2_ := (Option.bind_some _ _).symm.trans H; with_reducible exact H2_) | with_reducible exact H | (rw [hy103]; exact H) | exact H
          have Ny103 := Aside0.mk hy103
          clear hy103
          have H' := Aside0.mk H
          clear H
          have q17 : (1 : Int) ≤ ((l0.length : Int) : Int) := of_decide_eq_true (by first | (with_reducible assumption) | assumption)
          obtain ⟨i017, hi017, _, hsz17, _⟩ := info_parts info28
          have hroom17 : l0.length ≤ c0 := HC0.out
          have hC17 : Kd.C k28 _ A0 l0.length l0 := HR0.out
          have hcut17 := cut_from (P := Try.prog) 22 28 .i64 Try.underlying22 hi017 2 hsz17 A0 l0.length c0 1 (by omega) q17
          have hr17 := Kd.C_drop (m := (1 : Int).toNat) (c := c0) hC17 (by omega) hroom17
          obtain ⟨A17, hA17⟩ : ∃ A1, A1 = (if c0 = (1 : Int).toNat then A0 else (A0 : Option Addr).map (·.add ((1 : Int).toNat * 2))) := ⟨_, rfl⟩
          obtain ⟨c17, hc17⟩ : ∃ c1, c1 = c0 - (1 : Int).toNat := ⟨_, rfl⟩
          have hy17 : y103.length = l0.length - (1 : Int).toNat := (by rw [Ny103.out, List.length_drop] <;> omega)
          rw [show (l0).drop (1 : Int).toNat = y103 from Ny103.out.symm] at hr17
          replace hr17 : Kd.C k28 _ A17 y103.length y103 := (by rw [hA17]; exact hr17)
          rw [← hy17, ← hA17, ← hc17] at hcut17
          have HR106 := Aside0.mk hr17
          have HC106 := Aside0.mk (show y103.length ≤ c17 from by rw [hy17, hc17]; exact Nat.sub_le_sub_right hroom17 _)
          clear hr17 hC17 hroom17 hi017 hsz17 hc17
          have KY17 := Aside0.mk hy17
          have KA17 := Aside0.mk hA17
          clear hy17 hA17
          replace q17 := eq_true q17
          go_wp2
          repeat (go_quiet (fail); try go_wp2)
          go_loopg [49] kj3 (fun kq v49 w' => ∃ (x49_2 : Int), v49 = .int .i64 x49_2 ∧ Aside0 (rate_may.l0 kq l0 (y103.length : Int) x49_2 = some r) ∧ Aside0 (kq ≤ kj3) ∧ Drawn0 w w')
          case atStart => exact ⟨(0), (by first | rfl | (simp; done) | (simp [*]; done)), H', ⟨Nat.le_refl _⟩, by repeat (first | exact Drawn0.refl _ | apply Drawn0.step)⟩
          case round =>
            clear H'
            try clear c1
            try clear p1
            try clear q1
            try clear hx1
            try clear qi1
            try clear p2
            try clear c3
            try clear c5
            try clear c5b0
            try clear c5b1
            try clear c6
            try clear c6b0
            try clear p6
            try clear c7
            try clear c7b0
            try clear c8
            try clear c8b0
            try clear c9
            try clear c9b0
            try clear c10
            try clear c10b0
            try clear c10b1
            try clear p10
            try clear q10
            try clear hx10
            try clear qi10
            try clear c11
            try clear c11b0
            try clear c12
            try clear c13
            try clear c13b0
            try clear c14
            try clear c14b0
            try clear c15
            try clear c16
            try clear c16b0
            try clear c16b1
            try clear c17
            try clear q17
            try clear hx101_0
            try clear hx101_1
            try clear hx102_0
            try clear hx102_1
            try clear p1
            try clear p10
            try clear p101
            try clear p102
            try clear p2
            try clear p6
            try clear q1
            try clear q10
            try clear q101
            try clear q102
            try clear q17
            obtain ⟨x49_2, rfl, HA, HK2, ⟨m2, rfl⟩⟩ := hrel
            cases gk with
            | zero => exact absurd HA.out (by simp [rate_may.l0])
            | succ k2 =>
              have H := HA.out
              clear HA
              simp only [rate_may.l0] at H
              by_cases c18 : x49_2 < (y103.length : Int)
              · rw [if_pos c18] at H
                have c18b0 : decide (x49_2 < (y103.length : Int)) = true := decide_eq_true c18
                clear c18
                by_cases c19 : 0 ≤ x49_2
                · rw [if_pos c19] at H
                  have c19b0 : decide (0 ≤ x49_2) = true := decide_eq_true c19
                  clear c19
                  by_cases c20 : x49_2 < (l0.length : Int)
                  · rw [if_pos c20] at H
                    have c20b0 : decide (x49_2 < (l0.length : Int)) = true := decide_eq_true c20
                    clear c20
                    obtain ⟨ji21, hji21⟩ : ∃ j_ : Int, (wrap64 (x49_2 + 1)) = j_ := ⟨_, rfl⟩
                    replace H : (if 0 ≤ (ji21) then (if (ji21) < (l0.length : Int) then (if ((rd_T28 l0 x49_2).f0) ≥ ((rd_T28 l0 (ji21)).f0) then (some false) else (rate_may.l0 k2 l0 (y103.length : Int) ji21)) else (none)) else (none)) = some r := by first | (rw [hji21] at H; exact H) | (simp only [hji21] at H ⊢; exact H)
                    have hji21w : (IntKind.i64.wrap (x49_2 + 1)) = ji21 := (i64_w _).trans hji21
                    by_cases c22 : 0 ≤ (ji21)
                    · rw [if_pos c22] at H
                      have c22b0 : decide (0 ≤ (ji21)) = true := decide_eq_true c22
                      clear c22
                      by_cases c23 : (ji21) < (l0.length : Int)
                      · rw [if_pos c23] at H
                        have c23b0 : decide ((ji21) < (l0.length : Int)) = true := decide_eq_true c23
                        clear c23
                        by_cases c24 : ((rd_T28 l0 x49_2).f0) ≥ ((rd_T28 l0 (ji21)).f0)
                        · rw [if_pos c24] at H
                          have c24b0 : decide (((rd_T28 l0 (ji21)).f0) ≤ ((rd_T28 l0 x49_2).f0)) = true := decide_eq_true c24
                          clear c24
                          obtain rfl := Option.some.inj H
                          have p107 : 0 ≤ (x49_2 : Int) := of_decide_eq_true (by first | (with_reducible assumption) | assumption)
                          have q107 : x49_2 < (l0.length : Int) := of_decide_eq_true (by first | (with_reducible assumption) | assumption)
                          obtain ⟨ad107, e107, hx107_0, hx107_1⟩ := at_T28 HR0.out x49_2 p107 q107
                          cases e107
                          replace p107 := eq_true p107
                          replace q107 := eq_true q107
                          have p108 : 0 ≤ ((ji21) : Int) := of_decide_eq_true (by first | (with_reducible assumption) | assumption)
                          have q108 : (ji21) < (l0.length : Int) := of_decide_eq_true (by first | (with_reducible assumption) | assumption)
                          obtain ⟨ad108, e108, hx108_0, hx108_1⟩ := at_T28 HR0.out (ji21) p108 q108
                          obtain rfl : ad107 = ad108 := (by injection e108)
                          replace p108 := eq_true p108
                          replace q108 := eq_true q108
                          go_wp2
                          repeat (go_quiet (fail); try go_wp2)
                          go_ret
                          exact ⟨by first | rfl | (simp; done) | (simp only [← hji21] <;> (first | rfl | simp)) | (simp [*]; done), by repeat (first | exact Drawn0.refl _ | apply Drawn0.step)⟩
                        · rw [if_neg c24] at H
                          have c24b0 : decide (((rd_T28 l0 (ji21)).f0) ≤ ((rd_T28 l0 x49_2).f0)) = false := decide_eq_false c24
                          clear c24
                          have H' := Aside0.mk H
                          clear H
                          have p107 : 0 ≤ (x49_2 : Int) := of_decide_eq_true (by first | (with_reducible assumption) | assumption)
                          have q107 : x49_2 < (l0.length : Int) := of_decide_eq_true (by first | (with_reducible assumption) | assumption)
                          obtain ⟨ad107, e107, hx107_0, hx107_1⟩ := at_T28 HR0.out x49_2 p107 q107
                          cases e107
                          replace p107 := eq_true p107
                          replace q107 := eq_true q107
                          have p108 : 0 ≤ ((ji21) : Int) := of_decide_eq_true (by first | (with_reducible assumption) | assumption)
                          have q108 : (ji21) < (l0.length : Int) := of_decide_eq_true (by first | (with_reducible assumption) | assumption)
                          obtain ⟨ad108, e108, hx108_0, hx108_1⟩ := at_T28 HR0.out (ji21) p108 q108
                          obtain rfl : ad107 = ad108 := (by injection e108)
                          replace p108 := eq_true p108
                          replace q108 := eq_true q108
                          go_wp2
                          repeat (go_quiet (fail); try go_wp2)
                          go_roundg k2
                          case measure => have := HJ3.out; have := HK2.out; omega
                          case rel => exact ⟨(ji21), (by first | rfl | (simp; done) | (simp only [← hji21] <;> (first | rfl | simp)) | (simp [*]; done)), H', ⟨by have := HJ3.out; have := HK2.out; omega⟩, by repeat (first | exact Drawn0.refl _ | apply Drawn0.step)⟩
                      · rw [if_neg c23] at H
                        exact absurd H (by simp)
                    · rw [if_neg c22] at H
                      exact absurd H (by simp)
                  · rw [if_neg c20] at H
                    exact absurd H (by simp)
                · rw [if_neg c19] at H
                  exact absurd H (by simp)
              · rw [if_neg c18] at H
                have c18b0 : decide (x49_2 < (y103.length : Int)) = false := decide_eq_false c18
                clear c18
                obtain rfl := Option.some.inj H
                go_wp2
                repeat (go_quiet (fail); try go_wp2)
                go_ret
                exact ⟨by first | rfl | (simp; done) | (simp [*]; done), by repeat (first | exact Drawn0.refl _ | apply Drawn0.step)⟩
        · rw [if_neg c16] at H
          exact absurd H (by simp)

end Go.Proofs.Ytlelcmkbcejjkaa.F
