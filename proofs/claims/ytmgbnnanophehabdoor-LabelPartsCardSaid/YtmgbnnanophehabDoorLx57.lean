/- Functions of the program as Lean functions, and the contracts by which the Go code comes to their answers, for every argument that can be read. Written by a program of this session over the print of the kit. -/
import Derived.Test.YtmgbnnanophehabDoorLx0
namespace Go.Proofs.YtmgbnnanophehabDoor.L
open Go.RowKit Go.Proofs.YtmgbnnanophehabDoorW.PrintWords Go.Proofs.YtmgbnnanophehabDoorW.PrintLast Go.Proofs.YtmgbnnanophehabDoorW.PrintMore
attribute [local go_sem high] Go.Proofs.YtmgbnnanophehabDoor.Less.str_leq Go.Proofs.YtmgbnnanophehabDoor.Less.str_gtr Go.Proofs.YtmgbnnanophehabDoor.Less.str_geq
attribute [local go_sem] max2_int min2_int max_two min_two max_three min_three max_four min_four   -- for this text's walks alone
set_option linter.unusedVariables false
set_option linter.unusedSimpArgs false

/-! ### soundingsref01_Get: function 23 -/
def soundingsref01_Get.l0 : Nat → List (S36) → ByteArray → Int → Option (ByteArray)
  | 0, _, _, _ => none
  | k + 1, x0, x1, x5 => if x5 < (x0.length : Int) then (if 0 ≤ x5 then (if ((rd_T36 x0 x5).f0).toList = x1.toList then (some ((rd_T36 x0 x5).f1)) else (soundingsref01_Get.l0 k x0 x1 (wrap64 (x5 + 1)))) else (none)) else (some (⟨#[]⟩ : ByteArray))
def soundingsref01_Get.f (k : Nat) (l0 : List (S36)) (a1 : ByteArray) : Option (ByteArray) := soundingsref01_Get.l0 k l0 a1 0
theorem soundingsref01_Get.mono_l : ∀ k, (∀ y0 y1 y2, LeO (soundingsref01_Get.l0 k y0 y1 y2) (soundingsref01_Get.l0 (k + 1) y0 y1 y2))
  | 0 => fun _ _ _ r h => by simp [soundingsref01_Get.l0] at h
  | k + 1 => by
    have ih0 := soundingsref01_Get.mono_l k
    · intro y0 y1 y2
      unfold soundingsref01_Get.l0
      repeat' first
      | (with_reducible exact ih0 _ _ _)
      | (with_reducible exact LeO.refl _)
      | (with_reducible exact LeO.none _)
      | (with_reducible refine LeO.ite ?_ ?_)
      | (with_reducible refine LeO.bind ?_ (fun _ => ?_))
      | exact ih0 _ _ _
      | exact LeO.none _
      | refine LeO.ite ?_ ?_
      | refine LeO.bind ?_ (fun _ => ?_)
theorem soundingsref01_Get.mono : ∀ a0 a1 k, LeO (soundingsref01_Get.f k a0 a1) (soundingsref01_Get.f (k + 1) a0 a1) := by
  intro a0 a1 k
  have ih0 := soundingsref01_Get.mono_l k
  unfold soundingsref01_Get.f
  repeat' first
      | (with_reducible exact ih0 _ _ _)
      | (with_reducible exact LeO.refl _)
      | (with_reducible exact LeO.none _)
      | (with_reducible refine LeO.ite ?_ ?_)
      | (with_reducible refine LeO.bind ?_ (fun _ => ?_))
      | exact ih0 _ _ _
      | exact LeO.none _
      | refine LeO.ite ?_ ?_
      | refine LeO.bind ?_ (fun _ => ?_)
set_option maxHeartbeats 8000000 in
set_option maxRecDepth 100000 in
theorem soundingsref01_Get.calls (k : Nat) (A0 : Option Addr) (c0 : Nat) (l0 : List (S36)) (a1 : ByteArray) (r : ByteArray) (w : World) (hr0 : Kd.C k36 w A0 l0.length l0) (hc0 : l0.length ≤ c0) (h : soundingsref01_Get.f k l0 a1 = some r) :
    Calls Tryd.prog 23 #[.slice A0 l0.length c0, .string a1] w fun e w' => e = .returned (.string r) ∧ Drawn0 w w' := by
  have HR0 := Aside0.mk hr0
  have HC0 := Aside0.mk hc0
  clear hr0 hc0
  have H : (soundingsref01_Get.l0 k l0 a1 0) = some r := h
  clear h
  have H' := Aside0.mk H
  clear H
  go_enter Tryd.func23, Tryd.ntmps23
  go_wp2
  go_loopg [5] k (fun kq v5 w' => ∃ (x5_1 : Int), v5 = .int .i64 x5_1 ∧ Aside0 (soundingsref01_Get.l0 kq l0 a1 x5_1 = some r) ∧ Aside0 (kq ≤ k) ∧ Drawn0 w w')
  case atStart => exact ⟨(0), (by first | rfl | (simp; done) | (simp [*]; done)), H', ⟨Nat.le_refl _⟩, by repeat (first | exact Drawn0.refl _ | apply Drawn0.step)⟩
  case round =>
    clear H'
    try clear c2
    try clear p2
    obtain ⟨x5_1, rfl, HA, HK1, ⟨m1, rfl⟩⟩ := hrel
    cases gk with
    | zero => exact absurd HA.out (by simp [soundingsref01_Get.l0])
    | succ k1 =>
      have H := HA.out
      clear HA
      simp only [soundingsref01_Get.l0] at H
      by_cases c3 : x5_1 < (l0.length : Int)
      · rw [if_pos c3] at H
        have c3b0 : decide (x5_1 < (l0.length : Int)) = true := decide_eq_true c3
        clear c3
        by_cases c4 : 0 ≤ x5_1
        · rw [if_pos c4] at H
          have c4b0 : decide (0 ≤ x5_1) = true := decide_eq_true c4
          clear c4
          by_cases c5 : ((rd_T36 l0 x5_1).f0).toList = a1.toList
          · rw [if_pos c5] at H
            have c5b0 : (((rd_T36 l0 x5_1).f0).toList == a1.toList) = true := beq_iff_eq.mpr c5
            have c5b1 : (((rd_T36 l0 x5_1).f0).toList != a1.toList) = false := bne_eq_false_iff_eq.mpr c5
            clear c5
            obtain rfl := Option.some.inj H
            have p253 : 0 ≤ (x5_1 : Int) := of_decide_eq_true (by first | (with_reducible assumption) | assumption)
            have q253 : x5_1 < (l0.length : Int) := of_decide_eq_true (by first | (with_reducible assumption) | assumption)
            obtain ⟨ad253, e253, hx253_0, hx253_1⟩ := at_T36 HR0.out x5_1 p253 q253
            cases e253
            replace p253 := eq_true p253
            replace q253 := eq_true q253
            have p254 : 0 ≤ (x5_1 : Int) := of_decide_eq_true (by first | (with_reducible assumption) | assumption)
            have q254 : x5_1 < (l0.length : Int) := of_decide_eq_true (by first | (with_reducible assumption) | assumption)
            obtain ⟨ad254, e254, hx254_0, hx254_1⟩ := at_T36 HR0.out x5_1 p254 q254
            obtain rfl : ad253 = ad254 := (by injection e254)
            replace p254 := eq_true p254
            replace q254 := eq_true q254
            go_wp2
            go_ret
            exact ⟨by first | rfl | (simp; done) | (simp [*]; done), by repeat (first | exact Drawn0.refl _ | apply Drawn0.step)⟩
          · rw [if_neg c5] at H
            have c5b0 : (((rd_T36 l0 x5_1).f0).toList == a1.toList) = false := beq_eq_false_iff_ne.mpr c5
            have c5b1 : (((rd_T36 l0 x5_1).f0).toList != a1.toList) = true := bne_iff_ne.mpr c5
            have H' := Aside0.mk H
            clear H
            have p253 : 0 ≤ (x5_1 : Int) := of_decide_eq_true (by first | (with_reducible assumption) | assumption)
            have q253 : x5_1 < (l0.length : Int) := of_decide_eq_true (by first | (with_reducible assumption) | assumption)
            obtain ⟨ad253, e253, hx253_0, hx253_1⟩ := at_T36 HR0.out x5_1 p253 q253
            cases e253
            replace p253 := eq_true p253
            replace q253 := eq_true q253
            go_wp2
            go_roundg k1
            case measure => have := HK1.out; omega
            case rel => exact ⟨(wrap64 (x5_1 + 1)), (by first | rfl | (simp; done) | (simp [*]; done)), H', ⟨by have := HK1.out; omega⟩, by repeat (first | exact Drawn0.refl _ | apply Drawn0.step)⟩
        · rw [if_neg c4] at H
          exact absurd H (by simp)
      · rw [if_neg c3] at H
        have c3b0 : decide (x5_1 < (l0.length : Int)) = false := decide_eq_false c3
        clear c3
        obtain rfl := Option.some.inj H
        go_wp2
        go_ret
        exact ⟨by first | rfl | (simp; done) | (simp [*]; done), by repeat (first | exact Drawn0.refl _ | apply Drawn0.step)⟩

end Go.Proofs.YtmgbnnanophehabDoor.L
