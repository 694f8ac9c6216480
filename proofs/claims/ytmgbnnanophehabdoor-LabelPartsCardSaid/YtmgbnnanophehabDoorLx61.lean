/- Functions of the program as Lean functions, and the contracts by which the Go code comes to their answers, for every argument that can be read. Written by a program of this session over the print of the kit. -/
import Derived.Test.YtmgbnnanophehabDoorLx0
import Derived.Test.YtmgbnnanophehabDoorLx8
import Derived.Test.YtmgbnnanophehabDoorLx42
import Derived.Test.YtmgbnnanophehabDoorLx43
import Derived.Test.YtmgbnnanophehabDoorLx50
import Derived.Test.YtmgbnnanophehabDoorLx51
import Derived.Test.YtmgbnnanophehabDoorLx56
import Derived.Test.YtmgbnnanophehabDoorLx57
import Derived.Test.YtmgbnnanophehabDoorLx60
import Derived.Test.YtmgbnnanophehabDoorLabH
namespace Go.Proofs.YtmgbnnanophehabDoor.L
open Go.RowKit Go.Proofs.YtmgbnnanophehabDoorW.PrintWords Go.Proofs.YtmgbnnanophehabDoorW.PrintLast Go.Proofs.YtmgbnnanophehabDoorW.PrintMore
attribute [local go_sem high] Go.Proofs.YtmgbnnanophehabDoor.Less.str_leq Go.Proofs.YtmgbnnanophehabDoor.Less.str_gtr Go.Proofs.YtmgbnnanophehabDoor.Less.str_geq
attribute [local go_sem] max2_int min2_int max_two min_two max_three min_three max_four min_four   -- for this text's walks alone
set_option linter.unusedVariables false
set_option linter.unusedSimpArgs false

/-! ### soundingslaw01_LabelParts: function 5 -/
mutual
def soundingslaw01_LabelParts.j0 : Nat → List (S36) → List (S36) → List ByteArray → Bool → Option (Bool)
  | 0, _, _, _, _ => none
  | k + 1, x0, x1, x2, x24 => if x24 = true then (some true) else (soundingslaw01_LabelParts.l0 k x0 x1 x2 0)
def soundingslaw01_LabelParts.l0 : Nat → List (S36) → List (S36) → List ByteArray → Int → Option (Bool)
  | 0, _, _, _, _ => none
  | k + 1, x0, x1, x2, x7 => if x7 < (x2.length : Int) then (if 0 ≤ x7 then (if ((rdOf ByteArray.empty x2 x7).size : Int) > 400 then (some true) else ((label_Get.f k x0 (rdOf ByteArray.empty x2 x7)).bind fun t266 => ((soundingsref01_Get.f k x0 (rdOf ByteArray.empty x2 x7)).bind fun t268 => (if t266.toList = t268.toList then (soundingslaw01_LabelParts.l0 k x0 x1 x2 (wrap64 (x7 + 1))) else (some false))))) else (none)) else ((label_Keep.f x0 x2).bind fun t269 => ((label_Drop.f x0 x2).bind fun t272 => ((label_Cmp.f x0 x1).bind fun t275 => ((soundingsref01_Cmp.f k x0 x1).bind fun t276 => (if t275 = t276 then ((soundingsref01_Part.f k x0 x2 true).bind fun t277 => ((soundingsref01_Cmp.f k t269 t277).bind fun t280 => (if t280 = 0 then ((soundingsref01_Part.f k x0 x2 false).bind fun t281 => ((soundingsref01_Cmp.f k t272 t281).bind fun t284 => (if t284 = 0 then (soundingslaw01_LabelParts.j2 k x0 t269 t272 ((wrap64 ((t269.length : Int) + (t272.length : Int))) != (x0.length : Int))) else (soundingslaw01_LabelParts.j2 k x0 t269 t272 true)))) else (soundingslaw01_LabelParts.j2 k x0 t269 t272 true)))) else (soundingslaw01_LabelParts.j2 k x0 t269 t272 true))))))
def soundingslaw01_LabelParts.j2 : Nat → List (S36) → List (S36) → List (S36) → Bool → Option (Bool)
  | 0, _, _, _, _ => none
  | k + 1, x0, x8, x9, x88 => if x88 = true then (some false) else ((soundingsref01_Right.f k x0).bind fun t285 => (if t285 = true then ((label_Right.f k x8).bind fun t286 => (if t286 = true then ((label_Right.f k x9).bind fun t287 => (some t287)) else (some false))) else (some true)))
end
def soundingslaw01_LabelParts.f (k : Nat) (l0 : List (S36)) (l1 : List (S36)) (l2 : List ByteArray) : Option (Bool) := (soundingslaw01_awake.f k).bind fun t261 => (if t261 = true then ((soundingsref01_Short.f k l0).bind fun t262 => (if t262 = true then ((soundingsref01_Short.f k l1).bind fun t263 => (if t263 = true then (soundingslaw01_LabelParts.j0 k l0 l1 l2 (decide ((l2.length : Int) > 40))) else (soundingslaw01_LabelParts.j0 k l0 l1 l2 true))) else (soundingslaw01_LabelParts.j0 k l0 l1 l2 true))) else (some false))
theorem soundingslaw01_LabelParts.mono_l : ∀ k, (∀ y0 y1 y2 y3, LeO (soundingslaw01_LabelParts.j0 k y0 y1 y2 y3) (soundingslaw01_LabelParts.j0 (k + 1) y0 y1 y2 y3)) ∧ (∀ y0 y1 y2 y3, LeO (soundingslaw01_LabelParts.l0 k y0 y1 y2 y3) (soundingslaw01_LabelParts.l0 (k + 1) y0 y1 y2 y3)) ∧ (∀ y0 y1 y2 y3, LeO (soundingslaw01_LabelParts.j2 k y0 y1 y2 y3) (soundingslaw01_LabelParts.j2 (k + 1) y0 y1 y2 y3))
  | 0 => ⟨fun _ _ _ _ r h => by simp [soundingslaw01_LabelParts.j0] at h, fun _ _ _ _ r h => by simp [soundingslaw01_LabelParts.l0] at h, fun _ _ _ _ r h => by simp [soundingslaw01_LabelParts.j2] at h⟩
  | k + 1 => by
    obtain ⟨ih0, ih1, ih2⟩ := soundingslaw01_LabelParts.mono_l k
    refine ⟨?_, ?_, ?_⟩
    · intro y0 y1 y2 y3
      unfold soundingslaw01_LabelParts.j0
      repeat' first
      | (with_reducible exact ih0 _ _ _ _)
      | (with_reducible exact ih1 _ _ _ _)
      | (with_reducible exact ih2 _ _ _ _)
      | (with_reducible exact label_Get.mono _ _ _)
      | (with_reducible exact label_Right.mono _ _)
      | (with_reducible exact soundingslaw01_awake.mono _)
      | (with_reducible exact soundingsref01_Cmp.mono _ _ _)
      | (with_reducible exact soundingsref01_Get.mono _ _ _)
      | (with_reducible exact soundingsref01_Part.mono _ _ _ _)
      | (with_reducible exact soundingsref01_Right.mono _ _)
      | (with_reducible exact soundingsref01_Short.mono _ _)
      | (with_reducible exact LeO.refl _)
      | (with_reducible exact LeO.none _)
      | (with_reducible refine LeO.ite ?_ ?_)
      | (with_reducible refine LeO.bind ?_ (fun _ => ?_))
      | exact ih0 _ _ _ _
      | exact ih1 _ _ _ _
      | exact ih2 _ _ _ _
      | exact label_Get.mono _ _ _
      | exact label_Right.mono _ _
      | exact soundingslaw01_awake.mono _
      | exact soundingsref01_Cmp.mono _ _ _
      | exact soundingsref01_Get.mono _ _ _
      | exact soundingsref01_Part.mono _ _ _ _
      | exact soundingsref01_Right.mono _ _
      | exact soundingsref01_Short.mono _ _
      | exact LeO.none _
      | refine LeO.ite ?_ ?_
      | refine LeO.bind ?_ (fun _ => ?_)
    · intro y0 y1 y2 y3
      unfold soundingslaw01_LabelParts.l0
      repeat' first
      | (with_reducible exact ih0 _ _ _ _)
      | (with_reducible exact ih1 _ _ _ _)
      | (with_reducible exact ih2 _ _ _ _)
      | (with_reducible exact label_Get.mono _ _ _)
      | (with_reducible exact label_Right.mono _ _)
      | (with_reducible exact soundingslaw01_awake.mono _)
      | (with_reducible exact soundingsref01_Cmp.mono _ _ _)
      | (with_reducible exact soundingsref01_Get.mono _ _ _)
      | (with_reducible exact soundingsref01_Part.mono _ _ _ _)
      | (with_reducible exact soundingsref01_Right.mono _ _)
      | (with_reducible exact soundingsref01_Short.mono _ _)
      | (with_reducible exact LeO.refl _)
      | (with_reducible exact LeO.none _)
      | (with_reducible refine LeO.ite ?_ ?_)
      | (with_reducible refine LeO.bind ?_ (fun _ => ?_))
      | exact ih0 _ _ _ _
      | exact ih1 _ _ _ _
      | exact ih2 _ _ _ _
      | exact label_Get.mono _ _ _
      | exact label_Right.mono _ _
      | exact soundingslaw01_awake.mono _
      | exact soundingsref01_Cmp.mono _ _ _
      | exact soundingsref01_Get.mono _ _ _
      | exact soundingsref01_Part.mono _ _ _ _
      | exact soundingsref01_Right.mono _ _
      | exact soundingsref01_Short.mono _ _
      | exact LeO.none _
      | refine LeO.ite ?_ ?_
      | refine LeO.bind ?_ (fun _ => ?_)
    · intro y0 y1 y2 y3
      unfold soundingslaw01_LabelParts.j2
      repeat' first
      | (with_reducible exact ih0 _ _ _ _)
      | (with_reducible exact ih1 _ _ _ _)
      | (with_reducible exact ih2 _ _ _ _)
      | (with_reducible exact label_Get.mono _ _ _)
      | (with_reducible exact label_Right.mono _ _)
      | (with_reducible exact soundingslaw01_awake.mono _)
      | (with_reducible exact soundingsref01_Cmp.mono _ _ _)
      | (with_reducible exact soundingsref01_Get.mono _ _ _)
      | (with_reducible exact soundingsref01_Part.mono _ _ _ _)
      | (with_reducible exact soundingsref01_Right.mono _ _)
      | (with_reducible exact soundingsref01_Short.mono _ _)
      | (with_reducible exact LeO.refl _)
      | (with_reducible exact LeO.none _)
      | (with_reducible refine LeO.ite ?_ ?_)
      | (with_reducible refine LeO.bind ?_ (fun _ => ?_))
      | exact ih0 _ _ _ _
      | exact ih1 _ _ _ _
      | exact ih2 _ _ _ _
      | exact label_Get.mono _ _ _
      | exact label_Right.mono _ _
      | exact soundingslaw01_awake.mono _
      | exact soundingsref01_Cmp.mono _ _ _
      | exact soundingsref01_Get.mono _ _ _
      | exact soundingsref01_Part.mono _ _ _ _
      | exact soundingsref01_Right.mono _ _
      | exact soundingsref01_Short.mono _ _
      | exact LeO.none _
      | refine LeO.ite ?_ ?_
      | refine LeO.bind ?_ (fun _ => ?_)
theorem soundingslaw01_LabelParts.mono : ∀ a0 a1 a2 k, LeO (soundingslaw01_LabelParts.f k a0 a1 a2) (soundingslaw01_LabelParts.f (k + 1) a0 a1 a2) := by
  intro a0 a1 a2 k
  obtain ⟨ih0, ih1, ih2⟩ := soundingslaw01_LabelParts.mono_l k
  unfold soundingslaw01_LabelParts.f
  repeat' first
      | (with_reducible exact ih0 _ _ _ _)
      | (with_reducible exact ih1 _ _ _ _)
      | (with_reducible exact ih2 _ _ _ _)
      | (with_reducible exact label_Get.mono _ _ _)
      | (with_reducible exact label_Right.mono _ _)
      | (with_reducible exact soundingslaw01_awake.mono _)
      | (with_reducible exact soundingsref01_Cmp.mono _ _ _)
      | (with_reducible exact soundingsref01_Get.mono _ _ _)
      | (with_reducible exact soundingsref01_Part.mono _ _ _ _)
      | (with_reducible exact soundingsref01_Right.mono _ _)
      | (with_reducible exact soundingsref01_Short.mono _ _)
      | (with_reducible exact LeO.refl _)
      | (with_reducible exact LeO.none _)
      | (with_reducible refine LeO.ite ?_ ?_)
      | (with_reducible refine LeO.bind ?_ (fun _ => ?_))
      | exact ih0 _ _ _ _
      | exact ih1 _ _ _ _
      | exact ih2 _ _ _ _
      | exact label_Get.mono _ _ _
      | exact label_Right.mono _ _
      | exact soundingslaw01_awake.mono _
      | exact soundingsref01_Cmp.mono _ _ _
      | exact soundingsref01_Get.mono _ _ _
      | exact soundingsref01_Part.mono _ _ _ _
      | exact soundingsref01_Right.mono _ _
      | exact soundingsref01_Short.mono _ _
      | exact LeO.none _
      | refine LeO.ite ?_ ?_
      | refine LeO.bind ?_ (fun _ => ?_)
def soundingslaw01_LabelParts.T10 : Bool × List (List Nat × List Nat) := (true, [([], []), ([], []), ([], []), ([1, 2], [1, 2]), ([3], [3]), ([0, 4], [0, 4]), ([], []), ([], []), ([], []), ([7, 8], [7, 8]), ([9], [9]), ([6, 10, 5], [6, 10]), ([5, 11], [5, 11])])
def soundingslaw01_LabelParts.B10 : List Nat := [0, 0, 0, 6, 14, 31, 0, 0, 0, 384, 896, 2047, 4095]
theorem soundingslaw01_LabelParts.tab10 : rtab .any (opsOf Tryd.f5 10) = soundingslaw01_LabelParts.T10 := by kernel_rfl
theorem soundingslaw01_LabelParts.bits10 : waitsOk soundingslaw01_LabelParts.T10.2 soundingslaw01_LabelParts.B10 = true := by kernel_rfl
set_option maxHeartbeats 8000000 in
set_option maxRecDepth 100000 in
theorem soundingslaw01_LabelParts.calls (k : Nat) (A0 : Option Addr) (c0 : Nat) (l0 : List (S36)) (A1 : Option Addr) (c1 : Nat) (l1 : List (S36)) (A2 : Option Addr) (c2 : Nat) (l2 : List ByteArray) (r : Bool) (w : World) (hr0 : Kd.C k36 w A0 l0.length l0) (hc0 : l0.length ≤ c0) (hr1 : Kd.C k36 w A1 l1.length l1) (hc1 : l1.length ≤ c1) (hr2 : Kd.C Kd.string w A2 l2.length l2) (hc2 : l2.length ≤ c2) (hG : GL w) (h : soundingslaw01_LabelParts.f k l0 l1 l2 = some r) :
    Calls Tryd.prog 5 #[.slice A0 l0.length c0, .slice A1 l1.length c1, .slice A2 l2.length c2] w fun e w' => e = .returned (.bool r) ∧ Below w.heap.size w w' := by
  have HG := Aside0.mk hG
  clear hG
  have HR0 := Aside0.mk hr0
  have HC0 := Aside0.mk hc0
  clear hr0 hc0
  have HR1 := Aside0.mk hr1
  have HC1 := Aside0.mk hc1
  clear hr1 hc1
  have HR2 := Aside0.mk hr2
  have HC2 := Aside0.mk hc2
  clear hr2 hc2
  have HB := Aside0.mk (Below.refl w.heap.size w)
  have H : ((soundingslaw01_awake.f k).bind fun t261 => (if t261 = true then ((soundingsref01_Short.f k l0).bind fun t262 => (if t262 = true then ((soundingsref01_Short.f k l1).bind fun t263 => (if t263 = true then (soundingslaw01_LabelParts.j0 k l0 l1 l2 (decide ((l2.length : Int) > 40))) else (soundingslaw01_LabelParts.j0 k l0 l1 l2 true))) else (soundingslaw01_LabelParts.j0 k l0 l1 l2 true))) else (some false))) = some r := h
  clear h
  replace H := Option.bind_eq_some_iff.mp H
  obtain ⟨t261, A40, H⟩ := H
  replace H : (if t261 = true then ((soundingsref01_Short.f k l0).bind fun t262 => (if t262 = true then ((soundingsref01_Short.f k l1).bind fun t263 => (if t263 = true then (soundingslaw01_LabelParts.j0 k l0 l1 l2 (decide ((l2.length : Int) > 40))) else (soundingslaw01_LabelParts.j0 k l0 l1 l2 true))) else (soundingslaw01_LabelParts.j0 k l0 l1 l2 true))) else (some false)) = some r := H
  have A4 := Aside0.mk A40
  clear A40
  by_cases c5 : t261 = true
  · subst c5
    have H1 : ((soundingsref01_Short.f k l0).bind fun t262 => (if t262 = true then ((soundingsref01_Short.f k l1).bind fun t263 => (if t263 = true then (soundingslaw01_LabelParts.j0 k l0 l1 l2 (decide ((l2.length : Int) > 40))) else (soundingslaw01_LabelParts.j0 k l0 l1 l2 true))) else (soundingslaw01_LabelParts.j0 k l0 l1 l2 true))) = some r := by rw [if_pos rfl] at H; exact H
    clear H
    have H := H1
    clear H1
    have HC6 := Aside0.mk H
    clear H
    go_enter Tryd.func5, Tryd.ntmps5
    go_upto_region 3 with (first | ((with_reducible refine gate_callee (f := 11) rfl ?_); refine goesL_ (some 10) rfl rfl Tryd.func11 (by kernel_rfl) rfl #[] rfl (by (try simp only [List.map_toArray, List.map_cons, List.map_nil]); first | done | rfl | (simp only [List.length_drop, List.length_take]; rfl)) ?_; (with_reducible refine (soundingslaw01_awake.calls k  true _ ?hGL A4.out).mono ?_); (case hGL => exact GL.below HG.out (by repeat (first | (with_reducible first | exact HB.out | apply below_alloc | apply pw_below_drewN | apply below_drew1) | exact HB.out))); rintro e w7 ⟨rfl, hb⟩; refine ⟨_, rfl, ?_⟩; have n0_ := Aside0.mk (below_step (by repeat (first | (with_reducible first | exact HB.out | apply below_alloc | apply pw_below_drewN | apply below_drew1) | exact HB.out)) hb); clear HB; have HB := n0_; clear n0_; (try clear hb); (try clear hb2); (try clear hk); (try clear hi)))
    (try simp only [Act.put, List.setIfInBounds_toArray, List.set_cons_zero, List.set_cons_succ])
    go_cut [24] (fun v24 wc => ∃ (kq : Nat) (x24_5 : Bool), v24 = .bool x24_5 ∧ Aside0 (soundingslaw01_LabelParts.j0 kq l0 l1 l2 x24_5 = some r) ∧ Aside0 (kq ≤ k) ∧ Aside0 (Below w.heap.size w wc))
    case first =>
      have H := HC6.out
      clear HC6
      replace H := Option.bind_eq_some_iff.mp H
      obtain ⟨t262, A80, H⟩ := H
      replace H : (if t262 = true then ((soundingsref01_Short.f k l1).bind fun t263 => (if t263 = true then (soundingslaw01_LabelParts.j0 k l0 l1 l2 (decide ((l2.length : Int) > 40))) else (soundingslaw01_LabelParts.j0 k l0 l1 l2 true))) else (soundingslaw01_LabelParts.j0 k l0 l1 l2 true)) = some r := H
      have A8 := Aside0.mk A80
      clear A80
      by_cases c9 : t262 = true
      · subst c9
        have H1 : ((soundingsref01_Short.f k l1).bind fun t263 => (if t263 = true then (soundingslaw01_LabelParts.j0 k l0 l1 l2 (decide ((l2.length : Int) > 40))) else (soundingslaw01_LabelParts.j0 k l0 l1 l2 true))) = some r := by rw [if_pos rfl] at H; exact H
        clear H
        have H := H1
        clear H1
        replace H := Option.bind_eq_some_iff.mp H
        obtain ⟨t263, A100, H⟩ := H
        replace H : (if t263 = true then (soundingslaw01_LabelParts.j0 k l0 l1 l2 (decide ((l2.length : Int) > 40))) else (soundingslaw01_LabelParts.j0 k l0 l1 l2 true)) = some r := H
        have A10 := Aside0.mk A100
        clear A100
        by_cases c11 : t263 = true
        · subst c11
          have H1 : (soundingslaw01_LabelParts.j0 k l0 l1 l2 (decide ((l2.length : Int) > 40))) = some r := by rw [if_pos rfl] at H; exact H
          clear H
          have H := H1
          clear H1
          have H' := Aside0.mk H
          clear H
          go_wp2_with (first | ((with_reducible refine gate_callee (f := 12) rfl ?_); refine goesL_ (some 13) rfl rfl Tryd.func12 (by kernel_rfl) rfl #[.slice A0 l0.length c0] rfl (by (try simp only [List.map_toArray, List.map_cons, List.map_nil]); first | done | rfl | (simp only [List.length_drop, List.length_take]; rfl)) ?_; (with_reducible refine (soundingsref01_Short.calls k _ _ l0 true _ ?side1 ?side2 A8.out).mono ?_); (case side1 => repeat (first | exact (Kd.C_below HR0.out HB.out) | (with_reducible refine Kd.C_alloc ?_ _) | (with_reducible refine Kd.C_drewN ?_ _) | (with_reducible refine Kd.C_drew ?_))); (case side2 => exact HC0.out); rintro e w' ⟨rfl, ⟨nd, rfl⟩⟩; refine ⟨_, rfl, ?_⟩) | (go_at_call 12; (with_reducible refine (soundingsref01_Short.calls k _ _ l1 true _ ?side1 ?side2 A10.out).mono ?_); (case side1 => repeat (first | exact (Kd.C_below HR1.out (by repeat (first | (with_reducible first | exact HB.out | apply below_alloc | apply pw_below_drewN | apply below_drew1) | exact HB.out))) | (with_reducible refine Kd.C_alloc ?_ _) | (with_reducible refine Kd.C_drewN ?_ _) | (with_reducible refine Kd.C_drew ?_))); (case side2 => exact HC1.out); rintro e w' ⟨rfl, ⟨nd, rfl⟩⟩))
          go_meet
          case rel => exact ⟨_, (decide ((l2.length : Int) > 40)), (by first | rfl | (simp; done) | (simp [*]; done)), H', ⟨by first | omega | exact Nat.le_refl _⟩, ⟨by repeat (first | (with_reducible first | exact HB.out | apply below_alloc | apply pw_below_drewN | apply below_drew1) | exact HB.out)⟩⟩
        · replace c11 := Bool.eq_false_iff.mpr c11
          subst c11
          have H1 : (soundingslaw01_LabelParts.j0 k l0 l1 l2 true) = some r := by rw [if_neg (show ¬ (false = true) by decide)] at H; exact H
          clear H
          have H := H1
          clear H1
          have H' := Aside0.mk H
          clear H
          go_wp2_with (first | ((with_reducible refine gate_callee (f := 12) rfl ?_); refine goesL_ (some 13) rfl rfl Tryd.func12 (by kernel_rfl) rfl #[.slice A0 l0.length c0] rfl (by (try simp only [List.map_toArray, List.map_cons, List.map_nil]); first | done | rfl | (simp only [List.length_drop, List.length_take]; rfl)) ?_; (with_reducible refine (soundingsref01_Short.calls k _ _ l0 true _ ?side1 ?side2 A8.out).mono ?_); (case side1 => repeat (first | exact (Kd.C_below HR0.out HB.out) | (with_reducible refine Kd.C_alloc ?_ _) | (with_reducible refine Kd.C_drewN ?_ _) | (with_reducible refine Kd.C_drew ?_))); (case side2 => exact HC0.out); rintro e w' ⟨rfl, ⟨nd, rfl⟩⟩; refine ⟨_, rfl, ?_⟩) | (go_at_call 12; (with_reducible refine (soundingsref01_Short.calls k _ _ l1 false _ ?side1 ?side2 A10.out).mono ?_); (case side1 => repeat (first | exact (Kd.C_below HR1.out (by repeat (first | (with_reducible first | exact HB.out | apply below_alloc | apply pw_below_drewN | apply below_drew1) | exact HB.out))) | (with_reducible refine Kd.C_alloc ?_ _) | (with_reducible refine Kd.C_drewN ?_ _) | (with_reducible refine Kd.C_drew ?_))); (case side2 => exact HC1.out); rintro e w' ⟨rfl, ⟨nd, rfl⟩⟩))
          go_meet
          case rel => exact ⟨_, (true), (by first | rfl | (simp; done) | (simp [*]; done)), H', ⟨by first | omega | exact Nat.le_refl _⟩, ⟨by repeat (first | (with_reducible first | exact HB.out | apply below_alloc | apply pw_below_drewN | apply below_drew1) | exact HB.out)⟩⟩
      · replace c9 := Bool.eq_false_iff.mpr c9
        subst c9
        have H1 : (soundingslaw01_LabelParts.j0 k l0 l1 l2 true) = some r := by rw [if_neg (show ¬ (false = true) by decide)] at H; exact H
        clear H
        have H := H1
        clear H1
        have H' := Aside0.mk H
        clear H
        go_wp2_with (first | ((with_reducible refine gate_callee (f := 12) rfl ?_); refine goesL_ (some 13) rfl rfl Tryd.func12 (by kernel_rfl) rfl #[.slice A0 l0.length c0] rfl (by (try simp only [List.map_toArray, List.map_cons, List.map_nil]); first | done | rfl | (simp only [List.length_drop, List.length_take]; rfl)) ?_; (with_reducible refine (soundingsref01_Short.calls k _ _ l0 false _ ?side1 ?side2 A8.out).mono ?_); (case side1 => repeat (first | exact (Kd.C_below HR0.out HB.out) | (with_reducible refine Kd.C_alloc ?_ _) | (with_reducible refine Kd.C_drewN ?_ _) | (with_reducible refine Kd.C_drew ?_))); (case side2 => exact HC0.out); rintro e w' ⟨rfl, ⟨nd, rfl⟩⟩; refine ⟨_, rfl, ?_⟩))
        go_meet
        case rel => exact ⟨_, (true), (by first | rfl | (simp; done) | (simp [*]; done)), H', ⟨by first | omega | exact Nat.le_refl _⟩, ⟨by repeat (first | (with_reducible first | exact HB.out | apply below_alloc | apply pw_below_drewN | apply below_drew1) | exact HB.out)⟩⟩
    case rest =>
      clear HC6
      try clear c1
      try clear c2
      try clear p2
      try clear c5
      try clear c9
      try clear c11
      obtain ⟨kq, x24_5, rfl, HA, HJ5, HB⟩ := hcut
      cases kq with
      | zero => exact absurd HA.out (by simp [soundingslaw01_LabelParts.j0])
      | succ kj5 =>
        have H := HA.out
        clear HA
        simp only [soundingslaw01_LabelParts.j0] at H
        by_cases c12 : x24_5 = true
        · subst c12
          have H1 : (some true) = some r := by rw [if_pos rfl] at H; exact H
          clear H
          have H := H1
          clear H1
          obtain rfl := Option.some.inj H
          go_wp2
          go_ret
          exact ⟨by first | rfl | (simp [errW_none, errW_some] <;> rfl) | (simp [*, errW_none, errW_some] <;> rfl), by repeat (first | (with_reducible first | exact HB.out | apply below_alloc | apply pw_below_drewN | apply below_drew1) | exact HB.out)⟩
        · replace c12 := Bool.eq_false_iff.mpr c12
          subst c12
          have H1 : (soundingslaw01_LabelParts.l0 kj5 l0 l1 l2 0) = some r := by rw [if_neg (show ¬ (false = true) by decide)] at H; exact H
          clear H
          have H := H1
          clear H1
          have H' := Aside0.mk H
          clear H
          go_wp2
          go_loopg [7] kj5 (fun kq v7 w' => ∃ (x7_2 : Int), v7 = .int .i64 x7_2 ∧ Aside0 (soundingslaw01_LabelParts.l0 kq l0 l1 l2 x7_2 = some r) ∧ Aside0 (kq ≤ kj5) ∧ Aside0 (Below w.heap.size w w'))
          case atStart => exact ⟨(0), (by first | rfl | (simp; done) | (simp [*]; done)), H', ⟨Nat.le_refl _⟩, ⟨by repeat (first | (with_reducible first | exact HB.out | apply below_alloc | apply pw_below_drewN | apply below_drew1) | exact HB.out)⟩⟩
          case round =>
            clear H'
            try clear c1
            try clear c2
            try clear p2
            try clear c5
            try clear c9
            try clear c11
            try clear c12
            try clear p2
            obtain ⟨x7_2, rfl, HA, HK2, HB⟩ := hrel
            cases gk with
            | zero => exact absurd HA.out (by simp [soundingslaw01_LabelParts.l0])
            | succ k2 =>
              have H := HA.out
              clear HA
              simp only [soundingslaw01_LabelParts.l0] at H
              by_cases c13 : x7_2 < (l2.length : Int)
              · rw [if_pos c13] at H
                have c13b0 : decide (x7_2 < (l2.length : Int)) = true := decide_eq_true c13
                clear c13
                by_cases c14 : 0 ≤ x7_2
                · rw [if_pos c14] at H
                  have c14b0 : decide (0 ≤ x7_2) = true := decide_eq_true c14
                  clear c14
                  by_cases c15 : ((rdOf ByteArray.empty l2 x7_2).size : Int) > 400
                  · rw [if_pos c15] at H
                    have c15b0 : decide (400 < ((rdOf ByteArray.empty l2 x7_2).size : Int)) = true := decide_eq_true c15
                    have c15b1 : decide (400 < (rdOf ByteArray.empty l2 x7_2).size) = true := decide_eq_true (by omega)
                    clear c15
                    obtain rfl := Option.some.inj H
                    have p264 : 0 ≤ (x7_2 : Int) := of_decide_eq_true (by first | (with_reducible assumption) | assumption)
                    have q264 : x7_2 < (l2.length : Int) := of_decide_eq_true (by first | (with_reducible assumption) | assumption)
                    obtain ⟨ad264, e264, hx264_0⟩ := Kd.at_string HR2.out x7_2 p264 q264
                    cases e264
                    replace hx264_0 := (HB.out.cell (World.block_lt_of_cell? w _ hx264_0)).trans hx264_0
                    replace p264 := eq_true p264
                    replace q264 := eq_true q264
                    go_wp2
                    go_ret
                    exact ⟨by first | rfl | (simp [errW_none, errW_some] <;> rfl) | (simp [*, errW_none, errW_some] <;> rfl), by repeat (first | (with_reducible first | exact HB.out | apply below_alloc | apply pw_below_drewN | apply below_drew1) | exact HB.out)⟩
                  · rw [if_neg c15] at H
                    have c15b0 : decide (400 < ((rdOf ByteArray.empty l2 x7_2).size : Int)) = false := decide_eq_false c15
                    have c15b1 : decide (400 < (rdOf ByteArray.empty l2 x7_2).size) = false := decide_eq_false (by omega)
                    clear c15
                    replace H := Option.bind_eq_some_iff.mp H
                    obtain ⟨t266, A160, H⟩ := H
                    replace H : ((soundingsref01_Get.f k2 l0 (rdOf ByteArray.empty l2 x7_2)).bind fun t268 => (if t266.toList = t268.toList then (soundingslaw01_LabelParts.l0 k2 l0 l1 l2 (wrap64 (x7_2 + 1))) else (some false))) = some r := H
                    have A16 := Aside0.mk A160
                    clear A160
                    replace H := Option.bind_eq_some_iff.mp H
                    obtain ⟨t268, A170, H⟩ := H
                    replace H : (if t266.toList = t268.toList then (soundingslaw01_LabelParts.l0 k2 l0 l1 l2 (wrap64 (x7_2 + 1))) else (some false)) = some r := H
                    have A17 := Aside0.mk A170
                    clear A170
                    by_cases c18 : t266.toList = t268.toList
                    · rw [if_pos c18] at H
                      have c18b0 : (t266.toList == t268.toList) = true := beq_iff_eq.mpr c18
                      have c18b1 : (t266.toList != t268.toList) = false := bne_eq_false_iff_eq.mpr c18
                      clear c18
                      have H' := Aside0.mk H
                      clear H
                      have p264 : 0 ≤ (x7_2 : Int) := of_decide_eq_true (by first | (with_reducible assumption) | assumption)
                      have q264 : x7_2 < (l2.length : Int) := of_decide_eq_true (by first | (with_reducible assumption) | assumption)
                      obtain ⟨ad264, e264, hx264_0⟩ := Kd.at_string HR2.out x7_2 p264 q264
                      cases e264
                      replace hx264_0 := (HB.out.cell (World.block_lt_of_cell? w _ hx264_0)).trans hx264_0
                      replace p264 := eq_true p264
                      replace q264 := eq_true q264
                      try go_wp2
                      have n0_ := Aside0.mk (below_drew1 HB.out)
                      clear HB
                      have HB := n0_
                      clear n0_
                      have p265 : 0 ≤ (x7_2 : Int) := of_decide_eq_true (by first | (with_reducible assumption) | assumption)
                      have q265 : x7_2 < (l2.length : Int) := of_decide_eq_true (by first | (with_reducible assumption) | assumption)
                      obtain ⟨ad265, e265, hx265_0⟩ := Kd.at_string HR2.out x7_2 p265 q265
                      have hw265_0 := hx265_0
                      obtain rfl : ad264 = ad265 := (by injection e265)
                      replace hx265_0 := (HB.out.cell (World.block_lt_of_cell? w _ hx265_0)).trans hx265_0
                      replace p265 := eq_true p265
                      replace q265 := eq_true q265
                      have p267 : 0 ≤ (x7_2 : Int) := of_decide_eq_true (by first | (with_reducible assumption) | assumption)
                      have q267 : x7_2 < (l2.length : Int) := of_decide_eq_true (by first | (with_reducible assumption) | assumption)
                      obtain ⟨ad267, e267, hx267_0⟩ := Kd.at_string HR2.out x7_2 p267 q267
                      have hw267_0 := hx267_0
                      obtain rfl : ad264 = ad267 := (by injection e267)
                      replace hx267_0 := (HB.out.cell (World.block_lt_of_cell? w _ hx267_0)).trans hx267_0
                      replace p267 := eq_true p267
                      replace q267 := eq_true q267
                      refine start_ (n := 13) (S := fun w' => w'.cell? (ad264.add (x7_2).toNat) = some (.string (rdOf ByteArray.empty l2 x7_2)) ∧ w'.cell? (ad264.add (x7_2).toNat) = some (.string (rdOf ByteArray.empty l2 x7_2))) (ds := []) #[false, false, false, false, false, false, false, false, false, false, false, false, false] (by kernel_rfl) rfl rfl ⟨((HB.out.cell (World.block_lt_of_cell? w _ hw265_0)).trans hw265_0), ((HB.out.cell (World.block_lt_of_cell? w _ hw267_0)).trans hw267_0)⟩ (fun hHeld => ?_); refine with_tabW soundingslaw01_LabelParts.tab10 soundingslaw01_LabelParts.bits10 (fun HT_ HW_ => ?_)
                      generalize wr.drew = w19 at HB hx265_0 hx267_0 hHeld ⊢
                      refine pure_ (i := 0) (N := some 37) (v := ?_) (a' := ?_) (Less.bv 13 1) rfl rfl (any_of HT_.out (by kernel_rfl)) (fun _ _ _ h => h) (Or.inl ⟨by rfl, ?_⟩) ?_ ?_
                      rotate_left
                      · intro w'
                        go_simp
                        with_reducible rfl
                      rotate_left
                      · simp only [Act.put, Less.p1, Less.p2, Less.p3, i64_w, i32_w]
                        rfl
                      refine pure_ (i := 1) (N := some 38) (v := ?_) (a' := ?_) (Less.bv 13 3) rfl rfl (any_of HT_.out (by kernel_rfl)) (fun _ _ _ h => h) (Or.inl ⟨by rfl, ?_⟩) ?_ ?_
                      rotate_left
                      · intro w'
                        go_simp
                        with_reducible rfl
                      rotate_left
                      · simp only [Act.put, Less.p1, Less.p2, Less.p3, i64_w, i32_w]
                        rfl
                      refine pure_ (i := 2) (N := some 39) (v := ?_) (a' := ?_) (Less.bv 13 7) rfl rfl (any_of HT_.out (by kernel_rfl)) (fun _ _ _ h => h) (Or.inl ⟨by rfl, ?_⟩) ?_ ?_
                      rotate_left
                      · intro w'
                        go_simp
                        with_reducible rfl
                      rotate_left
                      · simp only [Act.put, Less.p1, Less.p2, Less.p3, i64_w, i32_w]
                        rfl
                      refine pure_ (i := 3) (N := some 40) (v := ?_) (a' := ?_) (Less.bv 13 15) rfl rfl (any_of HT_.out (by kernel_rfl)) (fun _ _ _ h => h) (Or.inl ⟨by rfl, ?_⟩) ?_ ?_
                      rotate_left
                      · intro w'
                        go_simp
                        with_reducible rfl
                      rotate_left
                      · simp only [Act.put, Less.p1, Less.p2, Less.p3, i64_w, i32_w]
                        rfl
                      refine pure_ (i := 6) (N := some 43) (v := ?_) (a' := ?_) (Less.bv 13 79) rfl rfl (any_of HT_.out (by kernel_rfl)) (fun _ _ _ h => h) (Or.inl ⟨by rfl, ?_⟩) ?_ ?_
                      rotate_left
                      · intro w'
                        go_simp
                        with_reducible rfl
                      rotate_left
                      · simp only [Act.put, Less.p1, Less.p2, Less.p3, i64_w, i32_w]
                        rfl
                      refine pure_ (i := 7) (N := some 44) (v := ?_) (a' := ?_) (Less.bv 13 207) rfl rfl (any_of HT_.out (by kernel_rfl)) (fun _ _ _ h => h) (Or.inl ⟨by rfl, ?_⟩) ?_ ?_
                      rotate_left
                      · intro w'
                        go_simp
                        with_reducible rfl
                      rotate_left
                      · simp only [Act.put, Less.p1, Less.p2, Less.p3, i64_w, i32_w]
                        rfl
                      refine pure_ (i := 8) (N := some 45) (v := ?_) (a' := ?_) (Less.bv 13 463) rfl rfl (any_of HT_.out (by kernel_rfl)) (fun _ _ _ h => h) (Or.inl ⟨by rfl, ?_⟩) ?_ ?_
                      rotate_left
                      · intro w'
                        go_simp
                        with_reducible rfl
                      rotate_left
                      · simp only [Act.put, Less.p1, Less.p2, Less.p3, i64_w, i32_w]
                        rfl
                      refine pure_ (i := 9) (N := some 46) (v := ?_) (a' := ?_) (Less.bv 13 975) rfl rfl (any_of HT_.out (by kernel_rfl)) (fun _ _ _ h => h) (Or.inl ⟨by rfl, ?_⟩) ?_ ?_
                      rotate_left
                      · intro w'
                        go_simp
                        with_reducible rfl
                      rotate_left
                      · simp only [Act.put, Less.p1, Less.p2, Less.p3, i64_w, i32_w]
                        rfl
                      refine take_ (i := 4) (N := some 41) (v := ?_) (a' := ?_) (Less.bv 13 991) rfl rfl (take_ofW HT_.out HW_.out (by kernel_rfl)) (fun _ _ _ h => h) (Or.inl ⟨by rfl, ?_⟩) hHeld ?_ ?_
                      rotate_left
                      · rintro w' ⟨s0, s1⟩
                        go_simp
                        with_reducible rfl
                      rotate_left
                      · simp only [Act.put, Less.p1, Less.p2, Less.p3, i64_w, i32_w]
                        rfl
                      refine take_ (i := 10) (N := some 47) (v := ?_) (a' := ?_) (Less.bv 13 2015) rfl rfl (take_ofW HT_.out HW_.out (by kernel_rfl)) (fun _ _ _ h => h) (Or.inl ⟨by rfl, ?_⟩) hHeld ?_ ?_
                      rotate_left
                      · rintro w' ⟨s0, s1⟩
                        go_simp
                        with_reducible rfl
                      rotate_left
                      · simp only [Act.put, Less.p1, Less.p2, Less.p3, i64_w, i32_w]
                        rfl
                      refine one_ (i := 5) (N := some 42) (Less.bv 13 2047) rfl rfl (one_of HT_.out (by kernel_rfl)) (by decide) (fun K hK => ?_)
                      refine goes_ Tryd.func22 (by kernel_rfl) rfl #[.slice A0 l0.length c0, .string (rdOf ByteArray.empty l2 x7_2)] (by rfl) rfl rfl (by (try simp only [List.map_toArray, List.map_cons, List.map_nil]); first | done | rfl | (simp only [List.length_drop, List.length_take]; rfl)) ?_
                      with_reducible refine (label_Get.calls k2 _ _ l0 (rdOf ByteArray.empty l2 x7_2) t266 _ ?side1 ?side2 A16.out).mono ?_
                      (case side1 => repeat (first | exact (Kd.C_below HR0.out HB.out) | (with_reducible refine Kd.C_alloc ?_ _) | (with_reducible refine Kd.C_drewN ?_ _) | (with_reducible refine Kd.C_drew ?_)))
                      (case side2 => exact HC0.out)
                      rintro e w20 ⟨rfl, hb⟩
                      refine ⟨_, rfl, ?_⟩
                      have n0_ := Aside0.mk (below_step (by repeat (first | (with_reducible first | exact HB.out | apply below_alloc | apply pw_below_drewN | apply below_drew1) | exact HB.out)) hb)
                      clear HB
                      have HB := n0_
                      clear n0_
                      (try clear hb)
                      (try clear hb2)
                      (try clear hk)
                      (try clear hi)
                      refine hK.out _ _ ⟨((HB.out.cell (World.block_lt_of_cell? w _ hw265_0)).trans hw265_0), ((HB.out.cell (World.block_lt_of_cell? w _ hw267_0)).trans hw267_0)⟩ (fun hHeld => ?_)
                      clear hK K
                      refine norm_ (a' := ?_) ?_ ?_
                      rotate_left
                      · show Act.put _ (some 42) _ = _
                        simp only [Act.put, Less.p1, Less.p2, Less.p3, i64_w, i32_w]
                        rfl
                      refine one_ (i := 11) (N := some 48) (Less.bv 13 4095) rfl rfl (one_of HT_.out (by kernel_rfl)) (by decide) (fun K hK => ?_)
                      refine goes_ Tryd.func23 (by kernel_rfl) rfl #[.slice A0 l0.length c0, .string (rdOf ByteArray.empty l2 x7_2)] (by rfl) rfl rfl (by (try simp only [List.map_toArray, List.map_cons, List.map_nil]); first | done | rfl | (simp only [List.length_drop, List.length_take]; rfl)) ?_
                      with_reducible refine (soundingsref01_Get.calls k2 _ _ l0 (rdOf ByteArray.empty l2 x7_2) t268 _ ?side1 ?side2 A17.out).mono ?_
                      (case side1 => repeat (first | exact (Kd.C_below HR0.out HB.out) | (with_reducible refine Kd.C_alloc ?_ _) | (with_reducible refine Kd.C_drewN ?_ _) | (with_reducible refine Kd.C_drew ?_)))
                      (case side2 => exact HC0.out)
                      rintro e w' ⟨rfl, ⟨nd, rfl⟩⟩
                      refine ⟨_, rfl, ?_⟩
                      refine hK.out _ _ ⟨((HB.out.cell (World.block_lt_of_cell? w _ hw265_0)).trans hw265_0), ((HB.out.cell (World.block_lt_of_cell? w _ hw267_0)).trans hw267_0)⟩ (fun hHeld => ?_)
                      clear hK K
                      refine norm_ (a' := ?_) ?_ ?_
                      rotate_left
                      · show Act.put _ (some 48) _ = _
                        simp only [Act.put, Less.p1, Less.p2, Less.p3, i64_w, i32_w]
                        rfl
                      refine pure_ (i := 12) (N := some 49) (v := ?_) (a' := ?_) (Less.bv 13 8191) rfl rfl (any_of HT_.out (by kernel_rfl)) (fun _ _ _ h => h) (Or.inl ⟨by rfl, ?_⟩) ?_ ?_
                      rotate_left
                      · intro w'
                        go_simp
                        with_reducible rfl
                      rotate_left
                      · simp only [Act.put, Less.p1, Less.p2, Less.p3, i64_w, i32_w]
                        rfl
                      refine done_ (done_of HT_.out (by kernel_rfl)) ?_
                      try go_wp2
                      go_roundg k2
                      case measure => have := HJ5.out; have := HK2.out; omega
                      case rel => exact ⟨(wrap64 (x7_2 + 1)), (by first | rfl | (simp; done) | (simp [*]; done)), H', ⟨by have := HJ5.out; have := HK2.out; omega⟩, ⟨by repeat (first | (with_reducible first | exact HB.out | apply below_alloc | apply pw_below_drewN | apply below_drew1) | exact HB.out)⟩⟩
                    · rw [if_neg c18] at H
                      have c18b0 : (t266.toList == t268.toList) = false := beq_eq_false_iff_ne.mpr c18
                      have c18b1 : (t266.toList != t268.toList) = true := bne_iff_ne.mpr c18
                      obtain rfl := Option.some.inj H
                      have p264 : 0 ≤ (x7_2 : Int) := of_decide_eq_true (by first | (with_reducible assumption) | assumption)
                      have q264 : x7_2 < (l2.length : Int) := of_decide_eq_true (by first | (with_reducible assumption) | assumption)
                      obtain ⟨ad264, e264, hx264_0⟩ := Kd.at_string HR2.out x7_2 p264 q264
                      cases e264
                      replace hx264_0 := (HB.out.cell (World.block_lt_of_cell? w _ hx264_0)).trans hx264_0
                      replace p264 := eq_true p264
                      replace q264 := eq_true q264
                      try go_wp2
                      have n0_ := Aside0.mk (below_drew1 HB.out)
                      clear HB
                      have HB := n0_
                      clear n0_
                      have p265 : 0 ≤ (x7_2 : Int) := of_decide_eq_true (by first | (with_reducible assumption) | assumption)
                      have q265 : x7_2 < (l2.length : Int) := of_decide_eq_true (by first | (with_reducible assumption) | assumption)
                      obtain ⟨ad265, e265, hx265_0⟩ := Kd.at_string HR2.out x7_2 p265 q265
                      have hw265_0 := hx265_0
                      obtain rfl : ad264 = ad265 := (by injection e265)
                      replace hx265_0 := (HB.out.cell (World.block_lt_of_cell? w _ hx265_0)).trans hx265_0
                      replace p265 := eq_true p265
                      replace q265 := eq_true q265
                      have p267 : 0 ≤ (x7_2 : Int) := of_decide_eq_true (by first | (with_reducible assumption) | assumption)
                      have q267 : x7_2 < (l2.length : Int) := of_decide_eq_true (by first | (with_reducible assumption) | assumption)
                      obtain ⟨ad267, e267, hx267_0⟩ := Kd.at_string HR2.out x7_2 p267 q267
                      have hw267_0 := hx267_0
                      obtain rfl : ad264 = ad267 := (by injection e267)
                      replace hx267_0 := (HB.out.cell (World.block_lt_of_cell? w _ hx267_0)).trans hx267_0
                      replace p267 := eq_true p267
                      replace q267 := eq_true q267
                      refine start_ (n := 13) (S := fun w' => w'.cell? (ad264.add (x7_2).toNat) = some (.string (rdOf ByteArray.empty l2 x7_2)) ∧ w'.cell? (ad264.add (x7_2).toNat) = some (.string (rdOf ByteArray.empty l2 x7_2))) (ds := []) #[false, false, false, false, false, false, false, false, false, false, false, false, false] (by kernel_rfl) rfl rfl ⟨((HB.out.cell (World.block_lt_of_cell? w _ hw265_0)).trans hw265_0), ((HB.out.cell (World.block_lt_of_cell? w _ hw267_0)).trans hw267_0)⟩ (fun hHeld => ?_); refine with_tabW soundingslaw01_LabelParts.tab10 soundingslaw01_LabelParts.bits10 (fun HT_ HW_ => ?_)
                      generalize wr.drew = w21 at HB hx265_0 hx267_0 hHeld ⊢
                      refine pure_ (i := 0) (N := some 37) (v := ?_) (a' := ?_) (Less.bv 13 1) rfl rfl (any_of HT_.out (by kernel_rfl)) (fun _ _ _ h => h) (Or.inl ⟨by rfl, ?_⟩) ?_ ?_
                      rotate_left
                      · intro w'
                        go_simp
                        with_reducible rfl
                      rotate_left
                      · simp only [Act.put, Less.p1, Less.p2, Less.p3, i64_w, i32_w]
                        rfl
                      refine pure_ (i := 1) (N := some 38) (v := ?_) (a' := ?_) (Less.bv 13 3) rfl rfl (any_of HT_.out (by kernel_rfl)) (fun _ _ _ h => h) (Or.inl ⟨by rfl, ?_⟩) ?_ ?_
                      rotate_left
                      · intro w'
                        go_simp
                        with_reducible rfl
                      rotate_left
                      · simp only [Act.put, Less.p1, Less.p2, Less.p3, i64_w, i32_w]
                        rfl
                      refine pure_ (i := 2) (N := some 39) (v := ?_) (a' := ?_) (Less.bv 13 7) rfl rfl (any_of HT_.out (by kernel_rfl)) (fun _ _ _ h => h) (Or.inl ⟨by rfl, ?_⟩) ?_ ?_
                      rotate_left
                      · intro w'
                        go_simp
                        with_reducible rfl
                      rotate_left
                      · simp only [Act.put, Less.p1, Less.p2, Less.p3, i64_w, i32_w]
                        rfl
                      refine pure_ (i := 3) (N := some 40) (v := ?_) (a' := ?_) (Less.bv 13 15) rfl rfl (any_of HT_.out (by kernel_rfl)) (fun _ _ _ h => h) (Or.inl ⟨by rfl, ?_⟩) ?_ ?_
                      rotate_left
                      · intro w'
                        go_simp
                        with_reducible rfl
                      rotate_left
                      · simp only [Act.put, Less.p1, Less.p2, Less.p3, i64_w, i32_w]
                        rfl
                      refine pure_ (i := 6) (N := some 43) (v := ?_) (a' := ?_) (Less.bv 13 79) rfl rfl (any_of HT_.out (by kernel_rfl)) (fun _ _ _ h => h) (Or.inl ⟨by rfl, ?_⟩) ?_ ?_
                      rotate_left
                      · intro w'
                        go_simp
                        with_reducible rfl
                      rotate_left
                      · simp only [Act.put, Less.p1, Less.p2, Less.p3, i64_w, i32_w]
                        rfl
                      refine pure_ (i := 7) (N := some 44) (v := ?_) (a' := ?_) (Less.bv 13 207) rfl rfl (any_of HT_.out (by kernel_rfl)) (fun _ _ _ h => h) (Or.inl ⟨by rfl, ?_⟩) ?_ ?_
                      rotate_left
                      · intro w'
                        go_simp
                        with_reducible rfl
                      rotate_left
                      · simp only [Act.put, Less.p1, Less.p2, Less.p3, i64_w, i32_w]
                        rfl
                      refine pure_ (i := 8) (N := some 45) (v := ?_) (a' := ?_) (Less.bv 13 463) rfl rfl (any_of HT_.out (by kernel_rfl)) (fun _ _ _ h => h) (Or.inl ⟨by rfl, ?_⟩) ?_ ?_
                      rotate_left
                      · intro w'
                        go_simp
                        with_reducible rfl
                      rotate_left
                      · simp only [Act.put, Less.p1, Less.p2, Less.p3, i64_w, i32_w]
                        rfl
                      refine pure_ (i := 9) (N := some 46) (v := ?_) (a' := ?_) (Less.bv 13 975) rfl rfl (any_of HT_.out (by kernel_rfl)) (fun _ _ _ h => h) (Or.inl ⟨by rfl, ?_⟩) ?_ ?_
                      rotate_left
                      · intro w'
                        go_simp
                        with_reducible rfl
                      rotate_left
                      · simp only [Act.put, Less.p1, Less.p2, Less.p3, i64_w, i32_w]
                        rfl
                      refine take_ (i := 4) (N := some 41) (v := ?_) (a' := ?_) (Less.bv 13 991) rfl rfl (take_ofW HT_.out HW_.out (by kernel_rfl)) (fun _ _ _ h => h) (Or.inl ⟨by rfl, ?_⟩) hHeld ?_ ?_
                      rotate_left
                      · rintro w' ⟨s0, s1⟩
                        go_simp
                        with_reducible rfl
                      rotate_left
                      · simp only [Act.put, Less.p1, Less.p2, Less.p3, i64_w, i32_w]
                        rfl
                      refine take_ (i := 10) (N := some 47) (v := ?_) (a' := ?_) (Less.bv 13 2015) rfl rfl (take_ofW HT_.out HW_.out (by kernel_rfl)) (fun _ _ _ h => h) (Or.inl ⟨by rfl, ?_⟩) hHeld ?_ ?_
                      rotate_left
                      · rintro w' ⟨s0, s1⟩
                        go_simp
                        with_reducible rfl
                      rotate_left
                      · simp only [Act.put, Less.p1, Less.p2, Less.p3, i64_w, i32_w]
                        rfl
                      refine one_ (i := 5) (N := some 42) (Less.bv 13 2047) rfl rfl (one_of HT_.out (by kernel_rfl)) (by decide) (fun K hK => ?_)
                      refine goes_ Tryd.func22 (by kernel_rfl) rfl #[.slice A0 l0.length c0, .string (rdOf ByteArray.empty l2 x7_2)] (by rfl) rfl rfl (by (try simp only [List.map_toArray, List.map_cons, List.map_nil]); first | done | rfl | (simp only [List.length_drop, List.length_take]; rfl)) ?_
                      with_reducible refine (label_Get.calls k2 _ _ l0 (rdOf ByteArray.empty l2 x7_2) t266 _ ?side1 ?side2 A16.out).mono ?_
                      (case side1 => repeat (first | exact (Kd.C_below HR0.out HB.out) | (with_reducible refine Kd.C_alloc ?_ _) | (with_reducible refine Kd.C_drewN ?_ _) | (with_reducible refine Kd.C_drew ?_)))
                      (case side2 => exact HC0.out)
                      rintro e w22 ⟨rfl, hb⟩
                      refine ⟨_, rfl, ?_⟩
                      have n0_ := Aside0.mk (below_step (by repeat (first | (with_reducible first | exact HB.out | apply below_alloc | apply pw_below_drewN | apply below_drew1) | exact HB.out)) hb)
                      clear HB
                      have HB := n0_
                      clear n0_
                      (try clear hb)
                      (try clear hb2)
                      (try clear hk)
                      (try clear hi)
                      refine hK.out _ _ ⟨((HB.out.cell (World.block_lt_of_cell? w _ hw265_0)).trans hw265_0), ((HB.out.cell (World.block_lt_of_cell? w _ hw267_0)).trans hw267_0)⟩ (fun hHeld => ?_)
                      clear hK K
                      refine norm_ (a' := ?_) ?_ ?_
                      rotate_left
                      · show Act.put _ (some 42) _ = _
                        simp only [Act.put, Less.p1, Less.p2, Less.p3, i64_w, i32_w]
                        rfl
                      refine one_ (i := 11) (N := some 48) (Less.bv 13 4095) rfl rfl (one_of HT_.out (by kernel_rfl)) (by decide) (fun K hK => ?_)
                      refine goes_ Tryd.func23 (by kernel_rfl) rfl #[.slice A0 l0.length c0, .string (rdOf ByteArray.empty l2 x7_2)] (by rfl) rfl rfl (by (try simp only [List.map_toArray, List.map_cons, List.map_nil]); first | done | rfl | (simp only [List.length_drop, List.length_take]; rfl)) ?_
                      with_reducible refine (soundingsref01_Get.calls k2 _ _ l0 (rdOf ByteArray.empty l2 x7_2) t268 _ ?side1 ?side2 A17.out).mono ?_
                      (case side1 => repeat (first | exact (Kd.C_below HR0.out HB.out) | (with_reducible refine Kd.C_alloc ?_ _) | (with_reducible refine Kd.C_drewN ?_ _) | (with_reducible refine Kd.C_drew ?_)))
                      (case side2 => exact HC0.out)
                      rintro e w' ⟨rfl, ⟨nd, rfl⟩⟩
                      refine ⟨_, rfl, ?_⟩
                      refine hK.out _ _ ⟨((HB.out.cell (World.block_lt_of_cell? w _ hw265_0)).trans hw265_0), ((HB.out.cell (World.block_lt_of_cell? w _ hw267_0)).trans hw267_0)⟩ (fun hHeld => ?_)
                      clear hK K
                      refine norm_ (a' := ?_) ?_ ?_
                      rotate_left
                      · show Act.put _ (some 48) _ = _
                        simp only [Act.put, Less.p1, Less.p2, Less.p3, i64_w, i32_w]
                        rfl
                      refine pure_ (i := 12) (N := some 49) (v := ?_) (a' := ?_) (Less.bv 13 8191) rfl rfl (any_of HT_.out (by kernel_rfl)) (fun _ _ _ h => h) (Or.inl ⟨by rfl, ?_⟩) ?_ ?_
                      rotate_left
                      · intro w'
                        go_simp
                        with_reducible rfl
                      rotate_left
                      · simp only [Act.put, Less.p1, Less.p2, Less.p3, i64_w, i32_w]
                        rfl
                      refine done_ (done_of HT_.out (by kernel_rfl)) ?_
                      try go_wp2
                      go_ret
                      exact ⟨by first | rfl | (simp [errW_none, errW_some] <;> rfl) | (simp [*, errW_none, errW_some] <;> rfl), by repeat (first | (with_reducible first | exact HB.out | apply below_alloc | apply pw_below_drewN | apply below_drew1) | exact HB.out)⟩
                · rw [if_neg c14] at H
                  exact absurd H (by simp)
              · rw [if_neg c13] at H
                have c13b0 : decide (x7_2 < (l2.length : Int)) = false := decide_eq_false c13
                clear c13
                replace H := Option.bind_eq_some_iff.mp H
                obtain ⟨t269, A230, H⟩ := H
                replace H : ((label_Drop.f l0 l2).bind fun t272 => ((label_Cmp.f l0 l1).bind fun t275 => ((soundingsref01_Cmp.f k2 l0 l1).bind fun t276 => (if t275 = t276 then ((soundingsref01_Part.f k2 l0 l2 true).bind fun t277 => ((soundingsref01_Cmp.f k2 t269 t277).bind fun t280 => (if t280 = 0 then ((soundingsref01_Part.f k2 l0 l2 false).bind fun t281 => ((soundingsref01_Cmp.f k2 t272 t281).bind fun t284 => (if t284 = 0 then (soundingslaw01_LabelParts.j2 k2 l0 t269 t272 ((wrap64 ((t269.length : Int) + (t272.length : Int))) != (l0.length : Int))) else (soundingslaw01_LabelParts.j2 k2 l0 t269 t272 true)))) else (soundingslaw01_LabelParts.j2 k2 l0 t269 t272 true)))) else (soundingslaw01_LabelParts.j2 k2 l0 t269 t272 true))))) = some r := H
                have A23 := Aside0.mk A230
                clear A230
                replace H := Option.bind_eq_some_iff.mp H
                obtain ⟨t272, A240, H⟩ := H
                replace H : ((label_Cmp.f l0 l1).bind fun t275 => ((soundingsref01_Cmp.f k2 l0 l1).bind fun t276 => (if t275 = t276 then ((soundingsref01_Part.f k2 l0 l2 true).bind fun t277 => ((soundingsref01_Cmp.f k2 t269 t277).bind fun t280 => (if t280 = 0 then ((soundingsref01_Part.f k2 l0 l2 false).bind fun t281 => ((soundingsref01_Cmp.f k2 t272 t281).bind fun t284 => (if t284 = 0 then (soundingslaw01_LabelParts.j2 k2 l0 t269 t272 ((wrap64 ((t269.length : Int) + (t272.length : Int))) != (l0.length : Int))) else (soundingslaw01_LabelParts.j2 k2 l0 t269 t272 true)))) else (soundingslaw01_LabelParts.j2 k2 l0 t269 t272 true)))) else (soundingslaw01_LabelParts.j2 k2 l0 t269 t272 true)))) = some r := H
                have A24 := Aside0.mk A240
                clear A240
                have HC25 := Aside0.mk H
                clear H
                go_upto_region 13 with (first | ((with_reducible refine gate_callee (f := 24) rfl ?_); refine goesL_ (some 52) rfl rfl Tryd.func24 (by kernel_rfl) rfl #[.slice A0 l0.length c0, .slice A2 l2.length c2] rfl (by (try simp only [List.map_toArray, List.map_cons, List.map_nil]); first | done | rfl | (simp only [List.length_drop, List.length_take]; rfl)) ?_; (with_reducible refine (label_Keep.calls _ _ l0 _ _ l2 t269 _ ?side1 ?side2 ?side3 ?side4 ?hGL A23.out).mono ?_); (case hGL => exact GL.below HG.out (by repeat (first | (with_reducible first | exact HB.out | apply below_alloc | apply pw_below_drewN | apply below_drew1) | exact HB.out))); (case side1 => repeat (first | exact (Kd.C_below HR0.out HB.out) | (with_reducible refine Kd.C_alloc ?_ _) | (with_reducible refine Kd.C_drewN ?_ _) | (with_reducible refine Kd.C_drew ?_))); (case side2 => exact HC0.out); (case side3 => repeat (first | exact (Kd.C_below HR2.out HB.out) | (with_reducible refine Kd.C_alloc ?_ _) | (with_reducible refine Kd.C_drewN ?_ _) | (with_reducible refine Kd.C_drew ?_))); (case side4 => exact HC2.out); rintro e w26 ⟨v270, rfl, ho0, hb⟩; refine ⟨_, rfl, ?_⟩; have n0_ := Aside0.mk (Kd.R_lower ho0 (below_size (by repeat (first | (with_reducible first | exact HB.out | apply below_alloc | apply pw_below_drewN | apply below_drew1) | exact HB.out)))); have n1_ := Aside0.mk (below_step (by repeat (first | (with_reducible first | exact HB.out | apply below_alloc | apply pw_below_drewN | apply below_drew1) | exact HB.out)) hb); clear HB; have HO271 := n0_; have HB := n1_; clear n0_ n1_; (try clear hb); (try clear hb2); (try clear hk); (try clear hi); (try clear ho0)) | ((with_reducible refine gate_callee (f := 25) rfl ?_); refine goesL_ (some 55) rfl rfl Tryd.func25 (by kernel_rfl) rfl #[.slice A0 l0.length c0, .slice A2 l2.length c2] rfl (by (try simp only [List.map_toArray, List.map_cons, List.map_nil]); first | done | rfl | (simp only [List.length_drop, List.length_take]; rfl)) ?_; (with_reducible refine (label_Drop.calls _ _ l0 _ _ l2 t272 _ ?side1 ?side2 ?side3 ?side4 ?hGL A24.out).mono ?_); (case hGL => exact GL.below HG.out (by repeat (first | (with_reducible first | exact HB.out | apply below_alloc | apply pw_below_drewN | apply below_drew1) | exact HB.out))); (case side1 => repeat (first | exact (Kd.C_below HR0.out HB.out) | (with_reducible refine Kd.C_alloc ?_ _) | (with_reducible refine Kd.C_drewN ?_ _) | (with_reducible refine Kd.C_drew ?_))); (case side2 => exact HC0.out); (case side3 => repeat (first | exact (Kd.C_below HR2.out HB.out) | (with_reducible refine Kd.C_alloc ?_ _) | (with_reducible refine Kd.C_drewN ?_ _) | (with_reducible refine Kd.C_drew ?_))); (case side4 => exact HC2.out); rintro e w27 ⟨v273, rfl, ho0, hb⟩; refine ⟨_, rfl, ?_⟩; have n0_ := Aside0.mk (Kd.R_elder' (by (with_reducible repeat (first | apply Kd.R_alloc | apply Kd.R_drewN | apply Kd.R_drew)); exact HO271.out) (Kd.R_base ho0) hb); have n1_ := Aside0.mk (Kd.R_lower (Kd.R_new' ho0 (Kd.R_lt (by (with_reducible repeat (first | apply Kd.R_alloc | apply Kd.R_drewN | apply Kd.R_drew)); exact HO271.out))) (below_size (by repeat (first | (with_reducible first | exact HB.out | apply below_alloc | apply pw_below_drewN | apply below_drew1) | exact HB.out)))); have n2_ := Aside0.mk (below_step (by repeat (first | (with_reducible first | exact HB.out | apply below_alloc | apply pw_below_drewN | apply below_drew1) | exact HB.out)) hb); clear HO271; clear HB; have HO271 := n0_; have HO274 := n1_; have HB := n2_; clear n0_ n1_ n2_; (try clear hb); (try clear hb2); (try clear hk); (try clear hi); (try clear ho0)))
                (try simp only [Act.put, List.setIfInBounds_toArray, List.set_cons_zero, List.set_cons_succ])
                go_cut [88] (fun v88 wc => ∃ (kq : Nat) (x88_24 : Bool), v88 = .bool x88_24 ∧ Aside0 (soundingslaw01_LabelParts.j2 kq l0 t269 t272 x88_24 = some r) ∧ Aside0 (kq ≤ k2) ∧ Aside0 (Kd.R k36 36 wc w.heap.size (fun k_ => some k_ ≠ (v273 : Value).ownBlock) v270 t269) ∧ Aside0 (Kd.R k36 36 wc w.heap.size (fun k_ => some k_ ≠ (v270 : Value).ownBlock) v273 t272) ∧ Aside0 (Below w.heap.size w wc))
                case first =>
                  have H := HC25.out
                  clear HC25
                  replace H := Option.bind_eq_some_iff.mp H
                  obtain ⟨t275, A280, H⟩ := H
                  replace H : ((soundingsref01_Cmp.f k2 l0 l1).bind fun t276 => (if t275 = t276 then ((soundingsref01_Part.f k2 l0 l2 true).bind fun t277 => ((soundingsref01_Cmp.f k2 t269 t277).bind fun t280 => (if t280 = 0 then ((soundingsref01_Part.f k2 l0 l2 false).bind fun t281 => ((soundingsref01_Cmp.f k2 t272 t281).bind fun t284 => (if t284 = 0 then (soundingslaw01_LabelParts.j2 k2 l0 t269 t272 ((wrap64 ((t269.length : Int) + (t272.length : Int))) != (l0.length : Int))) else (soundingslaw01_LabelParts.j2 k2 l0 t269 t272 true)))) else (soundingslaw01_LabelParts.j2 k2 l0 t269 t272 true)))) else (soundingslaw01_LabelParts.j2 k2 l0 t269 t272 true))) = some r := H
                  have A28 := Aside0.mk A280
                  clear A280
                  replace H := Option.bind_eq_some_iff.mp H
                  obtain ⟨t276, A290, H⟩ := H
                  replace H : (if t275 = t276 then ((soundingsref01_Part.f k2 l0 l2 true).bind fun t277 => ((soundingsref01_Cmp.f k2 t269 t277).bind fun t280 => (if t280 = 0 then ((soundingsref01_Part.f k2 l0 l2 false).bind fun t281 => ((soundingsref01_Cmp.f k2 t272 t281).bind fun t284 => (if t284 = 0 then (soundingslaw01_LabelParts.j2 k2 l0 t269 t272 ((wrap64 ((t269.length : Int) + (t272.length : Int))) != (l0.length : Int))) else (soundingslaw01_LabelParts.j2 k2 l0 t269 t272 true)))) else (soundingslaw01_LabelParts.j2 k2 l0 t269 t272 true)))) else (soundingslaw01_LabelParts.j2 k2 l0 t269 t272 true)) = some r := H
                  have A29 := Aside0.mk A290
                  clear A290
                  by_cases c30 : t275 = t276
                  · rw [if_pos c30] at H
                    have c30b0 : (t275 == t276) = true := beq_iff_eq.mpr c30
                    have c30b1 : (t275 != t276) = false := bne_eq_false_iff_eq.mpr c30
                    clear c30
                    (first | rw [c30b0] | (simp only [i64_w, i32_w]; rw [c30b0]) | skip)
                    replace H := Option.bind_eq_some_iff.mp H
                    obtain ⟨t277, A310, H⟩ := H
                    replace H : ((soundingsref01_Cmp.f k2 t269 t277).bind fun t280 => (if t280 = 0 then ((soundingsref01_Part.f k2 l0 l2 false).bind fun t281 => ((soundingsref01_Cmp.f k2 t272 t281).bind fun t284 => (if t284 = 0 then (soundingslaw01_LabelParts.j2 k2 l0 t269 t272 ((wrap64 ((t269.length : Int) + (t272.length : Int))) != (l0.length : Int))) else (soundingslaw01_LabelParts.j2 k2 l0 t269 t272 true)))) else (soundingslaw01_LabelParts.j2 k2 l0 t269 t272 true))) = some r := H
                    have A31 := Aside0.mk A310
                    clear A310
                    replace H := Option.bind_eq_some_iff.mp H
                    obtain ⟨t280, A320, H⟩ := H
                    replace H : (if t280 = 0 then ((soundingsref01_Part.f k2 l0 l2 false).bind fun t281 => ((soundingsref01_Cmp.f k2 t272 t281).bind fun t284 => (if t284 = 0 then (soundingslaw01_LabelParts.j2 k2 l0 t269 t272 ((wrap64 ((t269.length : Int) + (t272.length : Int))) != (l0.length : Int))) else (soundingslaw01_LabelParts.j2 k2 l0 t269 t272 true)))) else (soundingslaw01_LabelParts.j2 k2 l0 t269 t272 true)) = some r := H
                    have A32 := Aside0.mk A320
                    clear A320
                    by_cases c33 : t280 = 0
                    · rw [if_pos c33] at H
                      have c33b0 : (t280 == 0) = true := beq_iff_eq.mpr c33
                      have c33b1 : (t280 != 0) = false := bne_eq_false_iff_eq.mpr c33
                      clear c33
                      replace H := Option.bind_eq_some_iff.mp H
                      obtain ⟨t281, A340, H⟩ := H
                      replace H : ((soundingsref01_Cmp.f k2 t272 t281).bind fun t284 => (if t284 = 0 then (soundingslaw01_LabelParts.j2 k2 l0 t269 t272 ((wrap64 ((t269.length : Int) + (t272.length : Int))) != (l0.length : Int))) else (soundingslaw01_LabelParts.j2 k2 l0 t269 t272 true))) = some r := H
                      have A34 := Aside0.mk A340
                      clear A340
                      replace H := Option.bind_eq_some_iff.mp H
                      obtain ⟨t284, A350, H⟩ := H
                      replace H : (if t284 = 0 then (soundingslaw01_LabelParts.j2 k2 l0 t269 t272 ((wrap64 ((t269.length : Int) + (t272.length : Int))) != (l0.length : Int))) else (soundingslaw01_LabelParts.j2 k2 l0 t269 t272 true)) = some r := H
                      have A35 := Aside0.mk A350
                      clear A350
                      by_cases c36 : t284 = 0
                      · rw [if_pos c36] at H
                        have c36b0 : (t284 == 0) = true := beq_iff_eq.mpr c36
                        have c36b1 : (t284 != 0) = false := bne_eq_false_iff_eq.mpr c36
                        clear c36
                        have H' := Aside0.mk H
                        clear H
                        go_wp2_with (first | ((with_reducible refine gate_callee (f := 21) rfl ?_); refine goesL_ (some 58) rfl rfl Tryd.func21 (by kernel_rfl) rfl #[.slice A0 l0.length c0, .slice A1 l1.length c1] rfl (by (try simp only [List.map_toArray, List.map_cons, List.map_nil]); first | done | rfl | (simp only [List.length_drop, List.length_take]; rfl)) ?_; (with_reducible refine (label_Cmp.calls _ _ l0 _ _ l1 t275 _ ?side1 ?side2 ?side3 ?side4 ?hGL A28.out).mono ?_); (case hGL => exact GL.below HG.out (by repeat (first | (with_reducible first | exact HB.out | apply below_alloc | apply pw_below_drewN | apply below_drew1) | exact HB.out))); (case side1 => repeat (first | exact (Kd.C_below HR0.out HB.out) | (with_reducible refine Kd.C_alloc ?_ _) | (with_reducible refine Kd.C_drewN ?_ _) | (with_reducible refine Kd.C_drew ?_))); (case side2 => exact HC0.out); (case side3 => repeat (first | exact (Kd.C_below HR1.out HB.out) | (with_reducible refine Kd.C_alloc ?_ _) | (with_reducible refine Kd.C_drewN ?_ _) | (with_reducible refine Kd.C_drew ?_))); (case side4 => exact HC1.out); rintro e w37 ⟨rfl, hb⟩; refine ⟨_, rfl, ?_⟩; have n0_ := Aside0.mk (Kd.R_below (by (with_reducible repeat (first | apply Kd.R_alloc | apply Kd.R_drewN | apply Kd.R_drew)); exact HO271.out) hb); have n1_ := Aside0.mk (Kd.R_below (by (with_reducible repeat (first | apply Kd.R_alloc | apply Kd.R_drewN | apply Kd.R_drew)); exact HO274.out) hb); have n2_ := Aside0.mk (below_step (by repeat (first | (with_reducible first | exact HB.out | apply below_alloc | apply pw_below_drewN | apply below_drew1) | exact HB.out)) hb); clear HO271; clear HO274; clear HB; have HO271 := n0_; have HO274 := n1_; have HB := n2_; clear n0_ n1_ n2_; (try clear hb); (try clear hb2); (try clear hk); (try clear hi)) | ((with_reducible refine gate_callee (f := 19) rfl ?_); refine goesL_ (some 61) rfl rfl Tryd.func19 (by kernel_rfl) rfl #[.slice A0 l0.length c0, .slice A1 l1.length c1] rfl (by (try simp only [List.map_toArray, List.map_cons, List.map_nil]); first | done | rfl | (simp only [List.length_drop, List.length_take]; rfl)) ?_; (with_reducible refine (soundingsref01_Cmp.calls k2 _ _ l0 _ _ l1 t276 _ ?side1 ?side2 ?side3 ?side4 A29.out).mono ?_); (case side1 => repeat (first | exact (Kd.C_below HR0.out HB.out) | (with_reducible refine Kd.C_alloc ?_ _) | (with_reducible refine Kd.C_drewN ?_ _) | (with_reducible refine Kd.C_drew ?_))); (case side2 => exact HC0.out); (case side3 => repeat (first | exact (Kd.C_below HR1.out HB.out) | (with_reducible refine Kd.C_alloc ?_ _) | (with_reducible refine Kd.C_drewN ?_ _) | (with_reducible refine Kd.C_drew ?_))); (case side4 => exact HC1.out); rintro e w' ⟨rfl, ⟨nd, rfl⟩⟩; refine ⟨_, rfl, ?_⟩) | (go_at_call 26; (with_reducible refine (soundingsref01_Part.calls k2 _ _ l0 _ _ l2 true t277 _ ?side1 ?side2 ?side3 ?side4 A31.out).mono ?_); (case side1 => repeat (first | exact (Kd.C_below HR0.out (by repeat (first | (with_reducible first | exact HB.out | apply below_alloc | apply pw_below_drewN | apply below_drew1) | exact HB.out))) | (with_reducible refine Kd.C_alloc ?_ _) | (with_reducible refine Kd.C_drewN ?_ _) | (with_reducible refine Kd.C_drew ?_))); (case side2 => exact HC0.out); (case side3 => repeat (first | exact (Kd.C_below HR2.out (by repeat (first | (with_reducible first | exact HB.out | apply below_alloc | apply pw_below_drewN | apply below_drew1) | exact HB.out))) | (with_reducible refine Kd.C_alloc ?_ _) | (with_reducible refine Kd.C_drewN ?_ _) | (with_reducible refine Kd.C_drew ?_))); (case side4 => exact HC2.out); rintro e w38 ⟨v278, rfl, ho0, hb⟩; have n0_ := Aside0.mk (Kd.R_elder' (by (with_reducible repeat (first | apply Kd.R_alloc | apply Kd.R_drewN | apply Kd.R_drew)); exact HO271.out) (Kd.R_base ho0) hb); have n1_ := Aside0.mk (Kd.R_elder' (by (with_reducible repeat (first | apply Kd.R_alloc | apply Kd.R_drewN | apply Kd.R_drew)); exact HO274.out) (Kd.R_base ho0) hb); have n2_ := Aside0.mk (Kd.R_lower (Kd.R_new' (Kd.R_new' ho0 (Kd.R_lt (by (with_reducible repeat (first | apply Kd.R_alloc | apply Kd.R_drewN | apply Kd.R_drew)); exact HO271.out))) (Kd.R_lt (by (with_reducible repeat (first | apply Kd.R_alloc | apply Kd.R_drewN | apply Kd.R_drew)); exact HO274.out))) (below_size (by repeat (first | (with_reducible first | exact HB.out | apply below_alloc | apply pw_below_drewN | apply below_drew1) | exact HB.out)))); have n3_ := Aside0.mk (below_step (by repeat (first | (with_reducible first | exact HB.out | apply below_alloc | apply pw_below_drewN | apply below_drew1) | exact HB.out)) hb); clear HO271; clear HO274; clear HB; have HO271 := n0_; have HO274 := n1_; have HO279 := n2_; have HB := n3_; clear n0_ n1_ n2_ n3_; (try clear hb); (try clear hb2); (try clear hk); (try clear hi); (try clear ho0); obtain ⟨Ao39, co39, eo39⟩ := Kd.R_slice HO271.out; subst eo39; obtain ⟨Ao40, co40, eo40⟩ := Kd.R_slice HO279.out; subst eo40) | (go_at_call 19; (with_reducible refine (soundingsref01_Cmp.calls k2 _ _ t269 _ _ t277 t280 _ ?side1 ?side2 ?side3 ?side4 A32.out).mono ?_); (case side1 => repeat (first | exact (Kd.R_reads' HO271.out).2.2 | (with_reducible refine Kd.C_alloc ?_ _) | (with_reducible refine Kd.C_drewN ?_ _) | (with_reducible refine Kd.C_drew ?_))); (case side2 => exact (Kd.R_reads' HO271.out).2.1); (case side3 => repeat (first | exact (Kd.R_reads' HO279.out).2.2 | (with_reducible refine Kd.C_alloc ?_ _) | (with_reducible refine Kd.C_drewN ?_ _) | (with_reducible refine Kd.C_drew ?_))); (case side4 => exact (Kd.R_reads' HO279.out).2.1); rintro e w' ⟨rfl, ⟨nd, rfl⟩⟩) | (go_at_call 26; (with_reducible refine (soundingsref01_Part.calls k2 _ _ l0 _ _ l2 false t281 _ ?side1 ?side2 ?side3 ?side4 A34.out).mono ?_); (case side1 => repeat (first | exact (Kd.C_below HR0.out (by repeat (first | (with_reducible first | exact HB.out | apply below_alloc | apply pw_below_drewN | apply below_drew1) | exact HB.out))) | (with_reducible refine Kd.C_alloc ?_ _) | (with_reducible refine Kd.C_drewN ?_ _) | (with_reducible refine Kd.C_drew ?_))); (case side2 => exact HC0.out); (case side3 => repeat (first | exact (Kd.C_below HR2.out (by repeat (first | (with_reducible first | exact HB.out | apply below_alloc | apply pw_below_drewN | apply below_drew1) | exact HB.out))) | (with_reducible refine Kd.C_alloc ?_ _) | (with_reducible refine Kd.C_drewN ?_ _) | (with_reducible refine Kd.C_drew ?_))); (case side4 => exact HC2.out); rintro e w41 ⟨v282, rfl, ho0, hb⟩; have n0_ := Aside0.mk (Kd.R_elder' (by (with_reducible repeat (first | apply Kd.R_alloc | apply Kd.R_drewN | apply Kd.R_drew)); exact HO271.out) (Kd.R_base ho0) hb); have n1_ := Aside0.mk (Kd.R_elder' (by (with_reducible repeat (first | apply Kd.R_alloc | apply Kd.R_drewN | apply Kd.R_drew)); exact HO274.out) (Kd.R_base ho0) hb); have n2_ := Aside0.mk (Kd.R_elder' (by (with_reducible repeat (first | apply Kd.R_alloc | apply Kd.R_drewN | apply Kd.R_drew)); exact HO279.out) (Kd.R_base ho0) hb); have n3_ := Aside0.mk (Kd.R_lower (Kd.R_new' (Kd.R_new' (Kd.R_new' ho0 (Kd.R_lt (by (with_reducible repeat (first | apply Kd.R_alloc | apply Kd.R_drewN | apply Kd.R_drew)); exact HO271.out))) (Kd.R_lt (by (with_reducible repeat (first | apply Kd.R_alloc | apply Kd.R_drewN | apply Kd.R_drew)); exact HO274.out))) (Kd.R_lt (by (with_reducible repeat (first | apply Kd.R_alloc | apply Kd.R_drewN | apply Kd.R_drew)); exact HO279.out))) (below_size (by repeat (first | (with_reducible first | exact HB.out | apply below_alloc | apply pw_below_drewN | apply below_drew1) | exact HB.out)))); have n4_ := Aside0.mk (below_step (by repeat (first | (with_reducible first | exact HB.out | apply below_alloc | apply pw_below_drewN | apply below_drew1) | exact HB.out)) hb); clear HO271; clear HO274; clear HO279; clear HB; have HO271 := n0_; have HO274 := n1_; have HO279 := n2_; have HO283 := n3_; have HB := n4_; clear n0_ n1_ n2_ n3_ n4_; (try clear hb); (try clear hb2); (try clear hk); (try clear hi); (try clear ho0); obtain ⟨Ao42, co42, eo42⟩ := Kd.R_slice HO274.out; subst eo42; obtain ⟨Ao43, co43, eo43⟩ := Kd.R_slice HO283.out; subst eo43) | (go_at_call 19; (with_reducible refine (soundingsref01_Cmp.calls k2 _ _ t272 _ _ t281 t284 _ ?side1 ?side2 ?side3 ?side4 A35.out).mono ?_); (case side1 => repeat (first | exact (Kd.R_reads' HO274.out).2.2 | (with_reducible refine Kd.C_alloc ?_ _) | (with_reducible refine Kd.C_drewN ?_ _) | (with_reducible refine Kd.C_drew ?_))); (case side2 => exact (Kd.R_reads' HO274.out).2.1); (case side3 => repeat (first | exact (Kd.R_reads' HO283.out).2.2 | (with_reducible refine Kd.C_alloc ?_ _) | (with_reducible refine Kd.C_drewN ?_ _) | (with_reducible refine Kd.C_drew ?_))); (case side4 => exact (Kd.R_reads' HO283.out).2.1); rintro e w' ⟨rfl, ⟨nd, rfl⟩⟩))
                        go_meet
                        case rel => exact ⟨_, (((wrap64 ((t269.length : Int) + (t272.length : Int))) != (l0.length : Int))), (by first | rfl | (simp; done) | (simp [*]; done)), H', ⟨by have := HJ5.out; have := HK2.out; first | omega | exact Nat.le_refl _⟩, ⟨by (with_reducible repeat (first | apply Kd.R_alloc | apply Kd.R_drewN | apply Kd.R_drew)); exact Kd.R_mono HO271.out (fun _ hk => hk.1.1.2)⟩, ⟨by (with_reducible repeat (first | apply Kd.R_alloc | apply Kd.R_drewN | apply Kd.R_drew)); exact Kd.R_mono HO274.out (fun _ hk => hk.1.1.2)⟩, ⟨by repeat (first | (with_reducible first | exact HB.out | apply below_alloc | apply pw_below_drewN | apply below_drew1) | exact HB.out)⟩⟩
                      · rw [if_neg c36] at H
                        have c36b0 : (t284 == 0) = false := beq_eq_false_iff_ne.mpr c36
                        have c36b1 : (t284 != 0) = true := bne_iff_ne.mpr c36
                        have H' := Aside0.mk H
                        clear H
                        go_wp2_with (first | ((with_reducible refine gate_callee (f := 21) rfl ?_); refine goesL_ (some 58) rfl rfl Tryd.func21 (by kernel_rfl) rfl #[.slice A0 l0.length c0, .slice A1 l1.length c1] rfl (by (try simp only [List.map_toArray, List.map_cons, List.map_nil]); first | done | rfl | (simp only [List.length_drop, List.length_take]; rfl)) ?_; (with_reducible refine (label_Cmp.calls _ _ l0 _ _ l1 t275 _ ?side1 ?side2 ?side3 ?side4 ?hGL A28.out).mono ?_); (case hGL => exact GL.below HG.out (by repeat (first | (with_reducible first | exact HB.out | apply below_alloc | apply pw_below_drewN | apply below_drew1) | exact HB.out))); (case side1 => repeat (first | exact (Kd.C_below HR0.out HB.out) | (with_reducible refine Kd.C_alloc ?_ _) | (with_reducible refine Kd.C_drewN ?_ _) | (with_reducible refine Kd.C_drew ?_))); (case side2 => exact HC0.out); (case side3 => repeat (first | exact (Kd.C_below HR1.out HB.out) | (with_reducible refine Kd.C_alloc ?_ _) | (with_reducible refine Kd.C_drewN ?_ _) | (with_reducible refine Kd.C_drew ?_))); (case side4 => exact HC1.out); rintro e w44 ⟨rfl, hb⟩; refine ⟨_, rfl, ?_⟩; have n0_ := Aside0.mk (Kd.R_below (by (with_reducible repeat (first | apply Kd.R_alloc | apply Kd.R_drewN | apply Kd.R_drew)); exact HO271.out) hb); have n1_ := Aside0.mk (Kd.R_below (by (with_reducible repeat (first | apply Kd.R_alloc | apply Kd.R_drewN | apply Kd.R_drew)); exact HO274.out) hb); have n2_ := Aside0.mk (below_step (by repeat (first | (with_reducible first | exact HB.out | apply below_alloc | apply pw_below_drewN | apply below_drew1) | exact HB.out)) hb); clear HO271; clear HO274; clear HB; have HO271 := n0_; have HO274 := n1_; have HB := n2_; clear n0_ n1_ n2_; (try clear hb); (try clear hb2); (try clear hk); (try clear hi)) | ((with_reducible refine gate_callee (f := 19) rfl ?_); refine goesL_ (some 61) rfl rfl Tryd.func19 (by kernel_rfl) rfl #[.slice A0 l0.length c0, .slice A1 l1.length c1] rfl (by (try simp only [List.map_toArray, List.map_cons, List.map_nil]); first | done | rfl | (simp only [List.length_drop, List.length_take]; rfl)) ?_; (with_reducible refine (soundingsref01_Cmp.calls k2 _ _ l0 _ _ l1 t276 _ ?side1 ?side2 ?side3 ?side4 A29.out).mono ?_); (case side1 => repeat (first | exact (Kd.C_below HR0.out HB.out) | (with_reducible refine Kd.C_alloc ?_ _) | (with_reducible refine Kd.C_drewN ?_ _) | (with_reducible refine Kd.C_drew ?_))); (case side2 => exact HC0.out); (case side3 => repeat (first | exact (Kd.C_below HR1.out HB.out) | (with_reducible refine Kd.C_alloc ?_ _) | (with_reducible refine Kd.C_drewN ?_ _) | (with_reducible refine Kd.C_drew ?_))); (case side4 => exact HC1.out); rintro e w' ⟨rfl, ⟨nd, rfl⟩⟩; refine ⟨_, rfl, ?_⟩) | (go_at_call 26; (with_reducible refine (soundingsref01_Part.calls k2 _ _ l0 _ _ l2 true t277 _ ?side1 ?side2 ?side3 ?side4 A31.out).mono ?_); (case side1 => repeat (first | exact (Kd.C_below HR0.out (by repeat (first | (with_reducible first | exact HB.out | apply below_alloc | apply pw_below_drewN | apply below_drew1) | exact HB.out))) | (with_reducible refine Kd.C_alloc ?_ _) | (with_reducible refine Kd.C_drewN ?_ _) | (with_reducible refine Kd.C_drew ?_))); (case side2 => exact HC0.out); (case side3 => repeat (first | exact (Kd.C_below HR2.out (by repeat (first | (with_reducible first | exact HB.out | apply below_alloc | apply pw_below_drewN | apply below_drew1) | exact HB.out))) | (with_reducible refine Kd.C_alloc ?_ _) | (with_reducible refine Kd.C_drewN ?_ _) | (with_reducible refine Kd.C_drew ?_))); (case side4 => exact HC2.out); rintro e w45 ⟨v278, rfl, ho0, hb⟩; have n0_ := Aside0.mk (Kd.R_elder' (by (with_reducible repeat (first | apply Kd.R_alloc | apply Kd.R_drewN | apply Kd.R_drew)); exact HO271.out) (Kd.R_base ho0) hb); have n1_ := Aside0.mk (Kd.R_elder' (by (with_reducible repeat (first | apply Kd.R_alloc | apply Kd.R_drewN | apply Kd.R_drew)); exact HO274.out) (Kd.R_base ho0) hb); have n2_ := Aside0.mk (Kd.R_lower (Kd.R_new' (Kd.R_new' ho0 (Kd.R_lt (by (with_reducible repeat (first | apply Kd.R_alloc | apply Kd.R_drewN | apply Kd.R_drew)); exact HO271.out))) (Kd.R_lt (by (with_reducible repeat (first | apply Kd.R_alloc | apply Kd.R_drewN | apply Kd.R_drew)); exact HO274.out))) (below_size (by repeat (first | (with_reducible first | exact HB.out | apply below_alloc | apply pw_below_drewN | apply below_drew1) | exact HB.out)))); have n3_ := Aside0.mk (below_step (by repeat (first | (with_reducible first | exact HB.out | apply below_alloc | apply pw_below_drewN | apply below_drew1) | exact HB.out)) hb); clear HO271; clear HO274; clear HB; have HO271 := n0_; have HO274 := n1_; have HO279 := n2_; have HB := n3_; clear n0_ n1_ n2_ n3_; (try clear hb); (try clear hb2); (try clear hk); (try clear hi); (try clear ho0); obtain ⟨Ao46, co46, eo46⟩ := Kd.R_slice HO271.out; subst eo46; obtain ⟨Ao47, co47, eo47⟩ := Kd.R_slice HO279.out; subst eo47) | (go_at_call 19; (with_reducible refine (soundingsref01_Cmp.calls k2 _ _ t269 _ _ t277 t280 _ ?side1 ?side2 ?side3 ?side4 A32.out).mono ?_); (case side1 => repeat (first | exact (Kd.R_reads' HO271.out).2.2 | (with_reducible refine Kd.C_alloc ?_ _) | (with_reducible refine Kd.C_drewN ?_ _) | (with_reducible refine Kd.C_drew ?_))); (case side2 => exact (Kd.R_reads' HO271.out).2.1); (case side3 => repeat (first | exact (Kd.R_reads' HO279.out).2.2 | (with_reducible refine Kd.C_alloc ?_ _) | (with_reducible refine Kd.C_drewN ?_ _) | (with_reducible refine Kd.C_drew ?_))); (case side4 => exact (Kd.R_reads' HO279.out).2.1); rintro e w' ⟨rfl, ⟨nd, rfl⟩⟩) | (go_at_call 26; (with_reducible refine (soundingsref01_Part.calls k2 _ _ l0 _ _ l2 false t281 _ ?side1 ?side2 ?side3 ?side4 A34.out).mono ?_); (case side1 => repeat (first | exact (Kd.C_below HR0.out (by repeat (first | (with_reducible first | exact HB.out | apply below_alloc | apply pw_below_drewN | apply below_drew1) | exact HB.out))) | (with_reducible refine Kd.C_alloc ?_ _) | (with_reducible refine Kd.C_drewN ?_ _) | (with_reducible refine Kd.C_drew ?_))); (case side2 => exact HC0.out); (case side3 => repeat (first | exact (Kd.C_below HR2.out (by repeat (first | (with_reducible first | exact HB.out | apply below_alloc | apply pw_below_drewN | apply below_drew1) | exact HB.out))) | (with_reducible refine Kd.C_alloc ?_ _) | (with_reducible refine Kd.C_drewN ?_ _) | (with_reducible refine Kd.C_drew ?_))); (case side4 => exact HC2.out); rintro e w48 ⟨v282, rfl, ho0, hb⟩; have n0_ := Aside0.mk (Kd.R_elder' (by (with_reducible repeat (first | apply Kd.R_alloc | apply Kd.R_drewN | apply Kd.R_drew)); exact HO271.out) (Kd.R_base ho0) hb); have n1_ := Aside0.mk (Kd.R_elder' (by (with_reducible repeat (first | apply Kd.R_alloc | apply Kd.R_drewN | apply Kd.R_drew)); exact HO274.out) (Kd.R_base ho0) hb); have n2_ := Aside0.mk (Kd.R_elder' (by (with_reducible repeat (first | apply Kd.R_alloc | apply Kd.R_drewN | apply Kd.R_drew)); exact HO279.out) (Kd.R_base ho0) hb); have n3_ := Aside0.mk (Kd.R_lower (Kd.R_new' (Kd.R_new' (Kd.R_new' ho0 (Kd.R_lt (by (with_reducible repeat (first | apply Kd.R_alloc | apply Kd.R_drewN | apply Kd.R_drew)); exact HO271.out))) (Kd.R_lt (by (with_reducible repeat (first | apply Kd.R_alloc | apply Kd.R_drewN | apply Kd.R_drew)); exact HO274.out))) (Kd.R_lt (by (with_reducible repeat (first | apply Kd.R_alloc | apply Kd.R_drewN | apply Kd.R_drew)); exact HO279.out))) (below_size (by repeat (first | (with_reducible first | exact HB.out | apply below_alloc | apply pw_below_drewN | apply below_drew1) | exact HB.out)))); have n4_ := Aside0.mk (below_step (by repeat (first | (with_reducible first | exact HB.out | apply below_alloc | apply pw_below_drewN | apply below_drew1) | exact HB.out)) hb); clear HO271; clear HO274; clear HO279; clear HB; have HO271 := n0_; have HO274 := n1_; have HO279 := n2_; have HO283 := n3_; have HB := n4_; clear n0_ n1_ n2_ n3_ n4_; (try clear hb); (try clear hb2); (try clear hk); (try clear hi); (try clear ho0); obtain ⟨Ao49, co49, eo49⟩ := Kd.R_slice HO274.out; subst eo49; obtain ⟨Ao50, co50, eo50⟩ := Kd.R_slice HO283.out; subst eo50) | (go_at_call 19; (with_reducible refine (soundingsref01_Cmp.calls k2 _ _ t272 _ _ t281 t284 _ ?side1 ?side2 ?side3 ?side4 A35.out).mono ?_); (case side1 => repeat (first | exact (Kd.R_reads' HO274.out).2.2 | (with_reducible refine Kd.C_alloc ?_ _) | (with_reducible refine Kd.C_drewN ?_ _) | (with_reducible refine Kd.C_drew ?_))); (case side2 => exact (Kd.R_reads' HO274.out).2.1); (case side3 => repeat (first | exact (Kd.R_reads' HO283.out).2.2 | (with_reducible refine Kd.C_alloc ?_ _) | (with_reducible refine Kd.C_drewN ?_ _) | (with_reducible refine Kd.C_drew ?_))); (case side4 => exact (Kd.R_reads' HO283.out).2.1); rintro e w' ⟨rfl, ⟨nd, rfl⟩⟩))
                        go_meet
                        case rel => exact ⟨_, (true), (by first | rfl | (simp; done) | (simp [*]; done)), H', ⟨by have := HJ5.out; have := HK2.out; first | omega | exact Nat.le_refl _⟩, ⟨by (with_reducible repeat (first | apply Kd.R_alloc | apply Kd.R_drewN | apply Kd.R_drew)); exact Kd.R_mono HO271.out (fun _ hk => hk.1.1.2)⟩, ⟨by (with_reducible repeat (first | apply Kd.R_alloc | apply Kd.R_drewN | apply Kd.R_drew)); exact Kd.R_mono HO274.out (fun _ hk => hk.1.1.2)⟩, ⟨by repeat (first | (with_reducible first | exact HB.out | apply below_alloc | apply pw_below_drewN | apply below_drew1) | exact HB.out)⟩⟩
                    · rw [if_neg c33] at H
                      have c33b0 : (t280 == 0) = false := beq_eq_false_iff_ne.mpr c33
                      have c33b1 : (t280 != 0) = true := bne_iff_ne.mpr c33
                      have H' := Aside0.mk H
                      clear H
                      go_wp2_with (first | ((with_reducible refine gate_callee (f := 21) rfl ?_); refine goesL_ (some 58) rfl rfl Tryd.func21 (by kernel_rfl) rfl #[.slice A0 l0.length c0, .slice A1 l1.length c1] rfl (by (try simp only [List.map_toArray, List.map_cons, List.map_nil]); first | done | rfl | (simp only [List.length_drop, List.length_take]; rfl)) ?_; (with_reducible refine (label_Cmp.calls _ _ l0 _ _ l1 t275 _ ?side1 ?side2 ?side3 ?side4 ?hGL A28.out).mono ?_); (case hGL => exact GL.below HG.out (by repeat (first | (with_reducible first | exact HB.out | apply below_alloc | apply pw_below_drewN | apply below_drew1) | exact HB.out))); (case side1 => repeat (first | exact (Kd.C_below HR0.out HB.out) | (with_reducible refine Kd.C_alloc ?_ _) | (with_reducible refine Kd.C_drewN ?_ _) | (with_reducible refine Kd.C_drew ?_))); (case side2 => exact HC0.out); (case side3 => repeat (first | exact (Kd.C_below HR1.out HB.out) | (with_reducible refine Kd.C_alloc ?_ _) | (with_reducible refine Kd.C_drewN ?_ _) | (with_reducible refine Kd.C_drew ?_))); (case side4 => exact HC1.out); rintro e w51 ⟨rfl, hb⟩; refine ⟨_, rfl, ?_⟩; have n0_ := Aside0.mk (Kd.R_below (by (with_reducible repeat (first | apply Kd.R_alloc | apply Kd.R_drewN | apply Kd.R_drew)); exact HO271.out) hb); have n1_ := Aside0.mk (Kd.R_below (by (with_reducible repeat (first | apply Kd.R_alloc | apply Kd.R_drewN | apply Kd.R_drew)); exact HO274.out) hb); have n2_ := Aside0.mk (below_step (by repeat (first | (with_reducible first | exact HB.out | apply below_alloc | apply pw_below_drewN | apply below_drew1) | exact HB.out)) hb); clear HO271; clear HO274; clear HB; have HO271 := n0_; have HO274 := n1_; have HB := n2_; clear n0_ n1_ n2_; (try clear hb); (try clear hb2); (try clear hk); (try clear hi)) | ((with_reducible refine gate_callee (f := 19) rfl ?_); refine goesL_ (some 61) rfl rfl Tryd.func19 (by kernel_rfl) rfl #[.slice A0 l0.length c0, .slice A1 l1.length c1] rfl (by (try simp only [List.map_toArray, List.map_cons, List.map_nil]); first | done | rfl | (simp only [List.length_drop, List.length_take]; rfl)) ?_; (with_reducible refine (soundingsref01_Cmp.calls k2 _ _ l0 _ _ l1 t276 _ ?side1 ?side2 ?side3 ?side4 A29.out).mono ?_); (case side1 => repeat (first | exact (Kd.C_below HR0.out HB.out) | (with_reducible refine Kd.C_alloc ?_ _) | (with_reducible refine Kd.C_drewN ?_ _) | (with_reducible refine Kd.C_drew ?_))); (case side2 => exact HC0.out); (case side3 => repeat (first | exact (Kd.C_below HR1.out HB.out) | (with_reducible refine Kd.C_alloc ?_ _) | (with_reducible refine Kd.C_drewN ?_ _) | (with_reducible refine Kd.C_drew ?_))); (case side4 => exact HC1.out); rintro e w' ⟨rfl, ⟨nd, rfl⟩⟩; refine ⟨_, rfl, ?_⟩) | (go_at_call 26; (with_reducible refine (soundingsref01_Part.calls k2 _ _ l0 _ _ l2 true t277 _ ?side1 ?side2 ?side3 ?side4 A31.out).mono ?_); (case side1 => repeat (first | exact (Kd.C_below HR0.out (by repeat (first | (with_reducible first | exact HB.out | apply below_alloc | apply pw_below_drewN | apply below_drew1) | exact HB.out))) | (with_reducible refine Kd.C_alloc ?_ _) | (with_reducible refine Kd.C_drewN ?_ _) | (with_reducible refine Kd.C_drew ?_))); (case side2 => exact HC0.out); (case side3 => repeat (first | exact (Kd.C_below HR2.out (by repeat (first | (with_reducible first | exact HB.out | apply below_alloc | apply pw_below_drewN | apply below_drew1) | exact HB.out))) | (with_reducible refine Kd.C_alloc ?_ _) | (with_reducible refine Kd.C_drewN ?_ _) | (with_reducible refine Kd.C_drew ?_))); (case side4 => exact HC2.out); rintro e w52 ⟨v278, rfl, ho0, hb⟩; have n0_ := Aside0.mk (Kd.R_elder' (by (with_reducible repeat (first | apply Kd.R_alloc | apply Kd.R_drewN | apply Kd.R_drew)); exact HO271.out) (Kd.R_base ho0) hb); have n1_ := Aside0.mk (Kd.R_elder' (by (with_reducible repeat (first | apply Kd.R_alloc | apply Kd.R_drewN | apply Kd.R_drew)); exact HO274.out) (Kd.R_base ho0) hb); have n2_ := Aside0.mk (Kd.R_lower (Kd.R_new' (Kd.R_new' ho0 (Kd.R_lt (by (with_reducible repeat (first | apply Kd.R_alloc | apply Kd.R_drewN | apply Kd.R_drew)); exact HO271.out))) (Kd.R_lt (by (with_reducible repeat (first | apply Kd.R_alloc | apply Kd.R_drewN | apply Kd.R_drew)); exact HO274.out))) (below_size (by repeat (first | (with_reducible first | exact HB.out | apply below_alloc | apply pw_below_drewN | apply below_drew1) | exact HB.out)))); have n3_ := Aside0.mk (below_step (by repeat (first | (with_reducible first | exact HB.out | apply below_alloc | apply pw_below_drewN | apply below_drew1) | exact HB.out)) hb); clear HO271; clear HO274; clear HB; have HO271 := n0_; have HO274 := n1_; have HO279 := n2_; have HB := n3_; clear n0_ n1_ n2_ n3_; (try clear hb); (try clear hb2); (try clear hk); (try clear hi); (try clear ho0); obtain ⟨Ao53, co53, eo53⟩ := Kd.R_slice HO271.out; subst eo53; obtain ⟨Ao54, co54, eo54⟩ := Kd.R_slice HO279.out; subst eo54) | (go_at_call 19; (with_reducible refine (soundingsref01_Cmp.calls k2 _ _ t269 _ _ t277 t280 _ ?side1 ?side2 ?side3 ?side4 A32.out).mono ?_); (case side1 => repeat (first | exact (Kd.R_reads' HO271.out).2.2 | (with_reducible refine Kd.C_alloc ?_ _) | (with_reducible refine Kd.C_drewN ?_ _) | (with_reducible refine Kd.C_drew ?_))); (case side2 => exact (Kd.R_reads' HO271.out).2.1); (case side3 => repeat (first | exact (Kd.R_reads' HO279.out).2.2 | (with_reducible refine Kd.C_alloc ?_ _) | (with_reducible refine Kd.C_drewN ?_ _) | (with_reducible refine Kd.C_drew ?_))); (case side4 => exact (Kd.R_reads' HO279.out).2.1); rintro e w' ⟨rfl, ⟨nd, rfl⟩⟩))
                      go_meet
                      case rel => exact ⟨_, (true), (by first | rfl | (simp; done) | (simp [*]; done)), H', ⟨by have := HJ5.out; have := HK2.out; first | omega | exact Nat.le_refl _⟩, ⟨by (with_reducible repeat (first | apply Kd.R_alloc | apply Kd.R_drewN | apply Kd.R_drew)); exact Kd.R_mono HO271.out (fun _ hk => hk.1.2)⟩, ⟨by (with_reducible repeat (first | apply Kd.R_alloc | apply Kd.R_drewN | apply Kd.R_drew)); exact Kd.R_mono HO274.out (fun _ hk => hk.1.2)⟩, ⟨by repeat (first | (with_reducible first | exact HB.out | apply below_alloc | apply pw_below_drewN | apply below_drew1) | exact HB.out)⟩⟩
                  · rw [if_neg c30] at H
                    have c30b0 : (t275 == t276) = false := beq_eq_false_iff_ne.mpr c30
                    have c30b1 : (t275 != t276) = true := bne_iff_ne.mpr c30
                    (first | rw [c30b0] | (simp only [i64_w, i32_w]; rw [c30b0]) | skip)
                    have H' := Aside0.mk H
                    clear H
                    go_wp2_with (first | ((with_reducible refine gate_callee (f := 21) rfl ?_); refine goesL_ (some 58) rfl rfl Tryd.func21 (by kernel_rfl) rfl #[.slice A0 l0.length c0, .slice A1 l1.length c1] rfl (by (try simp only [List.map_toArray, List.map_cons, List.map_nil]); first | done | rfl | (simp only [List.length_drop, List.length_take]; rfl)) ?_; (with_reducible refine (label_Cmp.calls _ _ l0 _ _ l1 t275 _ ?side1 ?side2 ?side3 ?side4 ?hGL A28.out).mono ?_); (case hGL => exact GL.below HG.out (by repeat (first | (with_reducible first | exact HB.out | apply below_alloc | apply pw_below_drewN | apply below_drew1) | exact HB.out))); (case side1 => repeat (first | exact (Kd.C_below HR0.out HB.out) | (with_reducible refine Kd.C_alloc ?_ _) | (with_reducible refine Kd.C_drewN ?_ _) | (with_reducible refine Kd.C_drew ?_))); (case side2 => exact HC0.out); (case side3 => repeat (first | exact (Kd.C_below HR1.out HB.out) | (with_reducible refine Kd.C_alloc ?_ _) | (with_reducible refine Kd.C_drewN ?_ _) | (with_reducible refine Kd.C_drew ?_))); (case side4 => exact HC1.out); rintro e w55 ⟨rfl, hb⟩; refine ⟨_, rfl, ?_⟩; have n0_ := Aside0.mk (Kd.R_below (by (with_reducible repeat (first | apply Kd.R_alloc | apply Kd.R_drewN | apply Kd.R_drew)); exact HO271.out) hb); have n1_ := Aside0.mk (Kd.R_below (by (with_reducible repeat (first | apply Kd.R_alloc | apply Kd.R_drewN | apply Kd.R_drew)); exact HO274.out) hb); have n2_ := Aside0.mk (below_step (by repeat (first | (with_reducible first | exact HB.out | apply below_alloc | apply pw_below_drewN | apply below_drew1) | exact HB.out)) hb); clear HO271; clear HO274; clear HB; have HO271 := n0_; have HO274 := n1_; have HB := n2_; clear n0_ n1_ n2_; (try clear hb); (try clear hb2); (try clear hk); (try clear hi)) | ((with_reducible refine gate_callee (f := 19) rfl ?_); refine goesL_ (some 61) rfl rfl Tryd.func19 (by kernel_rfl) rfl #[.slice A0 l0.length c0, .slice A1 l1.length c1] rfl (by (try simp only [List.map_toArray, List.map_cons, List.map_nil]); first | done | rfl | (simp only [List.length_drop, List.length_take]; rfl)) ?_; (with_reducible refine (soundingsref01_Cmp.calls k2 _ _ l0 _ _ l1 t276 _ ?side1 ?side2 ?side3 ?side4 A29.out).mono ?_); (case side1 => repeat (first | exact (Kd.C_below HR0.out HB.out) | (with_reducible refine Kd.C_alloc ?_ _) | (with_reducible refine Kd.C_drewN ?_ _) | (with_reducible refine Kd.C_drew ?_))); (case side2 => exact HC0.out); (case side3 => repeat (first | exact (Kd.C_below HR1.out HB.out) | (with_reducible refine Kd.C_alloc ?_ _) | (with_reducible refine Kd.C_drewN ?_ _) | (with_reducible refine Kd.C_drew ?_))); (case side4 => exact HC1.out); rintro e w' ⟨rfl, ⟨nd, rfl⟩⟩; refine ⟨_, rfl, ?_⟩))
                    go_meet
                    case rel => exact ⟨_, (true), (by first | rfl | (simp; done) | (simp [*]; done)), H', ⟨by have := HJ5.out; have := HK2.out; first | omega | exact Nat.le_refl _⟩, ⟨by (with_reducible repeat (first | apply Kd.R_alloc | apply Kd.R_drewN | apply Kd.R_drew)); exact Kd.R_mono HO271.out (fun _ hk => hk.2)⟩, ⟨by (with_reducible repeat (first | apply Kd.R_alloc | apply Kd.R_drewN | apply Kd.R_drew)); exact Kd.R_mono HO274.out (fun _ hk => hk.2)⟩, ⟨by repeat (first | (with_reducible first | exact HB.out | apply below_alloc | apply pw_below_drewN | apply below_drew1) | exact HB.out)⟩⟩
                case rest =>
                  clear HC25
                  try clear c1
                  try clear c2
                  try clear p2
                  try clear q2
                  try clear hx2
                  try clear c3
                  try clear c5
                  try clear p6
                  try clear c9
                  try clear c11
                  try clear c12
                  try clear c13
                  try clear c13b0
                  try clear c14
                  try clear c14b0
                  try clear c15
                  try clear c15b0
                  try clear c15b1
                  try clear c18
                  try clear c18b0
                  try clear c18b1
                  try clear c19
                  try clear c21
                  try clear c22
                  try clear c23
                  try clear c24
                  try clear c25
                  try clear p26
                  try clear q26
                  try clear hx26
                  try clear c30
                  try clear c30b0
                  try clear c30b1
                  try clear c33
                  try clear c33b0
                  try clear c33b1
                  try clear c36
                  try clear c36b0
                  try clear c36b1
                  try clear hx264_0
                  try clear hx265_0
                  try clear hx267_0
                  try clear p2
                  try clear p264
                  try clear p265
                  try clear p267
                  try clear q264
                  try clear q265
                  try clear q267
                  obtain ⟨kq, x88_24, rfl, HA, HJ24, HO_8, HO_9, HB⟩ := hcut
                  cases kq with
                  | zero => exact absurd HA.out (by simp [soundingslaw01_LabelParts.j2])
                  | succ kj24 =>
                    have H := HA.out
                    clear HA
                    simp only [soundingslaw01_LabelParts.j2] at H
                    by_cases c56 : x88_24 = true
                    · subst c56
                      have H1 : (some false) = some r := by rw [if_pos rfl] at H; exact H
                      clear H
                      have H := H1
                      clear H1
                      obtain rfl := Option.some.inj H
                      go_wp2
                      go_ret
                      exact ⟨by first | rfl | (simp [errW_none, errW_some] <;> rfl) | (simp [*, errW_none, errW_some] <;> rfl), by repeat (first | (with_reducible first | exact HB.out | apply below_alloc | apply pw_below_drewN | apply below_drew1) | exact HB.out)⟩
                    · replace c56 := Bool.eq_false_iff.mpr c56
                      subst c56
                      have H1 : ((soundingsref01_Right.f kj24 l0).bind fun t285 => (if t285 = true then ((label_Right.f kj24 t269).bind fun t286 => (if t286 = true then ((label_Right.f kj24 t272).bind fun t287 => (some t287)) else (some false))) else (some true))) = some r := by rw [if_neg (show ¬ (false = true) by decide)] at H; exact H
                      clear H
                      have H := H1
                      clear H1
                      replace H := Option.bind_eq_some_iff.mp H
                      obtain ⟨t285, A570, H⟩ := H
                      replace H : (if t285 = true then ((label_Right.f kj24 t269).bind fun t286 => (if t286 = true then ((label_Right.f kj24 t272).bind fun t287 => (some t287)) else (some false))) else (some true)) = some r := H
                      have A57 := Aside0.mk A570
                      clear A570
                      by_cases c58 : t285 = true
                      · subst c58
                        have H1 : ((label_Right.f kj24 t269).bind fun t286 => (if t286 = true then ((label_Right.f kj24 t272).bind fun t287 => (some t287)) else (some false))) = some r := by rw [if_pos rfl] at H; exact H
                        clear H
                        have H := H1
                        clear H1
                        replace H := Option.bind_eq_some_iff.mp H
                        obtain ⟨t286, A590, H⟩ := H
                        replace H : (if t286 = true then ((label_Right.f kj24 t272).bind fun t287 => (some t287)) else (some false)) = some r := H
                        have A59 := Aside0.mk A590
                        clear A590
                        by_cases c60 : t286 = true
                        · subst c60
                          have H1 : ((label_Right.f kj24 t272).bind fun t287 => (some t287)) = some r := by rw [if_pos rfl] at H; exact H
                          clear H
                          have H := H1
                          clear H1
                          replace H := Option.bind_eq_some_iff.mp H
                          obtain ⟨t287, A610, H⟩ := H
                          replace H : (some t287) = some r := H
                          have A61 := Aside0.mk A610
                          clear A610
                          obtain rfl := Option.some.inj H
                          go_wp2_with (first | ((with_reducible refine gate_callee (f := 16) rfl ?_); refine goesL_ (some 90) rfl rfl Tryd.func16 (by kernel_rfl) rfl #[.slice A0 l0.length c0] rfl (by (try simp only [List.map_toArray, List.map_cons, List.map_nil]); first | done | rfl | (simp only [List.length_drop, List.length_take]; rfl)) ?_; (with_reducible refine (soundingsref01_Right.calls kj24 _ _ l0 true _ ?side1 ?side2 A57.out).mono ?_); (case side1 => repeat (first | exact (Kd.C_below HR0.out HB.out) | (with_reducible refine Kd.C_alloc ?_ _) | (with_reducible refine Kd.C_drewN ?_ _) | (with_reducible refine Kd.C_drew ?_))); (case side2 => exact HC0.out); rintro e w62 ⟨rfl, hb⟩; refine ⟨_, rfl, ?_⟩; have n0_ := Aside0.mk (Kd.R_below (by (with_reducible repeat (first | apply Kd.R_alloc | apply Kd.R_drewN | apply Kd.R_drew)); exact HO_8.out) hb); have n1_ := Aside0.mk (Kd.R_below (by (with_reducible repeat (first | apply Kd.R_alloc | apply Kd.R_drewN | apply Kd.R_drew)); exact HO_9.out) hb); have n2_ := Aside0.mk (below_step (by repeat (first | (with_reducible first | exact HB.out | apply below_alloc | apply pw_below_drewN | apply below_drew1) | exact HB.out)) hb); clear HO_8; clear HO_9; clear HB; have HO_8 := n0_; have HO_9 := n1_; have HB := n2_; clear n0_ n1_ n2_; (try clear hb); (try clear hb2); (try clear hk); (try clear hi); obtain ⟨Ao63, co63, eo63⟩ := Kd.R_slice HO_8.out; subst eo63) | (go_at_call 15; (with_reducible refine (label_Right.calls kj24 _ _ t269 true _ ?side1 ?side2 ?hGL A59.out).mono ?_); (case hGL => exact GL.below HG.out (by repeat (first | (with_reducible first | exact HB.out | apply below_alloc | apply pw_below_drewN | apply below_drew1) | exact HB.out))); (case side1 => repeat (first | exact (Kd.R_reads' HO_8.out).2.2 | (with_reducible refine Kd.C_alloc ?_ _) | (with_reducible refine Kd.C_drewN ?_ _) | (with_reducible refine Kd.C_drew ?_))); (case side2 => exact (Kd.R_reads' HO_8.out).2.1); rintro e w64 ⟨rfl, hb⟩; have n0_ := Aside0.mk (Kd.R_below (by (with_reducible repeat (first | apply Kd.R_alloc | apply Kd.R_drewN | apply Kd.R_drew)); exact HO_8.out) hb); have n1_ := Aside0.mk (Kd.R_below (by (with_reducible repeat (first | apply Kd.R_alloc | apply Kd.R_drewN | apply Kd.R_drew)); exact HO_9.out) hb); have n2_ := Aside0.mk (below_step (by repeat (first | (with_reducible first | exact HB.out | apply below_alloc | apply pw_below_drewN | apply below_drew1) | exact HB.out)) hb); clear HO_8; clear HO_9; clear HB; have HO_8 := n0_; have HO_9 := n1_; have HB := n2_; clear n0_ n1_ n2_; (try clear hb); (try clear hb2); (try clear hk); (try clear hi); obtain ⟨Ao65, co65, eo65⟩ := Kd.R_slice HO_9.out; subst eo65) | (go_at_call 15; (with_reducible refine (label_Right.calls kj24 _ _ t272 t287 _ ?side1 ?side2 ?hGL A61.out).mono ?_); (case hGL => exact GL.below HG.out (by repeat (first | (with_reducible first | exact HB.out | apply below_alloc | apply pw_below_drewN | apply below_drew1) | exact HB.out))); (case side1 => repeat (first | exact (Kd.R_reads' HO_9.out).2.2 | (with_reducible refine Kd.C_alloc ?_ _) | (with_reducible refine Kd.C_drewN ?_ _) | (with_reducible refine Kd.C_drew ?_))); (case side2 => exact (Kd.R_reads' HO_9.out).2.1); rintro e w66 ⟨rfl, hb⟩; have n0_ := Aside0.mk (Kd.R_below (by (with_reducible repeat (first | apply Kd.R_alloc | apply Kd.R_drewN | apply Kd.R_drew)); exact HO_8.out) hb); have n1_ := Aside0.mk (Kd.R_below (by (with_reducible repeat (first | apply Kd.R_alloc | apply Kd.R_drewN | apply Kd.R_drew)); exact HO_9.out) hb); have n2_ := Aside0.mk (below_step (by repeat (first | (with_reducible first | exact HB.out | apply below_alloc | apply pw_below_drewN | apply below_drew1) | exact HB.out)) hb); clear HO_8; clear HO_9; clear HB; have HO_8 := n0_; have HO_9 := n1_; have HB := n2_; clear n0_ n1_ n2_; (try clear hb); (try clear hb2); (try clear hk); (try clear hi)))
                          go_ret
                          exact ⟨by first | rfl | (simp [errW_none, errW_some] <;> rfl) | (simp [*, errW_none, errW_some] <;> rfl), by repeat (first | (with_reducible first | exact HB.out | apply below_alloc | apply pw_below_drewN | apply below_drew1) | exact HB.out)⟩
                        · replace c60 := Bool.eq_false_iff.mpr c60
                          subst c60
                          have H1 : (some false) = some r := by rw [if_neg (show ¬ (false = true) by decide)] at H; exact H
                          clear H
                          have H := H1
                          clear H1
                          obtain rfl := Option.some.inj H
                          go_wp2_with (first | ((with_reducible refine gate_callee (f := 16) rfl ?_); refine goesL_ (some 90) rfl rfl Tryd.func16 (by kernel_rfl) rfl #[.slice A0 l0.length c0] rfl (by (try simp only [List.map_toArray, List.map_cons, List.map_nil]); first | done | rfl | (simp only [List.length_drop, List.length_take]; rfl)) ?_; (with_reducible refine (soundingsref01_Right.calls kj24 _ _ l0 true _ ?side1 ?side2 A57.out).mono ?_); (case side1 => repeat (first | exact (Kd.C_below HR0.out HB.out) | (with_reducible refine Kd.C_alloc ?_ _) | (with_reducible refine Kd.C_drewN ?_ _) | (with_reducible refine Kd.C_drew ?_))); (case side2 => exact HC0.out); rintro e w67 ⟨rfl, hb⟩; refine ⟨_, rfl, ?_⟩; have n0_ := Aside0.mk (Kd.R_below (by (with_reducible repeat (first | apply Kd.R_alloc | apply Kd.R_drewN | apply Kd.R_drew)); exact HO_8.out) hb); have n1_ := Aside0.mk (Kd.R_below (by (with_reducible repeat (first | apply Kd.R_alloc | apply Kd.R_drewN | apply Kd.R_drew)); exact HO_9.out) hb); have n2_ := Aside0.mk (below_step (by repeat (first | (with_reducible first | exact HB.out | apply below_alloc | apply pw_below_drewN | apply below_drew1) | exact HB.out)) hb); clear HO_8; clear HO_9; clear HB; have HO_8 := n0_; have HO_9 := n1_; have HB := n2_; clear n0_ n1_ n2_; (try clear hb); (try clear hb2); (try clear hk); (try clear hi); obtain ⟨Ao68, co68, eo68⟩ := Kd.R_slice HO_8.out; subst eo68) | (go_at_call 15; (with_reducible refine (label_Right.calls kj24 _ _ t269 false _ ?side1 ?side2 ?hGL A59.out).mono ?_); (case hGL => exact GL.below HG.out (by repeat (first | (with_reducible first | exact HB.out | apply below_alloc | apply pw_below_drewN | apply below_drew1) | exact HB.out))); (case side1 => repeat (first | exact (Kd.R_reads' HO_8.out).2.2 | (with_reducible refine Kd.C_alloc ?_ _) | (with_reducible refine Kd.C_drewN ?_ _) | (with_reducible refine Kd.C_drew ?_))); (case side2 => exact (Kd.R_reads' HO_8.out).2.1); rintro e w69 ⟨rfl, hb⟩; have n0_ := Aside0.mk (Kd.R_below (by (with_reducible repeat (first | apply Kd.R_alloc | apply Kd.R_drewN | apply Kd.R_drew)); exact HO_8.out) hb); have n1_ := Aside0.mk (Kd.R_below (by (with_reducible repeat (first | apply Kd.R_alloc | apply Kd.R_drewN | apply Kd.R_drew)); exact HO_9.out) hb); have n2_ := Aside0.mk (below_step (by repeat (first | (with_reducible first | exact HB.out | apply below_alloc | apply pw_below_drewN | apply below_drew1) | exact HB.out)) hb); clear HO_8; clear HO_9; clear HB; have HO_8 := n0_; have HO_9 := n1_; have HB := n2_; clear n0_ n1_ n2_; (try clear hb); (try clear hb2); (try clear hk); (try clear hi)))
                          go_ret
                          exact ⟨by first | rfl | (simp [errW_none, errW_some] <;> rfl) | (simp [*, errW_none, errW_some] <;> rfl), by repeat (first | (with_reducible first | exact HB.out | apply below_alloc | apply pw_below_drewN | apply below_drew1) | exact HB.out)⟩
                      · replace c58 := Bool.eq_false_iff.mpr c58
                        subst c58
                        have H1 : (some true) = some r := by rw [if_neg (show ¬ (false = true) by decide)] at H; exact H
                        clear H
                        have H := H1
                        clear H1
                        obtain rfl := Option.some.inj H
                        go_wp2_with (first | ((with_reducible refine gate_callee (f := 16) rfl ?_); refine goesL_ (some 90) rfl rfl Tryd.func16 (by kernel_rfl) rfl #[.slice A0 l0.length c0] rfl (by (try simp only [List.map_toArray, List.map_cons, List.map_nil]); first | done | rfl | (simp only [List.length_drop, List.length_take]; rfl)) ?_; (with_reducible refine (soundingsref01_Right.calls kj24 _ _ l0 false _ ?side1 ?side2 A57.out).mono ?_); (case side1 => repeat (first | exact (Kd.C_below HR0.out HB.out) | (with_reducible refine Kd.C_alloc ?_ _) | (with_reducible refine Kd.C_drewN ?_ _) | (with_reducible refine Kd.C_drew ?_))); (case side2 => exact HC0.out); rintro e w70 ⟨rfl, hb⟩; refine ⟨_, rfl, ?_⟩; have n0_ := Aside0.mk (Kd.R_below (by (with_reducible repeat (first | apply Kd.R_alloc | apply Kd.R_drewN | apply Kd.R_drew)); exact HO_8.out) hb); have n1_ := Aside0.mk (Kd.R_below (by (with_reducible repeat (first | apply Kd.R_alloc | apply Kd.R_drewN | apply Kd.R_drew)); exact HO_9.out) hb); have n2_ := Aside0.mk (below_step (by repeat (first | (with_reducible first | exact HB.out | apply below_alloc | apply pw_below_drewN | apply below_drew1) | exact HB.out)) hb); clear HO_8; clear HO_9; clear HB; have HO_8 := n0_; have HO_9 := n1_; have HB := n2_; clear n0_ n1_ n2_; (try clear hb); (try clear hb2); (try clear hk); (try clear hi)))
                        go_ret
                        exact ⟨by first | rfl | (simp [errW_none, errW_some] <;> rfl) | (simp [*, errW_none, errW_some] <;> rfl), by repeat (first | (with_reducible first | exact HB.out | apply below_alloc | apply pw_below_drewN | apply below_drew1) | exact HB.out)⟩
  · replace c5 := Bool.eq_false_iff.mpr c5
    subst c5
    have H1 : (some false) = some r := by rw [if_neg (show ¬ (false = true) by decide)] at H; exact H
    clear H
    have H := H1
    clear H1
    obtain rfl := Option.some.inj H
    go_enter Tryd.func5, Tryd.ntmps5
    go_wp2_with (first | ((with_reducible refine gate_callee (f := 11) rfl ?_); refine goesL_ (some 10) rfl rfl Tryd.func11 (by kernel_rfl) rfl #[] rfl (by (try simp only [List.map_toArray, List.map_cons, List.map_nil]); first | done | rfl | (simp only [List.length_drop, List.length_take]; rfl)) ?_; (with_reducible refine (soundingslaw01_awake.calls k  false _ ?hGL A4.out).mono ?_); (case hGL => exact GL.below HG.out (by repeat (first | (with_reducible first | exact HB.out | apply below_alloc | apply pw_below_drewN | apply below_drew1) | exact HB.out))); rintro e w71 ⟨rfl, hb⟩; refine ⟨_, rfl, ?_⟩; have n0_ := Aside0.mk (below_step (by repeat (first | (with_reducible first | exact HB.out | apply below_alloc | apply pw_below_drewN | apply below_drew1) | exact HB.out)) hb); clear HB; have HB := n0_; clear n0_; (try clear hb); (try clear hb2); (try clear hk); (try clear hi)))
    go_ret
    exact ⟨by first | rfl | (simp [errW_none, errW_some] <;> rfl) | (simp [*, errW_none, errW_some] <;> rfl), by repeat (first | (with_reducible first | exact HB.out | apply below_alloc | apply pw_below_drewN | apply below_drew1) | exact HB.out)⟩

end Go.Proofs.YtmgbnnanophehabDoor.L
