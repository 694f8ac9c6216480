/- Functions of the program as Lean functions, and the contracts by which the Go code comes to their answers, for every argument that can be read. Written by a program of this session over the print of the kit. -/
import Derived.Test.YtmgbnnanophehaaPx0
import Derived.Test.YtmgbnnanophehaaPx1
import Derived.Test.YtmgbnnanophehaaPx6
import Derived.Test.YtmgbnnanophehaaPx11
import Derived.Test.YtmgbnnanophehaaPx12
import Derived.Test.YtmgbnnanophehaaHandP
import Derived.Test.YtmgbnnanophehaaHandW
namespace Go.Proofs.Ytmgbnnanophehaa.P
open Go.RowKit Go.Proofs.YtmgbnnanophehaaW.PrintWords Go.Proofs.YtmgbnnanophehaaW.PrintLast Go.Proofs.YtmgbnnanophehaaW.PrintMore
attribute [local go_sem] max2_int min2_int max_two min_two max_three min_three max_four min_four   -- for this text's walks alone
set_option linter.unusedVariables false
set_option linter.unusedSimpArgs false

attribute [local go_sem high] eqA29
/-! ### soundingslaw06_PickWider: function 7 -/
mutual
def soundingslaw06_PickWider.j0 : Nat → List (S29) → Int → Int → Int → Bool → Option (Bool)
  | 0, _, _, _, _, _ => none
  | k + 1, x0, x1, x2, x3, x36 => if x36 = true then (some true) else ((pick_Window.f x0 x1 x2).bind fun t177 => ((pick_Window.f x0 x1 x3).bind fun t180 => ((pick_At.f k x0 x1 x2).bind fun bt183 => ((pick_At.f k x0 x1 x3).bind fun bt185 => (if (t177.length : Int) > (t180.length : Int) then (soundingslaw06_PickWider.j1 k x1 x2 t177 t180 true) else (if bt183.2 = true then (if bt185.2 = true then (soundingslaw06_PickWider.j1 k x1 x2 t177 t180 (bt183.1 != bt185.1)) else (soundingslaw06_PickWider.j1 k x1 x2 t177 t180 true)) else (soundingslaw06_PickWider.j1 k x1 x2 t177 t180 false)))))))
def soundingslaw06_PickWider.j1 : Nat → Int → Int → List (S29) → List (S29) → Bool → Option (Bool)
  | 0, _, _, _, _, _ => none
  | k + 1, x1, x2, x9, x10, x75 => if x75 = true then (some false) else (soundingslaw06_PickWider.l0 k x1 x2 x9 x10 0)
def soundingslaw06_PickWider.l0 : Nat → Int → Int → List (S29) → List (S29) → Int → Option (Bool)
  | 0, _, _, _, _, _ => none
  | k + 1, x1, x2, x9, x10, x15 => if x15 < (x9.length : Int) then (if 0 ≤ x15 then (if 0 ≤ (wrap64 ((wrap64 ((x10.length : Int) - (x9.length : Int))) + x15)) then (if (wrap64 ((wrap64 ((x10.length : Int) - (x9.length : Int))) + x15)) < (x10.length : Int) then (if (!(((rd_T29 x9 x15).f0) == ((rd_T29 x10 (wrap64 ((wrap64 ((x10.length : Int) - (x9.length : Int))) + x15))).f0)) || (!(((rd_T29 x9 x15).f1) == ((rd_T29 x10 (wrap64 ((wrap64 ((x10.length : Int) - (x9.length : Int))) + x15))).f1)))) = true then (some false) else (if ((rd_T29 x9 x15).f1) = 9218868437227405314 then (some false) else (if ((rd_T29 x9 x15).f0) > x1 then (some false) else (if ((rd_T29 x9 x15).f0) ≤ (wrap64 (x1 - x2)) then (some false) else (soundingslaw06_PickWider.l0 k x1 x2 x9 x10 (wrap64 (x15 + 1))))))) else (none)) else (none)) else (none)) else (some true)
end
def soundingslaw06_PickWider.f (k : Nat) (l0 : List (S29)) (a1 : Int) (a2 : Int) (a3 : Int) : Option (Bool) := (soundingslaw06_awake.f k).bind fun t175 => (if t175 = true then (if (l0.length : Int) > 400 then (soundingslaw06_PickWider.j0 k l0 a1 a2 a3 true) else (if a2 < 1 then (soundingslaw06_PickWider.j0 k l0 a1 a2 a3 true) else (if a3 < a2 then (soundingslaw06_PickWider.j0 k l0 a1 a2 a3 true) else ((soundingsref06_May.f k l0 a1 a3).bind fun t176 => (soundingslaw06_PickWider.j0 k l0 a1 a2 a3 (!t176)))))) else (some false))
theorem soundingslaw06_PickWider.mono_l : ∀ k, (∀ y0 y1 y2 y3 y4, LeO (soundingslaw06_PickWider.j0 k y0 y1 y2 y3 y4) (soundingslaw06_PickWider.j0 (k + 1) y0 y1 y2 y3 y4)) ∧ (∀ y0 y1 y2 y3 y4, LeO (soundingslaw06_PickWider.j1 k y0 y1 y2 y3 y4) (soundingslaw06_PickWider.j1 (k + 1) y0 y1 y2 y3 y4)) ∧ (∀ y0 y1 y2 y3 y4, LeO (soundingslaw06_PickWider.l0 k y0 y1 y2 y3 y4) (soundingslaw06_PickWider.l0 (k + 1) y0 y1 y2 y3 y4))
  | 0 => ⟨fun _ _ _ _ _ r h => by simp [soundingslaw06_PickWider.j0] at h, fun _ _ _ _ _ r h => by simp [soundingslaw06_PickWider.j1] at h, fun _ _ _ _ _ r h => by simp [soundingslaw06_PickWider.l0] at h⟩
  | k + 1 => by
    obtain ⟨ih0, ih1, ih2⟩ := soundingslaw06_PickWider.mono_l k
    refine ⟨?_, ?_, ?_⟩
    · intro y0 y1 y2 y3 y4
      unfold soundingslaw06_PickWider.j0
      repeat' first
      | (with_reducible exact ih0 _ _ _ _ _)
      | (with_reducible exact ih1 _ _ _ _ _)
      | (with_reducible exact ih2 _ _ _ _ _)
      | (with_reducible exact pick_At.mono _ _ _ _)
      | (with_reducible exact soundingslaw06_awake.mono _)
      | (with_reducible exact soundingsref06_May.mono _ _ _ _)
      | (with_reducible exact LeO.refl _)
      | (with_reducible exact LeO.none _)
      | (with_reducible refine LeO.ite ?_ ?_)
      | (with_reducible refine LeO.bind ?_ (fun _ => ?_))
      | exact ih0 _ _ _ _ _
      | exact ih1 _ _ _ _ _
      | exact ih2 _ _ _ _ _
      | exact pick_At.mono _ _ _ _
      | exact soundingslaw06_awake.mono _
      | exact soundingsref06_May.mono _ _ _ _
      | exact LeO.none _
      | refine LeO.ite ?_ ?_
      | refine LeO.bind ?_ (fun _ => ?_)
    · intro y0 y1 y2 y3 y4
      unfold soundingslaw06_PickWider.j1
      repeat' first
      | (with_reducible exact ih0 _ _ _ _ _)
      | (with_reducible exact ih1 _ _ _ _ _)
      | (with_reducible exact ih2 _ _ _ _ _)
      | (with_reducible exact pick_At.mono _ _ _ _)
      | (with_reducible exact soundingslaw06_awake.mono _)
      | (with_reducible exact soundingsref06_May.mono _ _ _ _)
      | (with_reducible exact LeO.refl _)
      | (with_reducible exact LeO.none _)
      | (with_reducible refine LeO.ite ?_ ?_)
      | (with_reducible refine LeO.bind ?_ (fun _ => ?_))
      | exact ih0 _ _ _ _ _
      | exact ih1 _ _ _ _ _
      | exact ih2 _ _ _ _ _
      | exact pick_At.mono _ _ _ _
      | exact soundingslaw06_awake.mono _
      | exact soundingsref06_May.mono _ _ _ _
      | exact LeO.none _
      | refine LeO.ite ?_ ?_
      | refine LeO.bind ?_ (fun _ => ?_)
    · intro y0 y1 y2 y3 y4
      unfold soundingslaw06_PickWider.l0
      repeat' first
      | (with_reducible exact ih0 _ _ _ _ _)
      | (with_reducible exact ih1 _ _ _ _ _)
      | (with_reducible exact ih2 _ _ _ _ _)
      | (with_reducible exact pick_At.mono _ _ _ _)
      | (with_reducible exact soundingslaw06_awake.mono _)
      | (with_reducible exact soundingsref06_May.mono _ _ _ _)
      | (with_reducible exact LeO.refl _)
      | (with_reducible exact LeO.none _)
      | (with_reducible refine LeO.ite ?_ ?_)
      | (with_reducible refine LeO.bind ?_ (fun _ => ?_))
      | exact ih0 _ _ _ _ _
      | exact ih1 _ _ _ _ _
      | exact ih2 _ _ _ _ _
      | exact pick_At.mono _ _ _ _
      | exact soundingslaw06_awake.mono _
      | exact soundingsref06_May.mono _ _ _ _
      | exact LeO.none _
      | refine LeO.ite ?_ ?_
      | refine LeO.bind ?_ (fun _ => ?_)
theorem soundingslaw06_PickWider.mono : ∀ a0 a1 a2 a3 k, LeO (soundingslaw06_PickWider.f k a0 a1 a2 a3) (soundingslaw06_PickWider.f (k + 1) a0 a1 a2 a3) := by
  intro a0 a1 a2 a3 k
  obtain ⟨ih0, ih1, ih2⟩ := soundingslaw06_PickWider.mono_l k
  unfold soundingslaw06_PickWider.f
  repeat' first
      | (with_reducible exact ih0 _ _ _ _ _)
      | (with_reducible exact ih1 _ _ _ _ _)
      | (with_reducible exact ih2 _ _ _ _ _)
      | (with_reducible exact pick_At.mono _ _ _ _)
      | (with_reducible exact soundingslaw06_awake.mono _)
      | (with_reducible exact soundingsref06_May.mono _ _ _ _)
      | (with_reducible exact LeO.refl _)
      | (with_reducible exact LeO.none _)
      | (with_reducible refine LeO.ite ?_ ?_)
      | (with_reducible refine LeO.bind ?_ (fun _ => ?_))
      | exact ih0 _ _ _ _ _
      | exact ih1 _ _ _ _ _
      | exact ih2 _ _ _ _ _
      | exact pick_At.mono _ _ _ _
      | exact soundingslaw06_awake.mono _
      | exact soundingsref06_May.mono _ _ _ _
      | exact LeO.none _
      | refine LeO.ite ?_ ?_
      | refine LeO.bind ?_ (fun _ => ?_)
set_option maxHeartbeats 8000000 in
set_option maxRecDepth 100000 in
theorem soundingslaw06_PickWider.calls (k : Nat) (A0 : Option Addr) (c0 : Nat) (l0 : List (S29)) (a1 : Int) (a2 : Int) (a3 : Int) (r : Bool) (w : World) (hr0 : Kd.C k29 w A0 l0.length l0) (hc0 : l0.length ≤ c0) (h : soundingslaw06_PickWider.f k l0 a1 a2 a3 = some r) :
    Calls Try.prog 7 #[.slice A0 l0.length c0, .int .i64 a1, .int .i64 a2, .int .i64 a3] w fun e w' => e = .returned (.bool r) ∧ Below w.heap.size w w' := by
  have hu29 := Try.underlying29
  have HR0 := Aside0.mk hr0
  have HC0 := Aside0.mk hc0
  clear hr0 hc0
  have HB := Aside0.mk (Below.refl w.heap.size w)
  have H : ((soundingslaw06_awake.f k).bind fun t175 => (if t175 = true then (if (l0.length : Int) > 400 then (soundingslaw06_PickWider.j0 k l0 a1 a2 a3 true) else (if a2 < 1 then (soundingslaw06_PickWider.j0 k l0 a1 a2 a3 true) else (if a3 < a2 then (soundingslaw06_PickWider.j0 k l0 a1 a2 a3 true) else ((soundingsref06_May.f k l0 a1 a3).bind fun t176 => (soundingslaw06_PickWider.j0 k l0 a1 a2 a3 (!t176)))))) else (some false))) = some r := h
  clear h
  replace H := Option.bind_eq_some_iff.mp H
  obtain ⟨t175, A50, H⟩ := H
  replace H : (if t175 = true then (if (l0.length : Int) > 400 then (soundingslaw06_PickWider.j0 k l0 a1 a2 a3 true) else (if a2 < 1 then (soundingslaw06_PickWider.j0 k l0 a1 a2 a3 true) else (if a3 < a2 then (soundingslaw06_PickWider.j0 k l0 a1 a2 a3 true) else ((soundingsref06_May.f k l0 a1 a3).bind fun t176 => (soundingslaw06_PickWider.j0 k l0 a1 a2 a3 (!t176)))))) else (some false)) = some r := H
  have A5 := Aside0.mk A50
  clear A50
  by_cases c6 : t175 = true
  · subst c6
    have H1 : (if (l0.length : Int) > 400 then (soundingslaw06_PickWider.j0 k l0 a1 a2 a3 true) else (if a2 < 1 then (soundingslaw06_PickWider.j0 k l0 a1 a2 a3 true) else (if a3 < a2 then (soundingslaw06_PickWider.j0 k l0 a1 a2 a3 true) else ((soundingsref06_May.f k l0 a1 a3).bind fun t176 => (soundingslaw06_PickWider.j0 k l0 a1 a2 a3 (!t176)))))) = some r := by rw [if_pos rfl] at H; exact H
    clear H
    have H := H1
    clear H1
    have HC7 := Aside0.mk H
    clear H
    go_enter Try.func7, Try.ntmps7
    go_upto_region 3 with (first | (go_at_call 13; (with_reducible refine (soundingslaw06_awake.calls k  true _ A5.out).mono ?_); rintro e w8 ⟨rfl, hb⟩; have n0_ := Aside0.mk (below_step (by repeat (first | (with_reducible first | exact HB.out | apply below_alloc | apply pw_below_drewN | apply below_drew1) | exact HB.out)) hb); clear HB; have HB := n0_; clear n0_; (try clear hb); (try clear hb2); (try clear hk); (try clear hi)))
    repeat (go_quiet (first | (go_at_call 13; (with_reducible refine (soundingslaw06_awake.calls k  true _ A5.out).mono ?_); rintro e w8 ⟨rfl, hb⟩; have n0_ := Aside0.mk (below_step (by repeat (first | (with_reducible first | exact HB.out | apply below_alloc | apply pw_below_drewN | apply below_drew1) | exact HB.out)) hb); clear HB; have HB := n0_; clear n0_; (try clear hb); (try clear hb2); (try clear hk); (try clear hi))); go_upto_region 3 with (first | (go_at_call 13; (with_reducible refine (soundingslaw06_awake.calls k  true _ A5.out).mono ?_); rintro e w8 ⟨rfl, hb⟩; have n0_ := Aside0.mk (below_step (by repeat (first | (with_reducible first | exact HB.out | apply below_alloc | apply pw_below_drewN | apply below_drew1) | exact HB.out)) hb); clear HB; have HB := n0_; clear n0_; (try clear hb); (try clear hb2); (try clear hk); (try clear hi))))
    (try simp only [Act.put, List.setIfInBounds_toArray, List.set_cons_zero, List.set_cons_succ])
    go_cut [36] (fun v36 wc => ∃ (kq : Nat) (x36_6 : Bool), v36 = .bool x36_6 ∧ Aside0 (soundingslaw06_PickWider.j0 kq l0 a1 a2 a3 x36_6 = some r) ∧ Aside0 (kq ≤ k) ∧ Aside0 (Below w.heap.size w wc))
    case first =>
      have H := HC7.out
      clear HC7
      by_cases c9 : (l0.length : Int) > 400
      · rw [if_pos c9] at H
        have c9b0 : decide (400 < (l0.length : Int)) = true := decide_eq_true c9
        have c9b1 : decide (400 < l0.length) = true := decide_eq_true (by omega)
        clear c9
        (first | rw [c9b0] | (simp only [i64_w, i32_w]; rw [c9b0]) | skip)
        have H' := Aside0.mk H
        clear H
        go_wp2
        repeat (go_quiet (fail); try go_wp2)
        go_meet
        case rel => exact ⟨_, (true), (by first | rfl | (simp; done) | (simp [*]; done)), H', ⟨by first | omega | exact Nat.le_refl _⟩, ⟨by repeat (first | (with_reducible first | exact HB.out | apply below_alloc | apply pw_below_drewN | apply below_drew1) | exact HB.out)⟩⟩
      · rw [if_neg c9] at H
        have c9b0 : decide (400 < (l0.length : Int)) = false := decide_eq_false c9
        have c9b1 : decide (400 < l0.length) = false := decide_eq_false (by omega)
        clear c9
        (first | rw [c9b0] | (simp only [i64_w, i32_w]; rw [c9b0]) | skip)
        by_cases c10 : a2 < 1
        · rw [if_pos c10] at H
          have c10b0 : decide (a2 < 1) = true := decide_eq_true c10
          clear c10
          have H' := Aside0.mk H
          clear H
          go_wp2
          repeat (go_quiet (fail); try go_wp2)
          go_meet
          case rel => exact ⟨_, (true), (by first | rfl | (simp; done) | (simp [*]; done)), H', ⟨by first | omega | exact Nat.le_refl _⟩, ⟨by repeat (first | (with_reducible first | exact HB.out | apply below_alloc | apply pw_below_drewN | apply below_drew1) | exact HB.out)⟩⟩
        · rw [if_neg c10] at H
          have c10b0 : decide (a2 < 1) = false := decide_eq_false c10
          clear c10
          by_cases c11 : a3 < a2
          · rw [if_pos c11] at H
            have c11b0 : decide (a3 < a2) = true := decide_eq_true c11
            clear c11
            have H' := Aside0.mk H
            clear H
            go_wp2
            repeat (go_quiet (fail); try go_wp2)
            go_meet
            case rel => exact ⟨_, (true), (by first | rfl | (simp; done) | (simp [*]; done)), H', ⟨by first | omega | exact Nat.le_refl _⟩, ⟨by repeat (first | (with_reducible first | exact HB.out | apply below_alloc | apply pw_below_drewN | apply below_drew1) | exact HB.out)⟩⟩
          · rw [if_neg c11] at H
            have c11b0 : decide (a3 < a2) = false := decide_eq_false c11
            clear c11
            replace H := Option.bind_eq_some_iff.mp H
            obtain ⟨t176, A120, H⟩ := H
            replace H : (soundingslaw06_PickWider.j0 k l0 a1 a2 a3 (!t176)) = some r := H
            have A12 := Aside0.mk A120
            clear A120
            have H' := Aside0.mk H
            clear H
            go_wp2_with (first | (go_at_call 19; (with_reducible refine (soundingsref06_May.calls k _ _ l0 a1 a3 t176 _ ?side1 ?side2 A12.out).mono ?_); (case side1 => repeat (first | exact (Kd.C_below HR0.out HB.out) | (with_reducible refine Kd.C_alloc ?_ _) | (with_reducible refine Kd.C_drewN ?_ _) | (with_reducible refine Kd.C_drew ?_))); (case side2 => exact HC0.out); rintro e w' ⟨rfl, ⟨nd, rfl⟩⟩; (try first | exact ⟨rfl, _, World.drewN_drewN _ _ _⟩ | exact ⟨rfl, _, Eq.trans (World.drewN_drewN _ _ _) (congrArg (World.drewN _) (Nat.add_assoc _ _ _))⟩)))
            repeat (go_quiet (first | (go_at_call 19; (with_reducible refine (soundingsref06_May.calls k _ _ l0 a1 a3 t176 _ ?side1 ?side2 A12.out).mono ?_); (case side1 => repeat (first | exact (Kd.C_below HR0.out HB.out) | (with_reducible refine Kd.C_alloc ?_ _) | (with_reducible refine Kd.C_drewN ?_ _) | (with_reducible refine Kd.C_drew ?_))); (case side2 => exact HC0.out); rintro e w' ⟨rfl, ⟨nd, rfl⟩⟩; (try first | exact ⟨rfl, _, World.drewN_drewN _ _ _⟩ | exact ⟨rfl, _, Eq.trans (World.drewN_drewN _ _ _) (congrArg (World.drewN _) (Nat.add_assoc _ _ _))⟩))); try go_wp2_with (first | (go_at_call 19; (with_reducible refine (soundingsref06_May.calls k _ _ l0 a1 a3 t176 _ ?side1 ?side2 A12.out).mono ?_); (case side1 => repeat (first | exact (Kd.C_below HR0.out HB.out) | (with_reducible refine Kd.C_alloc ?_ _) | (with_reducible refine Kd.C_drewN ?_ _) | (with_reducible refine Kd.C_drew ?_))); (case side2 => exact HC0.out); rintro e w' ⟨rfl, ⟨nd, rfl⟩⟩; (try first | exact ⟨rfl, _, World.drewN_drewN _ _ _⟩ | exact ⟨rfl, _, Eq.trans (World.drewN_drewN _ _ _) (congrArg (World.drewN _) (Nat.add_assoc _ _ _))⟩))))
            go_meet
            case rel => exact ⟨_, (!t176), (by first | rfl | (simp; done) | (simp [*]; done)), H', ⟨by first | omega | exact Nat.le_refl _⟩, ⟨by repeat (first | (with_reducible first | exact HB.out | apply below_alloc | apply pw_below_drewN | apply below_drew1) | exact HB.out)⟩⟩
    case rest =>
      clear HC7
      try clear c1
      try clear p2
      try clear c6
      try clear c7
      try clear c9
      try clear c9b0
      try clear c9b1
      try clear c10
      try clear c10b0
      try clear c11
      try clear c11b0
      obtain ⟨kq, x36_6, rfl, HA, HJ6, HB⟩ := hcut
      cases kq with
      | zero => exact absurd HA.out (by simp [soundingslaw06_PickWider.j0])
      | succ kj6 =>
        have H := HA.out
        clear HA
        simp only [soundingslaw06_PickWider.j0] at H
        by_cases c13 : x36_6 = true
        · subst c13
          have H1 : (some true) = some r := by rw [if_pos rfl] at H; exact H
          clear H
          have H := H1
          clear H1
          obtain rfl := Option.some.inj H
          go_wp2
          repeat (go_quiet (fail); try go_wp2)
          go_ret
          exact ⟨by first | rfl | (simp [errW_none, errW_some] <;> rfl) | (simp [*, errW_none, errW_some] <;> rfl), by repeat (first | (with_reducible first | exact HB.out | apply below_alloc | apply pw_below_drewN | apply below_drew1) | exact HB.out)⟩
        · replace c13 := Bool.eq_false_iff.mpr c13
          subst c13
          have H1 : ((pick_Window.f l0 a1 a2).bind fun t177 => ((pick_Window.f l0 a1 a3).bind fun t180 => ((pick_At.f kj6 l0 a1 a2).bind fun bt183 => ((pick_At.f kj6 l0 a1 a3).bind fun bt185 => (if (t177.length : Int) > (t180.length : Int) then (soundingslaw06_PickWider.j1 kj6 a1 a2 t177 t180 true) else (if bt183.2 = true then (if bt185.2 = true then (soundingslaw06_PickWider.j1 kj6 a1 a2 t177 t180 (bt183.1 != bt185.1)) else (soundingslaw06_PickWider.j1 kj6 a1 a2 t177 t180 true)) else (soundingslaw06_PickWider.j1 kj6 a1 a2 t177 t180 false))))))) = some r := by rw [if_neg (show ¬ (false = true) by decide)] at H; exact H
          clear H
          have H := H1
          clear H1
          replace H := Option.bind_eq_some_iff.mp H
          obtain ⟨t177, A140, H⟩ := H
          replace H : ((pick_Window.f l0 a1 a3).bind fun t180 => ((pick_At.f kj6 l0 a1 a2).bind fun bt183 => ((pick_At.f kj6 l0 a1 a3).bind fun bt185 => (if (t177.length : Int) > (t180.length : Int) then (soundingslaw06_PickWider.j1 kj6 a1 a2 t177 t180 true) else (if bt183.2 = true then (if bt185.2 = true then (soundingslaw06_PickWider.j1 kj6 a1 a2 t177 t180 (bt183.1 != bt185.1)) else (soundingslaw06_PickWider.j1 kj6 a1 a2 t177 t180 true)) else (soundingslaw06_PickWider.j1 kj6 a1 a2 t177 t180 false)))))) = some r := H
          have A14 := Aside0.mk A140
          clear A140
          replace H := Option.bind_eq_some_iff.mp H
          obtain ⟨t180, A150, H⟩ := H
          replace H : ((pick_At.f kj6 l0 a1 a2).bind fun bt183 => ((pick_At.f kj6 l0 a1 a3).bind fun bt185 => (if (t177.length : Int) > (t180.length : Int) then (soundingslaw06_PickWider.j1 kj6 a1 a2 t177 t180 true) else (if bt183.2 = true then (if bt185.2 = true then (soundingslaw06_PickWider.j1 kj6 a1 a2 t177 t180 (bt183.1 != bt185.1)) else (soundingslaw06_PickWider.j1 kj6 a1 a2 t177 t180 true)) else (soundingslaw06_PickWider.j1 kj6 a1 a2 t177 t180 false))))) = some r := H
          have A15 := Aside0.mk A150
          clear A150
          replace H := Option.bind_eq_some_iff.mp H
          obtain ⟨⟨t183, t184⟩, A160, H⟩ := H
          replace H : ((pick_At.f kj6 l0 a1 a3).bind fun bt185 => (if (t177.length : Int) > (t180.length : Int) then (soundingslaw06_PickWider.j1 kj6 a1 a2 t177 t180 true) else (if t184 = true then (if bt185.2 = true then (soundingslaw06_PickWider.j1 kj6 a1 a2 t177 t180 (t183 != bt185.1)) else (soundingslaw06_PickWider.j1 kj6 a1 a2 t177 t180 true)) else (soundingslaw06_PickWider.j1 kj6 a1 a2 t177 t180 false)))) = some r := H
          have A16 := Aside0.mk A160
          clear A160
          replace H := Option.bind_eq_some_iff.mp H
          obtain ⟨⟨t185, t186⟩, A170, H⟩ := H
          replace H : (if (t177.length : Int) > (t180.length : Int) then (soundingslaw06_PickWider.j1 kj6 a1 a2 t177 t180 true) else (if t184 = true then (if t186 = true then (soundingslaw06_PickWider.j1 kj6 a1 a2 t177 t180 (t183 != t185)) else (soundingslaw06_PickWider.j1 kj6 a1 a2 t177 t180 true)) else (soundingslaw06_PickWider.j1 kj6 a1 a2 t177 t180 false))) = some r := H
          have A17 := Aside0.mk A170
          clear A170
          have HC18 := Aside0.mk H
          clear H
          go_upto_region 8 with (first | (go_at_call 17; (with_reducible refine (pick_Window.calls _ _ l0 a1 a2 t177 _ ?side1 ?side2 A14.out).mono ?_); (case side1 => repeat (first | exact (Kd.C_below HR0.out HB.out) | (with_reducible refine Kd.C_alloc ?_ _) | (with_reducible refine Kd.C_drewN ?_ _) | (with_reducible refine Kd.C_drew ?_))); (case side2 => exact HC0.out); rintro e w19 ⟨v178, rfl, ho0, hb⟩; have n0_ := Aside0.mk (Kd.R_lower ho0 (below_size (by repeat (first | (with_reducible first | exact HB.out | apply below_alloc | apply pw_below_drewN | apply below_drew1) | exact HB.out)))); have n1_ := Aside0.mk (below_step (by repeat (first | (with_reducible first | exact HB.out | apply below_alloc | apply pw_below_drewN | apply below_drew1) | exact HB.out)) hb); clear HB; have HO179 := n0_; have HB := n1_; clear n0_ n1_; (try clear hb); (try clear hb2); (try clear hk); (try clear hi); (try clear ho0)) | (go_at_call 17; (with_reducible refine (pick_Window.calls _ _ l0 a1 a3 t180 _ ?side1 ?side2 A15.out).mono ?_); (case side1 => repeat (first | exact (Kd.C_below HR0.out HB.out) | (with_reducible refine Kd.C_alloc ?_ _) | (with_reducible refine Kd.C_drewN ?_ _) | (with_reducible refine Kd.C_drew ?_))); (case side2 => exact HC0.out); rintro e w20 ⟨v181, rfl, ho0, hb⟩; have n0_ := Aside0.mk (Kd.R_elder' (by (with_reducible repeat (first | apply Kd.R_alloc | apply Kd.R_drewN | apply Kd.R_drew)); exact HO179.out) (Kd.R_base ho0) hb); have n1_ := Aside0.mk (Kd.R_lower (Kd.R_new' ho0 (Kd.R_lt (by (with_reducible repeat (first | apply Kd.R_alloc | apply Kd.R_drewN | apply Kd.R_drew)); exact HO179.out))) (below_size (by repeat (first | (with_reducible first | exact HB.out | apply below_alloc | apply pw_below_drewN | apply below_drew1) | exact HB.out)))); have n2_ := Aside0.mk (below_step (by repeat (first | (with_reducible first | exact HB.out | apply below_alloc | apply pw_below_drewN | apply below_drew1) | exact HB.out)) hb); clear HO179; clear HB; have HO179 := n0_; have HO182 := n1_; have HB := n2_; clear n0_ n1_ n2_; (try clear hb); (try clear hb2); (try clear hk); (try clear hi); (try clear ho0)) | (go_at_call 14; (with_reducible refine (pick_At.calls kj6 _ _ l0 a1 a2 t183 t184 _ ?side1 ?side2 A16.out).mono ?_); (case side1 => repeat (first | exact (Kd.C_below HR0.out HB.out) | (with_reducible refine Kd.C_alloc ?_ _) | (with_reducible refine Kd.C_drewN ?_ _) | (with_reducible refine Kd.C_drew ?_))); (case side2 => exact HC0.out); rintro e w21 ⟨rfl, hb⟩; have n0_ := Aside0.mk (Kd.R_below (by (with_reducible repeat (first | apply Kd.R_alloc | apply Kd.R_drewN | apply Kd.R_drew)); exact HO179.out) hb); have n1_ := Aside0.mk (Kd.R_below (by (with_reducible repeat (first | apply Kd.R_alloc | apply Kd.R_drewN | apply Kd.R_drew)); exact HO182.out) hb); have n2_ := Aside0.mk (below_step (by repeat (first | (with_reducible first | exact HB.out | apply below_alloc | apply pw_below_drewN | apply below_drew1) | exact HB.out)) hb); clear HO179; clear HO182; clear HB; have HO179 := n0_; have HO182 := n1_; have HB := n2_; clear n0_ n1_ n2_; (try clear hb); (try clear hb2); (try clear hk); (try clear hi)) | (go_at_call 14; (with_reducible refine (pick_At.calls kj6 _ _ l0 a1 a3 t185 t186 _ ?side1 ?side2 A17.out).mono ?_); (case side1 => repeat (first | exact (Kd.C_below HR0.out HB.out) | (with_reducible refine Kd.C_alloc ?_ _) | (with_reducible refine Kd.C_drewN ?_ _) | (with_reducible refine Kd.C_drew ?_))); (case side2 => exact HC0.out); rintro e w22 ⟨rfl, hb⟩; have n0_ := Aside0.mk (Kd.R_below (by (with_reducible repeat (first | apply Kd.R_alloc | apply Kd.R_drewN | apply Kd.R_drew)); exact HO179.out) hb); have n1_ := Aside0.mk (Kd.R_below (by (with_reducible repeat (first | apply Kd.R_alloc | apply Kd.R_drewN | apply Kd.R_drew)); exact HO182.out) hb); have n2_ := Aside0.mk (below_step (by repeat (first | (with_reducible first | exact HB.out | apply below_alloc | apply pw_below_drewN | apply below_drew1) | exact HB.out)) hb); clear HO179; clear HO182; clear HB; have HO179 := n0_; have HO182 := n1_; have HB := n2_; clear n0_ n1_ n2_; (try clear hb); (try clear hb2); (try clear hk); (try clear hi)))
          repeat (go_quiet (first | (go_at_call 17; (with_reducible refine (pick_Window.calls _ _ l0 a1 a2 t177 _ ?side1 ?side2 A14.out).mono ?_); (case side1 => repeat (first | exact (Kd.C_below HR0.out HB.out) | (with_reducible refine Kd.C_alloc ?_ _) | (with_reducible refine Kd.C_drewN ?_ _) | (with_reducible refine Kd.C_drew ?_))); (case side2 => exact HC0.out); rintro e w19 ⟨v178, rfl, ho0, hb⟩; have n0_ := Aside0.mk (Kd.R_lower ho0 (below_size (by repeat (first | (with_reducible first | exact HB.out | apply below_alloc | apply pw_below_drewN | apply below_drew1) | exact HB.out)))); have n1_ := Aside0.mk (below_step (by repeat (first | (with_reducible first | exact HB.out | apply below_alloc | apply pw_below_drewN | apply below_drew1) | exact HB.out)) hb); clear HB; have HO179 := n0_; have HB := n1_; clear n0_ n1_; (try clear hb); (try clear hb2); (try clear hk); (try clear hi); (try clear ho0)) | (go_at_call 17; (with_reducible refine (pick_Window.calls _ _ l0 a1 a3 t180 _ ?side1 ?side2 A15.out).mono ?_); (case side1 => repeat (first | exact (Kd.C_below HR0.out HB.out) | (with_reducible refine Kd.C_alloc ?_ _) | (with_reducible refine Kd.C_drewN ?_ _) | (with_reducible refine Kd.C_drew ?_))); (case side2 => exact HC0.out); rintro e w20 ⟨v181, rfl, ho0, hb⟩; have n0_ := Aside0.mk (Kd.R_elder' (by (with_reducible repeat (first | apply Kd.R_alloc | apply Kd.R_drewN | apply Kd.R_drew)); exact HO179.out) (Kd.R_base ho0) hb); have n1_ := Aside0.mk (Kd.R_lower (Kd.R_new' ho0 (Kd.R_lt (by (with_reducible repeat (first | apply Kd.R_alloc | apply Kd.R_drewN | apply Kd.R_drew)); exact HO179.out))) (below_size (by repeat (first | (with_reducible first | exact HB.out | apply below_alloc | apply pw_below_drewN | apply below_drew1) | exact HB.out)))); have n2_ := Aside0.mk (below_step (by repeat (first | (with_reducible first | exact HB.out | apply below_alloc | apply pw_below_drewN | apply below_drew1) | exact HB.out)) hb); clear HO179; clear HB; have HO179 := n0_; have HO182 := n1_; have HB := n2_; clear n0_ n1_ n2_; (try clear hb); (try clear hb2); (try clear hk); (try clear hi); (try clear ho0)) | (go_at_call 14; (with_reducible refine (pick_At.calls kj6 _ _ l0 a1 a2 t183 t184 _ ?side1 ?side2 A16.out).mono ?_); (case side1 => repeat (first | exact (Kd.C_below HR0.out HB.out) | (with_reducible refine Kd.C_alloc ?_ _) | (with_reducible refine Kd.C_drewN ?_ _) | (with_reducible refine Kd.C_drew ?_))); (case side2 => exact HC0.out); rintro e w21 ⟨rfl, hb⟩; have n0_ := Aside0.mk (Kd.R_below (by (with_reducible repeat (first | apply Kd.R_alloc | apply Kd.R_drewN | apply Kd.R_drew)); exact HO179.out) hb); have n1_ := Aside0.mk (Kd.R_below (by (with_reducible repeat (first | apply Kd.R_alloc | apply Kd.R_drewN | apply Kd.R_drew)); exact HO182.out) hb); have n2_ := Aside0.mk (below_step (by repeat (first | (with_reducible first | exact HB.out | apply below_alloc | apply pw_below_drewN | apply below_drew1) | exact HB.out)) hb); clear HO179; clear HO182; clear HB; have HO179 := n0_; have HO182 := n1_; have HB := n2_; clear n0_ n1_ n2_; (try clear hb); (try clear hb2); (try clear hk); (try clear hi)) | (go_at_call 14; (with_reducible refine (pick_At.calls kj6 _ _ l0 a1 a3 t185 t186 _ ?side1 ?side2 A17.out).mono ?_); (case side1 => repeat (first | exact (Kd.C_below HR0.out HB.out) | (with_reducible refine Kd.C_alloc ?_ _) | (with_reducible refine Kd.C_drewN ?_ _) | (with_reducible refine Kd.C_drew ?_))); (case side2 => exact HC0.out); rintro e w22 ⟨rfl, hb⟩; have n0_ := Aside0.mk (Kd.R_below (by (with_reducible repeat (first | apply Kd.R_alloc | apply Kd.R_drewN | apply Kd.R_drew)); exact HO179.out) hb); have n1_ := Aside0.mk (Kd.R_below (by (with_reducible repeat (first | apply Kd.R_alloc | apply Kd.R_drewN | apply Kd.R_drew)); exact HO182.out) hb); have n2_ := Aside0.mk (below_step (by repeat (first | (with_reducible first | exact HB.out | apply below_alloc | apply pw_below_drewN | apply below_drew1) | exact HB.out)) hb); clear HO179; clear HO182; clear HB; have HO179 := n0_; have HO182 := n1_; have HB := n2_; clear n0_ n1_ n2_; (try clear hb); (try clear hb2); (try clear hk); (try clear hi))); go_upto_region 8 with (first | (go_at_call 17; (with_reducible refine (pick_Window.calls _ _ l0 a1 a2 t177 _ ?side1 ?side2 A14.out).mono ?_); (case side1 => repeat (first | exact (Kd.C_below HR0.out HB.out) | (with_reducible refine Kd.C_alloc ?_ _) | (with_reducible refine Kd.C_drewN ?_ _) | (with_reducible refine Kd.C_drew ?_))); (case side2 => exact HC0.out); rintro e w19 ⟨v178, rfl, ho0, hb⟩; have n0_ := Aside0.mk (Kd.R_lower ho0 (below_size (by repeat (first | (with_reducible first | exact HB.out | apply below_alloc | apply pw_below_drewN | apply below_drew1) | exact HB.out)))); have n1_ := Aside0.mk (below_step (by repeat (first | (with_reducible first | exact HB.out | apply below_alloc | apply pw_below_drewN | apply below_drew1) | exact HB.out)) hb); clear HB; have HO179 := n0_; have HB := n1_; clear n0_ n1_; (try clear hb); (try clear hb2); (try clear hk); (try clear hi); (try clear ho0)) | (go_at_call 17; (with_reducible refine (pick_Window.calls _ _ l0 a1 a3 t180 _ ?side1 ?side2 A15.out).mono ?_); (case side1 => repeat (first | exact (Kd.C_below HR0.out HB.out) | (with_reducible refine Kd.C_alloc ?_ _) | (with_reducible refine Kd.C_drewN ?_ _) | (with_reducible refine Kd.C_drew ?_))); (case side2 => exact HC0.out); rintro e w20 ⟨v181, rfl, ho0, hb⟩; have n0_ := Aside0.mk (Kd.R_elder' (by (with_reducible repeat (first | apply Kd.R_alloc | apply Kd.R_drewN | apply Kd.R_drew)); exact HO179.out) (Kd.R_base ho0) hb); have n1_ := Aside0.mk (Kd.R_lower (Kd.R_new' ho0 (Kd.R_lt (by (with_reducible repeat (first | apply Kd.R_alloc | apply Kd.R_drewN | apply Kd.R_drew)); exact HO179.out))) (below_size (by repeat (first | (with_reducible first | exact HB.out | apply below_alloc | apply pw_below_drewN | apply below_drew1) | exact HB.out)))); have n2_ := Aside0.mk (below_step (by repeat (first | (with_reducible first | exact HB.out | apply below_alloc | apply pw_below_drewN | apply below_drew1) | exact HB.out)) hb); clear HO179; clear HB; have HO179 := n0_; have HO182 := n1_; have HB := n2_; clear n0_ n1_ n2_; (try clear hb); (try clear hb2); (try clear hk); (try clear hi); (try clear ho0)) | (go_at_call 14; (with_reducible refine (pick_At.calls kj6 _ _ l0 a1 a2 t183 t184 _ ?side1 ?side2 A16.out).mono ?_); (case side1 => repeat (first | exact (Kd.C_below HR0.out HB.out) | (with_reducible refine Kd.C_alloc ?_ _) | (with_reducible refine Kd.C_drewN ?_ _) | (with_reducible refine Kd.C_drew ?_))); (case side2 => exact HC0.out); rintro e w21 ⟨rfl, hb⟩; have n0_ := Aside0.mk (Kd.R_below (by (with_reducible repeat (first | apply Kd.R_alloc | apply Kd.R_drewN | apply Kd.R_drew)); exact HO179.out) hb); have n1_ := Aside0.mk (Kd.R_below (by (with_reducible repeat (first | apply Kd.R_alloc | apply Kd.R_drewN | apply Kd.R_drew)); exact HO182.out) hb); have n2_ := Aside0.mk (below_step (by repeat (first | (with_reducible first | exact HB.out | apply below_alloc | apply pw_below_drewN | apply below_drew1) | exact HB.out)) hb); clear HO179; clear HO182; clear HB; have HO179 := n0_; have HO182 := n1_; have HB := n2_; clear n0_ n1_ n2_; (try clear hb); (try clear hb2); (try clear hk); (try clear hi)) | (go_at_call 14; (with_reducible refine (pick_At.calls kj6 _ _ l0 a1 a3 t185 t186 _ ?side1 ?side2 A17.out).mono ?_); (case side1 => repeat (first | exact (Kd.C_below HR0.out HB.out) | (with_reducible refine Kd.C_alloc ?_ _) | (with_reducible refine Kd.C_drewN ?_ _) | (with_reducible refine Kd.C_drew ?_))); (case side2 => exact HC0.out); rintro e w22 ⟨rfl, hb⟩; have n0_ := Aside0.mk (Kd.R_below (by (with_reducible repeat (first | apply Kd.R_alloc | apply Kd.R_drewN | apply Kd.R_drew)); exact HO179.out) hb); have n1_ := Aside0.mk (Kd.R_below (by (with_reducible repeat (first | apply Kd.R_alloc | apply Kd.R_drewN | apply Kd.R_drew)); exact HO182.out) hb); have n2_ := Aside0.mk (below_step (by repeat (first | (with_reducible first | exact HB.out | apply below_alloc | apply pw_below_drewN | apply below_drew1) | exact HB.out)) hb); clear HO179; clear HO182; clear HB; have HO179 := n0_; have HO182 := n1_; have HB := n2_; clear n0_ n1_ n2_; (try clear hb); (try clear hb2); (try clear hk); (try clear hi))))
          (try simp only [Act.put, List.setIfInBounds_toArray, List.set_cons_zero, List.set_cons_succ])
          go_cut [75] (fun v75 wc => ∃ (kq : Nat) (x75_17 : Bool), v75 = .bool x75_17 ∧ Aside0 (soundingslaw06_PickWider.j1 kq a1 a2 t177 t180 x75_17 = some r) ∧ Aside0 (kq ≤ kj6) ∧ Aside0 (Kd.R k29 29 wc w.heap.size (fun k_ => some k_ ≠ (v181 : Value).ownBlock) v178 t177) ∧ Aside0 (Kd.R k29 29 wc w.heap.size (fun k_ => some k_ ≠ (v178 : Value).ownBlock) v181 t180) ∧ Aside0 (Below w.heap.size w wc))
          case first =>
            have H := HC18.out
            clear HC18
            by_cases c23 : (t177.length : Int) > (t180.length : Int)
            · rw [if_pos c23] at H
              have c23b0 : decide ((t180.length : Int) < (t177.length : Int)) = true := decide_eq_true c23
              have c23b1 : decide (t180.length < t177.length) = true := decide_eq_true (Int.ofNat_lt.mp c23)
              clear c23
              (first | rw [c23b0] | (simp only [i64_w, i32_w]; rw [c23b0]) | skip)
              have H' := Aside0.mk H
              clear H
              obtain ⟨Ao24, co24, eo24⟩ := Kd.R_slice HO179.out
              subst eo24
              obtain ⟨Ao25, co25, eo25⟩ := Kd.R_slice HO182.out
              subst eo25
              go_wp2
              repeat (go_quiet (fail); try go_wp2)
              go_meet
              case rel => exact ⟨_, (true), (by first | rfl | (simp; done) | (simp [*]; done)), H', ⟨by have := HJ6.out; first | omega | exact Nat.le_refl _⟩, ⟨by (with_reducible repeat (first | apply Kd.R_alloc | apply Kd.R_drewN | apply Kd.R_drew)); exact Kd.R_mono HO179.out (fun _ hk => hk.2)⟩, ⟨by (with_reducible repeat (first | apply Kd.R_alloc | apply Kd.R_drewN | apply Kd.R_drew)); exact Kd.R_mono HO182.out (fun _ hk => hk.2)⟩, ⟨by repeat (first | (with_reducible first | exact HB.out | apply below_alloc | apply pw_below_drewN | apply below_drew1) | exact HB.out)⟩⟩
            · rw [if_neg c23] at H
              have c23b0 : decide ((t180.length : Int) < (t177.length : Int)) = false := decide_eq_false c23
              have c23b1 : decide (t180.length < t177.length) = false := decide_eq_false (fun h => c23 (Int.ofNat_lt.mpr h))
              clear c23
              (first | rw [c23b0] | (simp only [i64_w, i32_w]; rw [c23b0]) | skip)
              by_cases c26 : t184 = true
              · subst c26
                have H1 : (if t186 = true then (soundingslaw06_PickWider.j1 kj6 a1 a2 t177 t180 (t183 != t185)) else (soundingslaw06_PickWider.j1 kj6 a1 a2 t177 t180 true)) = some r := by rw [if_pos rfl] at H; exact H
                clear H
                have H := H1
                clear H1
                by_cases c27 : t186 = true
                · subst c27
                  have H1 : (soundingslaw06_PickWider.j1 kj6 a1 a2 t177 t180 (t183 != t185)) = some r := by rw [if_pos rfl] at H; exact H
                  clear H
                  have H := H1
                  clear H1
                  have H' := Aside0.mk H
                  clear H
                  obtain ⟨Ao28, co28, eo28⟩ := Kd.R_slice HO179.out
                  subst eo28
                  obtain ⟨Ao29, co29, eo29⟩ := Kd.R_slice HO182.out
                  subst eo29
                  go_wp2
                  repeat (go_quiet (fail); try go_wp2)
                  go_meet
                  case rel => exact ⟨_, ((t183 != t185)), (by first | rfl | (simp; done) | (simp [*]; done)), H', ⟨by have := HJ6.out; first | omega | exact Nat.le_refl _⟩, ⟨by (with_reducible repeat (first | apply Kd.R_alloc | apply Kd.R_drewN | apply Kd.R_drew)); exact Kd.R_mono HO179.out (fun _ hk => hk.2)⟩, ⟨by (with_reducible repeat (first | apply Kd.R_alloc | apply Kd.R_drewN | apply Kd.R_drew)); exact Kd.R_mono HO182.out (fun _ hk => hk.2)⟩, ⟨by repeat (first | (with_reducible first | exact HB.out | apply below_alloc | apply pw_below_drewN | apply below_drew1) | exact HB.out)⟩⟩
                · replace c27 := Bool.eq_false_iff.mpr c27
                  subst c27
                  have H1 : (soundingslaw06_PickWider.j1 kj6 a1 a2 t177 t180 true) = some r := by rw [if_neg (show ¬ (false = true) by decide)] at H; exact H
                  clear H
                  have H := H1
                  clear H1
                  have H' := Aside0.mk H
                  clear H
                  obtain ⟨Ao30, co30, eo30⟩ := Kd.R_slice HO179.out
                  subst eo30
                  obtain ⟨Ao31, co31, eo31⟩ := Kd.R_slice HO182.out
                  subst eo31
                  go_wp2
                  repeat (go_quiet (fail); try go_wp2)
                  go_meet
                  case rel => exact ⟨_, (true), (by first | rfl | (simp; done) | (simp [*]; done)), H', ⟨by have := HJ6.out; first | omega | exact Nat.le_refl _⟩, ⟨by (with_reducible repeat (first | apply Kd.R_alloc | apply Kd.R_drewN | apply Kd.R_drew)); exact Kd.R_mono HO179.out (fun _ hk => hk.2)⟩, ⟨by (with_reducible repeat (first | apply Kd.R_alloc | apply Kd.R_drewN | apply Kd.R_drew)); exact Kd.R_mono HO182.out (fun _ hk => hk.2)⟩, ⟨by repeat (first | (with_reducible first | exact HB.out | apply below_alloc | apply pw_below_drewN | apply below_drew1) | exact HB.out)⟩⟩
              · replace c26 := Bool.eq_false_iff.mpr c26
                subst c26
                have H1 : (soundingslaw06_PickWider.j1 kj6 a1 a2 t177 t180 false) = some r := by rw [if_neg (show ¬ (false = true) by decide)] at H; exact H
                clear H
                have H := H1
                clear H1
                have H' := Aside0.mk H
                clear H
                obtain ⟨Ao32, co32, eo32⟩ := Kd.R_slice HO179.out
                subst eo32
                obtain ⟨Ao33, co33, eo33⟩ := Kd.R_slice HO182.out
                subst eo33
                go_wp2
                repeat (go_quiet (fail); try go_wp2)
                go_meet
                case rel => exact ⟨_, (false), (by first | rfl | (simp; done) | (simp [*]; done)), H', ⟨by have := HJ6.out; first | omega | exact Nat.le_refl _⟩, ⟨by (with_reducible repeat (first | apply Kd.R_alloc | apply Kd.R_drewN | apply Kd.R_drew)); exact Kd.R_mono HO179.out (fun _ hk => hk.2)⟩, ⟨by (with_reducible repeat (first | apply Kd.R_alloc | apply Kd.R_drewN | apply Kd.R_drew)); exact Kd.R_mono HO182.out (fun _ hk => hk.2)⟩, ⟨by repeat (first | (with_reducible first | exact HB.out | apply below_alloc | apply pw_below_drewN | apply below_drew1) | exact HB.out)⟩⟩
          case rest =>
            clear HC18
            try clear c1
            try clear c2
            try clear p2
            try clear c6
            try clear c7
            try clear c9
            try clear c9b0
            try clear c9b1
            try clear c10
            try clear c10b0
            try clear c11
            try clear c11b0
            try clear c13
            try clear c23
            try clear c23b0
            try clear c23b1
            try clear c26
            try clear c27
            try clear p2
            obtain ⟨kq, x75_17, rfl, HA, HJ17, HO_9, HO_10, HB⟩ := hcut
            cases kq with
            | zero => exact absurd HA.out (by simp [soundingslaw06_PickWider.j1])
            | succ kj17 =>
              have H := HA.out
              clear HA
              simp only [soundingslaw06_PickWider.j1] at H
              by_cases c34 : x75_17 = true
              · subst c34
                have H1 : (some false) = some r := by rw [if_pos rfl] at H; exact H
                clear H
                have H := H1
                clear H1
                obtain rfl := Option.some.inj H
                go_wp2
                repeat (go_quiet (fail); try go_wp2)
                go_ret
                exact ⟨by first | rfl | (simp [errW_none, errW_some] <;> rfl) | (simp [*, errW_none, errW_some] <;> rfl), by repeat (first | (with_reducible first | exact HB.out | apply below_alloc | apply pw_below_drewN | apply below_drew1) | exact HB.out)⟩
              · replace c34 := Bool.eq_false_iff.mpr c34
                subst c34
                have H1 : (soundingslaw06_PickWider.l0 kj17 a1 a2 t177 t180 0) = some r := by rw [if_neg (show ¬ (false = true) by decide)] at H; exact H
                clear H
                have H := H1
                clear H1
                have H' := Aside0.mk H
                clear H
                go_wp2
                repeat (go_quiet (fail); try go_wp2)
                go_loopg [15] kj17 (fun kq v15 w' => ∃ (x15_3 : Int), v15 = .int .i64 x15_3 ∧ Aside0 (soundingslaw06_PickWider.l0 kq a1 a2 t177 t180 x15_3 = some r) ∧ Aside0 (kq ≤ kj17) ∧ Aside0 (Kd.R k29 29 w' w.heap.size (fun k_ => some k_ ≠ (v181 : Value).ownBlock) v178 t177) ∧ Aside0 (Kd.R k29 29 w' w.heap.size (fun k_ => some k_ ≠ (v178 : Value).ownBlock) v181 t180) ∧ Aside0 (Below w.heap.size w w'))
                case atStart => exact ⟨(0), (by first | rfl | (simp; done) | (simp [*]; done)), H', ⟨Nat.le_refl _⟩, ⟨by (with_reducible repeat (first | apply Kd.R_alloc | apply Kd.R_drewN | apply Kd.R_drew)); exact HO_9.out⟩, ⟨by (with_reducible repeat (first | apply Kd.R_alloc | apply Kd.R_drewN | apply Kd.R_drew)); exact HO_10.out⟩, ⟨by repeat (first | (with_reducible first | exact HB.out | apply below_alloc | apply pw_below_drewN | apply below_drew1) | exact HB.out)⟩⟩
                case round =>
                  clear H'
                  try clear c1
                  try clear c2
                  try clear p2
                  try clear c3
                  try clear c6
                  try clear c7
                  try clear c9
                  try clear c9b0
                  try clear c9b1
                  try clear c10
                  try clear c10b0
                  try clear c11
                  try clear c11b0
                  try clear c13
                  try clear c23
                  try clear c23b0
                  try clear c23b1
                  try clear c26
                  try clear c27
                  try clear c34
                  try clear p2
                  obtain ⟨x15_3, rfl, HA, HK3, HO_9, HO_10, HB⟩ := hrel
                  cases gk with
                  | zero => exact absurd HA.out (by simp [soundingslaw06_PickWider.l0])
                  | succ k3 =>
                    have H := HA.out
                    clear HA
                    simp only [soundingslaw06_PickWider.l0] at H
                    by_cases c35 : x15_3 < (t177.length : Int)
                    · rw [if_pos c35] at H
                      have c35b0 : decide (x15_3 < (t177.length : Int)) = true := decide_eq_true c35
                      clear c35
                      by_cases c36 : 0 ≤ x15_3
                      · rw [if_pos c36] at H
                        have c36b0 : decide (0 ≤ x15_3) = true := decide_eq_true c36
                        clear c36
                        obtain ⟨ji37, hji37⟩ : ∃ j_ : Int, (wrap64 ((wrap64 ((t180.length : Int) - (t177.length : Int))) + x15_3)) = j_ := ⟨_, rfl⟩
                        replace H : (if 0 ≤ (ji37) then (if (ji37) < (t180.length : Int) then (if (!(((rd_T29 t177 x15_3).f0) == ((rd_T29 t180 (ji37)).f0)) || (!(((rd_T29 t177 x15_3).f1) == ((rd_T29 t180 (ji37)).f1)))) = true then (some false) else (if ((rd_T29 t177 x15_3).f1) = 9218868437227405314 then (some false) else (if ((rd_T29 t177 x15_3).f0) > a1 then (some false) else (if ((rd_T29 t177 x15_3).f0) ≤ (wrap64 (a1 - a2)) then (some false) else (soundingslaw06_PickWider.l0 k3 a1 a2 t177 t180 (wrap64 (x15_3 + 1))))))) else (none)) else (none)) = some r := by first | (rw [hji37] at H; exact H) | (simp only [hji37] at H ⊢; exact H)
                        have hji37w : (IntKind.i64.wrap ((wrap64 ((t180.length : Int) - (t177.length : Int))) + x15_3)) = ji37 := (i64_w _).trans hji37
                        by_cases c38 : 0 ≤ (ji37)
                        · rw [if_pos c38] at H
                          have c38b0 : decide (0 ≤ (ji37)) = true := decide_eq_true c38
                          clear c38
                          by_cases c39 : (ji37) < (t180.length : Int)
                          · rw [if_pos c39] at H
                            have c39b0 : decide ((ji37) < (t180.length : Int)) = true := decide_eq_true c39
                            clear c39
                            by_cases c40 : (!(((rd_T29 t177 x15_3).f0) == ((rd_T29 t180 (ji37)).f0)) || (!(((rd_T29 t177 x15_3).f1) == ((rd_T29 t180 (ji37)).f1)))) = true
                            · rw [if_pos c40] at H
                              have c40b0 : (!(((rd_T29 t177 x15_3).f0) == ((rd_T29 t180 (ji37)).f0)) || (!(((rd_T29 t177 x15_3).f1) == ((rd_T29 t180 (ji37)).f1)))) = true := c40
                              clear c40
                              obtain rfl := Option.some.inj H
                              obtain ⟨Ao41, co41, eo41⟩ := Kd.R_slice HO_9.out
                              subst eo41
                              have p187 : 0 ≤ (x15_3 : Int) := of_decide_eq_true (by first | (with_reducible assumption) | assumption)
                              have q187 : x15_3 < (t177.length : Int) := of_decide_eq_true (by first | (with_reducible assumption) | assumption)
                              obtain ⟨ad187, e187, hx187_0, hx187_1⟩ := at_T29 (Kd.R_reads' HO_9.out).2.2 x15_3 p187 q187
                              cases e187
                              replace p187 := eq_true p187
                              replace q187 := eq_true q187
                              obtain ⟨Ao42, co42, eo42⟩ := Kd.R_slice HO_10.out
                              subst eo42
                              have p188 : 0 ≤ ((ji37) : Int) := of_decide_eq_true (by first | (with_reducible assumption) | assumption)
                              have q188 : (ji37) < (t180.length : Int) := of_decide_eq_true (by first | (with_reducible assumption) | assumption)
                              obtain ⟨ad188, e188, hx188_0, hx188_1⟩ := at_T29 (Kd.R_reads' HO_10.out).2.2 (ji37) p188 q188
                              cases e188
                              replace p188 := eq_true p188
                              replace q188 := eq_true q188
                              go_wp2
                              repeat (go_quiet (fail); try go_wp2)
                              go_ret
                              exact ⟨by first | rfl | (simp [errW_none, errW_some] <;> rfl) | (simp only [← hji37]; first | rfl | (simp [errW_none, errW_some] <;> rfl)) | (simp [*, errW_none, errW_some] <;> rfl), by repeat (first | (with_reducible first | exact HB.out | apply below_alloc | apply pw_below_drewN | apply below_drew1) | exact HB.out)⟩
                            · rw [if_neg c40] at H
                              have c40b0 : (!(((rd_T29 t177 x15_3).f0) == ((rd_T29 t180 (ji37)).f0)) || (!(((rd_T29 t177 x15_3).f1) == ((rd_T29 t180 (ji37)).f1)))) = false := by simpa using c40
                              clear c40
                              by_cases c43 : ((rd_T29 t177 x15_3).f1) = 9218868437227405314
                              · rw [if_pos c43] at H
                                have c43b0 : (((rd_T29 t177 x15_3).f1) == 9218868437227405314) = true := beq_iff_eq.mpr c43
                                have c43b1 : (((rd_T29 t177 x15_3).f1) != 9218868437227405314) = false := bne_eq_false_iff_eq.mpr c43
                                clear c43
                                obtain rfl := Option.some.inj H
                                obtain ⟨Ao44, co44, eo44⟩ := Kd.R_slice HO_9.out
                                subst eo44
                                have p187 : 0 ≤ (x15_3 : Int) := of_decide_eq_true (by first | (with_reducible assumption) | assumption)
                                have q187 : x15_3 < (t177.length : Int) := of_decide_eq_true (by first | (with_reducible assumption) | assumption)
                                obtain ⟨ad187, e187, hx187_0, hx187_1⟩ := at_T29 (Kd.R_reads' HO_9.out).2.2 x15_3 p187 q187
                                cases e187
                                replace p187 := eq_true p187
                                replace q187 := eq_true q187
                                obtain ⟨Ao45, co45, eo45⟩ := Kd.R_slice HO_10.out
                                subst eo45
                                have p188 : 0 ≤ ((ji37) : Int) := of_decide_eq_true (by first | (with_reducible assumption) | assumption)
                                have q188 : (ji37) < (t180.length : Int) := of_decide_eq_true (by first | (with_reducible assumption) | assumption)
                                obtain ⟨ad188, e188, hx188_0, hx188_1⟩ := at_T29 (Kd.R_reads' HO_10.out).2.2 (ji37) p188 q188
                                cases e188
                                replace p188 := eq_true p188
                                replace q188 := eq_true q188
                                have p189 : 0 ≤ (x15_3 : Int) := of_decide_eq_true (by first | (with_reducible assumption) | assumption)
                                have q189 : x15_3 < (t177.length : Int) := of_decide_eq_true (by first | (with_reducible assumption) | assumption)
                                obtain ⟨ad189, e189, hx189_0, hx189_1⟩ := at_T29 (Kd.R_reads' HO_9.out).2.2 x15_3 p189 q189
                                obtain rfl : ad187 = ad189 := (by injection e189)
                                replace p189 := eq_true p189
                                replace q189 := eq_true q189
                                go_wp2
                                repeat (go_quiet (fail); try go_wp2)
                                go_ret
                                exact ⟨by first | rfl | (simp [errW_none, errW_some] <;> rfl) | (simp only [← hji37]; first | rfl | (simp [errW_none, errW_some] <;> rfl)) | (simp [*, errW_none, errW_some] <;> rfl), by repeat (first | (with_reducible first | exact HB.out | apply below_alloc | apply pw_below_drewN | apply below_drew1) | exact HB.out)⟩
                              · rw [if_neg c43] at H
                                have c43b0 : (((rd_T29 t177 x15_3).f1) == 9218868437227405314) = false := beq_eq_false_iff_ne.mpr c43
                                have c43b1 : (((rd_T29 t177 x15_3).f1) != 9218868437227405314) = true := bne_iff_ne.mpr c43
                                by_cases c46 : ((rd_T29 t177 x15_3).f0) > a1
                                · rw [if_pos c46] at H
                                  have c46b0 : decide (a1 < ((rd_T29 t177 x15_3).f0)) = true := decide_eq_true c46
                                  clear c46
                                  obtain rfl := Option.some.inj H
                                  obtain ⟨Ao47, co47, eo47⟩ := Kd.R_slice HO_9.out
                                  subst eo47
                                  have p187 : 0 ≤ (x15_3 : Int) := of_decide_eq_true (by first | (with_reducible assumption) | assumption)
                                  have q187 : x15_3 < (t177.length : Int) := of_decide_eq_true (by first | (with_reducible assumption) | assumption)
                                  obtain ⟨ad187, e187, hx187_0, hx187_1⟩ := at_T29 (Kd.R_reads' HO_9.out).2.2 x15_3 p187 q187
                                  cases e187
                                  replace p187 := eq_true p187
                                  replace q187 := eq_true q187
                                  obtain ⟨Ao48, co48, eo48⟩ := Kd.R_slice HO_10.out
                                  subst eo48
                                  have p188 : 0 ≤ ((ji37) : Int) := of_decide_eq_true (by first | (with_reducible assumption) | assumption)
                                  have q188 : (ji37) < (t180.length : Int) := of_decide_eq_true (by first | (with_reducible assumption) | assumption)
                                  obtain ⟨ad188, e188, hx188_0, hx188_1⟩ := at_T29 (Kd.R_reads' HO_10.out).2.2 (ji37) p188 q188
                                  cases e188
                                  replace p188 := eq_true p188
                                  replace q188 := eq_true q188
                                  have p189 : 0 ≤ (x15_3 : Int) := of_decide_eq_true (by first | (with_reducible assumption) | assumption)
                                  have q189 : x15_3 < (t177.length : Int) := of_decide_eq_true (by first | (with_reducible assumption) | assumption)
                                  obtain ⟨ad189, e189, hx189_0, hx189_1⟩ := at_T29 (Kd.R_reads' HO_9.out).2.2 x15_3 p189 q189
                                  obtain rfl : ad187 = ad189 := (by injection e189)
                                  replace p189 := eq_true p189
                                  replace q189 := eq_true q189
                                  have p190 : 0 ≤ (x15_3 : Int) := of_decide_eq_true (by first | (with_reducible assumption) | assumption)
                                  have q190 : x15_3 < (t177.length : Int) := of_decide_eq_true (by first | (with_reducible assumption) | assumption)
                                  obtain ⟨ad190, e190, hx190_0, hx190_1⟩ := at_T29 (Kd.R_reads' HO_9.out).2.2 x15_3 p190 q190
                                  obtain rfl : ad187 = ad190 := (by injection e190)
                                  replace p190 := eq_true p190
                                  replace q190 := eq_true q190
                                  go_wp2
                                  repeat (go_quiet (fail); try go_wp2)
                                  go_ret
                                  exact ⟨by first | rfl | (simp [errW_none, errW_some] <;> rfl) | (simp only [← hji37]; first | rfl | (simp [errW_none, errW_some] <;> rfl)) | (simp [*, errW_none, errW_some] <;> rfl), by repeat (first | (with_reducible first | exact HB.out | apply below_alloc | apply pw_below_drewN | apply below_drew1) | exact HB.out)⟩
                                · rw [if_neg c46] at H
                                  have c46b0 : decide (a1 < ((rd_T29 t177 x15_3).f0)) = false := decide_eq_false c46
                                  clear c46
                                  by_cases c49 : ((rd_T29 t177 x15_3).f0) ≤ (wrap64 (a1 - a2))
                                  · rw [if_pos c49] at H
                                    have c49b0 : decide (((rd_T29 t177 x15_3).f0) ≤ (wrap64 (a1 - a2))) = true := decide_eq_true c49
                                    clear c49
                                    obtain rfl := Option.some.inj H
                                    obtain ⟨Ao50, co50, eo50⟩ := Kd.R_slice HO_9.out
                                    subst eo50
                                    have p187 : 0 ≤ (x15_3 : Int) := of_decide_eq_true (by first | (with_reducible assumption) | assumption)
                                    have q187 : x15_3 < (t177.length : Int) := of_decide_eq_true (by first | (with_reducible assumption) | assumption)
                                    obtain ⟨ad187, e187, hx187_0, hx187_1⟩ := at_T29 (Kd.R_reads' HO_9.out).2.2 x15_3 p187 q187
                                    cases e187
                                    replace p187 := eq_true p187
                                    replace q187 := eq_true q187
                                    obtain ⟨Ao51, co51, eo51⟩ := Kd.R_slice HO_10.out
                                    subst eo51
                                    have p188 : 0 ≤ ((ji37) : Int) := of_decide_eq_true (by first | (with_reducible assumption) | assumption)
                                    have q188 : (ji37) < (t180.length : Int) := of_decide_eq_true (by first | (with_reducible assumption) | assumption)
                                    obtain ⟨ad188, e188, hx188_0, hx188_1⟩ := at_T29 (Kd.R_reads' HO_10.out).2.2 (ji37) p188 q188
                                    cases e188
                                    replace p188 := eq_true p188
                                    replace q188 := eq_true q188
                                    have p189 : 0 ≤ (x15_3 : Int) := of_decide_eq_true (by first | (with_reducible assumption) | assumption)
                                    have q189 : x15_3 < (t177.length : Int) := of_decide_eq_true (by first | (with_reducible assumption) | assumption)
                                    obtain ⟨ad189, e189, hx189_0, hx189_1⟩ := at_T29 (Kd.R_reads' HO_9.out).2.2 x15_3 p189 q189
                                    obtain rfl : ad187 = ad189 := (by injection e189)
                                    replace p189 := eq_true p189
                                    replace q189 := eq_true q189
                                    have p190 : 0 ≤ (x15_3 : Int) := of_decide_eq_true (by first | (with_reducible assumption) | assumption)
                                    have q190 : x15_3 < (t177.length : Int) := of_decide_eq_true (by first | (with_reducible assumption) | assumption)
                                    obtain ⟨ad190, e190, hx190_0, hx190_1⟩ := at_T29 (Kd.R_reads' HO_9.out).2.2 x15_3 p190 q190
                                    obtain rfl : ad187 = ad190 := (by injection e190)
                                    replace p190 := eq_true p190
                                    replace q190 := eq_true q190
                                    have p191 : 0 ≤ (x15_3 : Int) := of_decide_eq_true (by first | (with_reducible assumption) | assumption)
                                    have q191 : x15_3 < (t177.length : Int) := of_decide_eq_true (by first | (with_reducible assumption) | assumption)
                                    obtain ⟨ad191, e191, hx191_0, hx191_1⟩ := at_T29 (Kd.R_reads' HO_9.out).2.2 x15_3 p191 q191
                                    obtain rfl : ad187 = ad191 := (by injection e191)
                                    replace p191 := eq_true p191
                                    replace q191 := eq_true q191
                                    go_wp2
                                    repeat (go_quiet (fail); try go_wp2)
                                    go_ret
                                    exact ⟨by first | rfl | (simp [errW_none, errW_some] <;> rfl) | (simp only [← hji37]; first | rfl | (simp [errW_none, errW_some] <;> rfl)) | (simp [*, errW_none, errW_some] <;> rfl), by repeat (first | (with_reducible first | exact HB.out | apply below_alloc | apply pw_below_drewN | apply below_drew1) | exact HB.out)⟩
                                  · rw [if_neg c49] at H
                                    have c49b0 : decide (((rd_T29 t177 x15_3).f0) ≤ (wrap64 (a1 - a2))) = false := decide_eq_false c49
                                    clear c49
                                    have H' := Aside0.mk H
                                    clear H
                                    obtain ⟨Ao52, co52, eo52⟩ := Kd.R_slice HO_9.out
                                    subst eo52
                                    have p187 : 0 ≤ (x15_3 : Int) := of_decide_eq_true (by first | (with_reducible assumption) | assumption)
                                    have q187 : x15_3 < (t177.length : Int) := of_decide_eq_true (by first | (with_reducible assumption) | assumption)
                                    obtain ⟨ad187, e187, hx187_0, hx187_1⟩ := at_T29 (Kd.R_reads' HO_9.out).2.2 x15_3 p187 q187
                                    cases e187
                                    replace p187 := eq_true p187
                                    replace q187 := eq_true q187
                                    obtain ⟨Ao53, co53, eo53⟩ := Kd.R_slice HO_10.out
                                    subst eo53
                                    have p188 : 0 ≤ ((ji37) : Int) := of_decide_eq_true (by first | (with_reducible assumption) | assumption)
                                    have q188 : (ji37) < (t180.length : Int) := of_decide_eq_true (by first | (with_reducible assumption) | assumption)
                                    obtain ⟨ad188, e188, hx188_0, hx188_1⟩ := at_T29 (Kd.R_reads' HO_10.out).2.2 (ji37) p188 q188
                                    cases e188
                                    replace p188 := eq_true p188
                                    replace q188 := eq_true q188
                                    have p189 : 0 ≤ (x15_3 : Int) := of_decide_eq_true (by first | (with_reducible assumption) | assumption)
                                    have q189 : x15_3 < (t177.length : Int) := of_decide_eq_true (by first | (with_reducible assumption) | assumption)
                                    obtain ⟨ad189, e189, hx189_0, hx189_1⟩ := at_T29 (Kd.R_reads' HO_9.out).2.2 x15_3 p189 q189
                                    obtain rfl : ad187 = ad189 := (by injection e189)
                                    replace p189 := eq_true p189
                                    replace q189 := eq_true q189
                                    have p190 : 0 ≤ (x15_3 : Int) := of_decide_eq_true (by first | (with_reducible assumption) | assumption)
                                    have q190 : x15_3 < (t177.length : Int) := of_decide_eq_true (by first | (with_reducible assumption) | assumption)
                                    obtain ⟨ad190, e190, hx190_0, hx190_1⟩ := at_T29 (Kd.R_reads' HO_9.out).2.2 x15_3 p190 q190
                                    obtain rfl : ad187 = ad190 := (by injection e190)
                                    replace p190 := eq_true p190
                                    replace q190 := eq_true q190
                                    have p191 : 0 ≤ (x15_3 : Int) := of_decide_eq_true (by first | (with_reducible assumption) | assumption)
                                    have q191 : x15_3 < (t177.length : Int) := of_decide_eq_true (by first | (with_reducible assumption) | assumption)
                                    obtain ⟨ad191, e191, hx191_0, hx191_1⟩ := at_T29 (Kd.R_reads' HO_9.out).2.2 x15_3 p191 q191
                                    obtain rfl : ad187 = ad191 := (by injection e191)
                                    replace p191 := eq_true p191
                                    replace q191 := eq_true q191
                                    go_wp2
                                    repeat (go_quiet (fail); try go_wp2)
                                    go_roundg k3
                                    case measure => have := HJ6.out; have := HJ17.out; have := HK3.out; omega
                                    case rel => exact ⟨(wrap64 (x15_3 + 1)), (by first | rfl | (simp; done) | (simp [*]; done)), H', ⟨by have := HJ6.out; have := HJ17.out; have := HK3.out; omega⟩, ⟨by (with_reducible repeat (first | apply Kd.R_alloc | apply Kd.R_drewN | apply Kd.R_drew)); exact HO_9.out⟩, ⟨by (with_reducible repeat (first | apply Kd.R_alloc | apply Kd.R_drewN | apply Kd.R_drew)); exact HO_10.out⟩, ⟨by repeat (first | (with_reducible first | exact HB.out | apply below_alloc | apply pw_below_drewN | apply below_drew1) | exact HB.out)⟩⟩
                          · rw [if_neg c39] at H
                            exact absurd H (by simp)
                        · rw [if_neg c38] at H
                          exact absurd H (by simp)
                      · rw [if_neg c36] at H
                        exact absurd H (by simp)
                    · rw [if_neg c35] at H
                      have c35b0 : decide (x15_3 < (t177.length : Int)) = false := decide_eq_false c35
                      clear c35
                      obtain rfl := Option.some.inj H
                      obtain ⟨Ao54, co54, eo54⟩ := Kd.R_slice HO_9.out
                      subst eo54
                      go_wp2
                      repeat (go_quiet (fail); try go_wp2)
                      go_ret
                      exact ⟨by first | rfl | (simp [errW_none, errW_some] <;> rfl) | (simp [*, errW_none, errW_some] <;> rfl), by repeat (first | (with_reducible first | exact HB.out | apply below_alloc | apply pw_below_drewN | apply below_drew1) | exact HB.out)⟩
  · replace c6 := Bool.eq_false_iff.mpr c6
    subst c6
    have H1 : (some false) = some r := by rw [if_neg (show ¬ (false = true) by decide)] at H; exact H
    clear H
    have H := H1
    clear H1
    obtain rfl := Option.some.inj H
    go_enter Try.func7, Try.ntmps7
    go_wp2_with (first | (go_at_call 13; (with_reducible refine (soundingslaw06_awake.calls k  false _ A5.out).mono ?_); rintro e w55 ⟨rfl, hb⟩; have n0_ := Aside0.mk (below_step (by repeat (first | (with_reducible first | exact HB.out | apply below_alloc | apply pw_below_drewN | apply below_drew1) | exact HB.out)) hb); clear HB; have HB := n0_; clear n0_; (try clear hb); (try clear hb2); (try clear hk); (try clear hi)))
    repeat (go_quiet (first | (go_at_call 13; (with_reducible refine (soundingslaw06_awake.calls k  false _ A5.out).mono ?_); rintro e w55 ⟨rfl, hb⟩; have n0_ := Aside0.mk (below_step (by repeat (first | (with_reducible first | exact HB.out | apply below_alloc | apply pw_below_drewN | apply below_drew1) | exact HB.out)) hb); clear HB; have HB := n0_; clear n0_; (try clear hb); (try clear hb2); (try clear hk); (try clear hi))); try go_wp2_with (first | (go_at_call 13; (with_reducible refine (soundingslaw06_awake.calls k  false _ A5.out).mono ?_); rintro e w55 ⟨rfl, hb⟩; have n0_ := Aside0.mk (below_step (by repeat (first | (with_reducible first | exact HB.out | apply below_alloc | apply pw_below_drewN | apply below_drew1) | exact HB.out)) hb); clear HB; have HB := n0_; clear n0_; (try clear hb); (try clear hb2); (try clear hk); (try clear hi))))
    go_ret
    exact ⟨by first | rfl | (simp [errW_none, errW_some] <;> rfl) | (simp [*, errW_none, errW_some] <;> rfl), by repeat (first | (with_reducible first | exact HB.out | apply below_alloc | apply pw_below_drewN | apply below_drew1) | exact HB.out)⟩

end Go.Proofs.Ytmgbnnanophehaa.P
